/-
  The walk of accrual.Book on what is valid. (Printed by gen_acc6.py.)
-/
import Derived.Test.YtcnmoobojdopgaaGreatDoorI21
set_option linter.unusedVariables false
set_option linter.unusedSimpArgs false
set_option maxHeartbeats 16000000
set_option maxRecDepth 100000
namespace Go.Proofs.YtcnmoobojdopgaaGreatDoor
open Go.RowKit Tr Go.Shelf
theorem Aq9(n₀:Nat)(i:Inst)(A:Option Addr)(ls:List SLot)(c:Nat)(hc:ls.length≤c)(d:Int)(h:AOk i ls d)(w:World)(hR:RdB n₀ w A ls)(hn:n₀≤w.heap.size)(ht:Tabs w)(z1:(I (rnd (qsum ((ownL ls i.id).map fun l=>An9 i l.1 d)))).size≤4000000):
 Calls Tryz.prog 24 #[i.enc,.slice A ls.length c,.int .i64 d] w fun e w'=>e=.returned (.tuple #[.string (I (sumBy costOf (ownL ls i.id)+rnd (qsum ((ownL ls i.id).map fun l=>An9 i l.1 d)))),.int .i64 0])∧Below w.heap.size w w':=by
 obtain⟨W0,hW0,hB0,hz,hk⟩:=ibox i w
 obtain⟨c0,c1,c2,c3,c4,c5,c6,c7,c8,c9,c10,c11,c12,c13,c14⟩:=Acn hk
 have HT:=hI ht
 have HB0:=hI hB0
 have HK0:Hid (InstBox W0 w.heap.size i):=hk
 have HC1:=hI (Aq8 n₀ i A ls c hc d h W0 (hR.below (hB0.mono hn)) (Aap hn hB0.size) (ht.below hB0))
 have HC2:=hI (fun W (hb:Below w.heap.size w W)=>lTotal_any n₀ A ls c i.id W (by have:=h.len;omega) (hR.below (hb.mono hn)) (Aap hn hb.size) (ht.below hb))
 obtain⟨K,hK⟩:∃K,K=1000:=⟨_,rfl⟩
 have zc:=sumBy_size (cost_lt hK) (ownL ls i.id) (by have:(ownL ls i.id).length≤99:=Aap (List.length_filter_le _ _) h.len;omega)
 have zc':(I (sumBy costOf (ownL ls i.id))).size≤4000000:=by omega
 have HAD:=hI (fun W hW=>Af6 (I (sumBy costOf (ownL ls i.id))) (I (rnd (qsum ((ownL ls i.id).map fun l=>An9 i l.1 d)))) W (by omega) (by omega) hW)
 rw[vl_I,vl_I] at HAD
 generalize sumBy costOf (ownL ls i.id)=sc at *
 generalize sumBy qtyOf (ownL ls i.id)=sq at *
 generalize rnd (qsum ((ownL ls i.id).map fun l=>An9 i l.1 d))=rq at *
 clear h hR ht hB0 hk hz zc hK
 unfold Inst.enc Inst.cells at *
 go_enter Tryz.func24,Tryz.ntmps24
 go_wp2_with fail
 refine HC1.out.mono ?_
 rintro e w1 ⟨rfl,b1⟩
 have HB1:=hI (HB0.out.trans (b1.mono HB0.out.size))
 have hk1:=HK0.out.below b1
 clear c0 c1 c2 c3 c4 c5 c6 c7 c8 c9 c10 c11 c12 c13 c14
 have c0:=Aaa hk1 0
 simp at c0
 clear b1 hk1 HB0 HK0 HC1 hW0
 go_wp2_with fail
 refine (HC2.out _ HB1.out).mono ?_
 rintro e w2 ⟨rfl,b2⟩
 have HB2:=hI (HB1.out.trans (b2.mono HB1.out.size))
 clear b2 HB1 c0
 go_wp2_with fail
 refine (HAD.out _ (HT.out.below HB2.out)).mono ?_
 rintro e w3 ⟨rfl,b3⟩
 have B3:=HB2.out.trans (b3.mono HB2.out.size)
 clear b3
 go_wp2_with fail
 go_ret2
 exact⟨rfl,B3⟩
theorem Ara(A:Option Addr)(ls:List Lot)(c:Nat)(hcap:ls.length≤c)(hlm:ls.length≤9223372036854775807)(hti:∀l∈ls,l.tiny)(w:World)(hR:RdL w A ls):
 Calls Tryz.prog 76 #[.slice A ls.length c] w fun e w'=>e=.returned (.int .i64 (lall ls))∧Below w.heap.size w w':=by
 have HR:=hI hR
 have HTI:=hI hti
 clear hR hti
 by_cases hgr:1000<ls.length
 ·have t0:decide ((1000:Int)<(ls.length:Int))=true:=Aav (by omega)
  have HG:=hI (Ap8 hgr)
  clear hgr
  go_enter Tryz.func76,Tryz.ntmps76
  go_wp2_with fail
  go_ret
  exact⟨by rw[HG.out];rfl,Below.refl _ _⟩
 have hlen:ls.length≤1000:=by omega
 have t0:decide ((1000:Int)<(ls.length:Int))=false:=Aaw (by omega)
 clear hgr
 go_enter Tryz.func76,Tryz.ntmps76
 go_wp2_with fail
 go_loopw [3,4,5,6,24] (fun v _ _ _ _ wr=>∃k:Nat,v=.int .i64 (k:Int)∧k≤ls.length∧lallF (ls.take k) (ls.drop k)=lall ls∧Below w.heap.size w wr) (fun v _ _ _ _ _=>ls.length-(intOf v).toNat)
 case atStart=>exact⟨0,rfl,by omega,Ap6 hlen,Below.refl _ _⟩
 case round =>
  obtain⟨k,rfl,hk,hg,hb⟩:=hrel
  have HG:=hI hg
  have HB:=hI hb
  clear hg hb
  rcases Aam k ls.length with hlt|hge
  ·obtain⟨l,hl⟩:∃l,ls[k]?=some l:=⟨_,Aae hlt⟩
   have HR2:=hI HR.out
   obtain⟨ad,rfl,had,hcell⟩:=HR.out (by intro e;rw[e] at hlt;cases hlt)
   have hcx:decide ((k:Int)<(ls.length:Int))=true:=by simp;omega
   have HCE:=hI (hcell k l hl)
   have HAD:=hI had
   obtain⟨c0,c1,c2,c3,c4,c5,c6⟩:=(hcell k l hl).below HB.out (by rw[Ach];exact had)
   have HSN:=hI (Ap3 hl)
   have hlt1:=HTI.out l (Aar hl)
   have HAT:=hI (Ap5 hlen HG.out hl)
   have HC:=hI (fun W=>Ant l hlt1 W)
   clear hcell hl hlt1 had
   go_wp2_with fail
   refine (HC.out _).mono ?_
   rintro e w1 ⟨rfl,b1⟩
   obtain⟨n,hn⟩:∃n,lchk l=n:=⟨_,rfl⟩
   rw[hn]
   rw[hn] at HAT
   have HB1:=hI (HB.out.trans (b1.mono HB.out.size))
   clear b1 c0 c1 c2 c3 c4 c5 c6
   by_cases h0:n=0
   case neg =>
    have t1:(n==0)=false:=Aaj.2 h0
    have t2:(n != 0)=true:=by simp[bne,t1]
    have H0:=hI h0
    clear h0 hn
    go_wp2_with fail
    go_ret
    exact⟨by rw[HAT.out.1 H0.out];rfl,HB1.out⟩
   clear hn
   subst h0
   obtain⟨c0,c1,c2,c3,c4,c5,c6⟩:=HCE.out.below HB1.out (by rw[Ach];exact HAD.out)
   have HF:=hI (fun n=>Ag3 (Ana (some ad) ls k c (by omega) (by omega) l.id (w1.drewN n) ((HR2.out.below HB1.out).drewN n)))
   have HFF:=hI (findR_false (ls.take k) l.id 0)
   have HFT:=hI (fun (h:∀x∈ls.take k,x.id≠l.id)=>congrArg Prod.snd (Am8 h 0))
   clear HC
   go_wp2_with fail
   generalize findR (ls.take k) l.id 0=fr at HF HFF HFT
   obtain⟨fn,fb⟩:=fr
   go_quiet ((go_at_call 140;exact HF.out _))
   cases fb
   ·have HNE:=hI (HFF.out rfl)
    go_wp2_with fail
    go_roundw
    case rel =>
     exact⟨k+1,by go_num,by omega,HAT.out.2.2 (by trivial) (fun h=>by obtain⟨x,hx,e⟩:=List.mem_map.1 h;exact HNE.out x hx e),Acm HB1.out _⟩
    case measure=>simp[intOf];omega
   ·go_wp2_with fail
    go_ret
    refine⟨?_,Acm HB1.out _⟩
    rw[HAT.out.2.1 (by trivial) (Classical.byContradiction (fun hn=>by
     have:=HFT.out (fun x hx e=>hn (List.mem_map.2 ⟨x,hx,e⟩))
     cases this))]
    rfl
  ·have hcx:decide ((k:Int)<(ls.length:Int))=false:=by simp;omega
   have hkm:k=ls.length:=by omega
   subst hkm
   go_wp2_with fail
   go_ret
   exact⟨by rw[Ap7 HG.out];rfl,HB.out⟩
def ith(ds:List Int)(k:Nat):Int:=ds.getD k 0
def RdD(w:World)(A:Option Addr)(ds:List Int):Prop :=
 ds≠[]→∃ad:Addr,A=some ad∧ad.block<w.heap.size∧∀j,j<ds.length→w.cell? (ad.add j)=some (.int .i64 (ith ds j))
theorem RdD.below{w w':World}{A:Option Addr}{ds:List Int}(h:RdD w A ds)(hb:Below w.heap.size w w'):RdD w' A ds:=by
 intro hl
 obtain⟨ad,rfl,h1,h2⟩:=h hl
 exact⟨ad,rfl,Aah h1 hb.size,fun j hj=>(hb.cell (by rw[Ach];exact h1)).trans (h2 j hj)⟩
theorem ith_mem{ds:List Int}{k:Nat}(h:k<ds.length):ith ds k∈ds:=by
 unfold ith;rw[Aat,Aae h];exact List.getElem_mem h
structure BOk(i:Inst)(l:Lot):Prop where
 small:i.small
 ok:i.ok
 sized:l.sized
 lok:l.ok
 inst:l.inst=i.id
theorem ilbox(i:Inst)(l:Lot)(w:World):∃W0,(w.alloc (.cells i.cells 27)).alloc (.cells l.cells 63)=W0∧Below w.heap.size w W0∧InstBox W0 w.heap.size i∧LotBox W0 (w.heap.size+1) l:=by
 obtain⟨W0,hW0,hB,hz,k0,k1⟩:=box2 w (.cells i.cells 27) (.cells l.cells 63)
 exact⟨W0,hW0.symm,hB,k0,k1⟩
theorem Arb(i:Inst)(l:Lot)(A:Option Addr)(ds:List Int)(c:Nat)(hl:ds.length≤1000000)(h:BOk i l)(hd:∀d∈ds,okDay d)(w:World)(hR:RdD w A ds)(ht:Tabs w):
 Calls Tryz.prog 114 #[i.enc,l.enc,.slice A ds.length c] w fun e w'=>e=.returned (.int .i64 0)∧Below w.heap.size w w':=by
 obtain⟨W0,hW0,hB0,k0,k1⟩:=ilbox i l w
 obtain⟨c0,c1,c2,c3,c4,c5,c6,c7,c8,c9,c10,c11,c12,c13,c14⟩:=Acn k0
 obtain⟨o0,o1,o2,o3,o4,o5,o6⟩:=Acp k1
 have HT:=hI ht
 have HB0:=hI hB0
 have HK0:=hI k0
 have HK1:=hI k1
 have HC1:=hI (Amb i h.small.sized h.ok W0 (ht.below hB0))
 have HC2:=hI (fun W hW=>Ams l h.sized h.lok W hW)
 have HR:=hI (fun W (hb:Below w.heap.size w W)=>hR.below hb)
 have HD:=hI hd
 have HV:=hI (fun (k:Nat) (hk:k<ds.length) (W:World)=>An7 (ith ds k) W)
 have heq:=Anw l.inst i.id
 rw[Aav h.inst] at heq
 clear h hR ht hB0 k0 k1 hd
 unfold Inst.enc Inst.cells Lot.enc Lot.cells at *
 go_enter Tryz.func114,Tryz.ntmps114
 go_wp2_with fail
 refine HC1.out.mono ?_
 rintro e w1 ⟨rfl,b1⟩
 have HB1:=hI (HB0.out.trans (b1.mono HB0.out.size))
 have g0:=HK0.out.below b1
 have g1:=HK1.out.below b1
 clear c0 c1 c2 c3 c4 c5 c6 c7 c8 c9 c10 c11 c12 c13 c14
 clear o0 o1 o2 o3 o4 o5 o6
 obtain⟨o0,o1,o2,o3,o4,o5,o6⟩:=Acp g1
 have HG0:=hI g0
 have HG1:=hI g1
 clear b1 g0 g1 HK0 HK1 HB0 HC1 hW0
 go_wp2_with fail
 refine (HC2.out _ (HT.out.below HB1.out)).mono ?_
 rintro e w2 ⟨rfl,b2⟩
 have HB2:=hI (HB1.out.trans (b2.mono HB1.out.size))
 have g0:=HG0.out.below b2
 have g1:=HG1.out.below b2
 clear o0 o1 o2 o3 o4 o5 o6
 have c0:=Aaa g0 0
 have o1:=Aaa g1 1
 simp at c0 o1
 clear b2 g0 g1 HG0 HG1 HB1 HC2
 go_wp2_with fail
 go_loopw [24] (fun v wr=>∃k:Nat,v=.int .i64 (k:Int)∧k≤ds.length∧w2=wr) (fun v _=>ds.length-(intOf v).toNat)
 case atStart=>exact⟨0,rfl,by omega,rfl⟩
 case round =>
  obtain⟨k,rfl,hk,rfl⟩:=hrel
  clear c0 o1
  rcases Aam k ds.length with hlt|hge
  ·obtain⟨ad,rfl,had,hcell⟩:=HR.out w2 HB2.out (by intro e;rw[e] at hlt;cases hlt)
   have hcx:decide ((k:Int)<(ds.length:Int))=true:=by simp;omega
   have ck:=hcell k hlt
   have HVK:=hI (HV.out k hlt)
   rw[Aav (HD.out _ (ith_mem hlt))] at HVK
   clear hcell
   go_wp2_with fail
   refine (HVK.out _).mono ?_
   rintro e w3 ⟨rfl,rfl⟩
   go_wp2_with fail
   go_roundw
   case rel=>exact⟨k+1,by go_num,by omega,by trivial⟩
   case measure=>simp[intOf];omega
  ·have hcx:decide ((k:Int)<(ds.length:Int))=false:=by simp;omega
   go_wp2_with fail
   go_ret
   exact⟨rfl,HB2.out⟩
theorem Arc(i:Inst)(l:Lot)(d:Int)(h:BOk i l)(hd:okDay d)(w:World)(ht:Tabs w):
 Calls Tryz.prog 58 #[i.enc,l.enc,.int .i64 d] w fun e w'=>e=.returned (.tuple #[.string (I (rnd (An9 i l d))),.int .i64 0])∧Below w.heap.size w w':=by
 obtain⟨W0,hW0,hB0,k0,k1⟩:=ilbox i l w
 obtain⟨c0,c1,c2,c3,c4,c5,c6,c7,c8,c9,c10,c11,c12,c13,c14⟩:=Acn k0
 obtain⟨o0,o1,o2,o3,o4,o5,o6⟩:=Acp k1
 have HT:=hI ht
 obtain⟨W1,hW1⟩:∃W1,W0.alloc (.cells #[.int .i64 d] 22)=W1:=⟨_,rfl⟩
 have b1:Below W0.heap.size W0 W1:=by rw[←hW1];exact (Below.refl _ W0).alloc (Aad _) _
 have k2:W1.heap[W0.heap.size]?=some (.cells #[.int .i64 d] 22):=by rw[←hW1];exact Aax W0 _
 have hR:RdD W1 (some ⟨W0.heap.size,0,none⟩) [d]:=fun _=>⟨_,rfl,(Aab.1 k2).1,fun j hj=>by
  have:j=0:=by simp at hj;omega
  subst this
  have:=Aaa k2 0
  simp at this
  exact this⟩
 have B1:=hB0.trans (b1.mono hB0.size)
 have HC1:=hI (Arb i l (some ⟨W0.heap.size,0,none⟩) [d] 1 (by simp) h (fun x hx=>by simp at hx;subst hx;exact hd) W1 hR (ht.below B1))
 have hex:ExOk i d:=⟨h.small.fn,h.small.fd,hd,h.ok.mt⟩
 have HEX:=hI (fun W hW=>Aps i l d hex h.sized h.lok.opn W hW)
 have HRD:=hI (fun W hW=>An6 (Apt i l d hex h.sized h.lok.opn) (by unfold qB;omega) W hW)
 have HK0:=hI (k0.below b1)
 have HK1:=hI (k1.below b1)
 have HB1:=hI B1
 generalize An9 i l d=rq at *
 clear h hR ht hB0 b1 k0 k1 k2 B1 hex hd
 unfold Inst.enc Inst.cells Lot.enc Lot.cells at *
 go_enter Tryz.func58,Tryz.ntmps58
 go_wp2_with fail
 refine HC1.out.mono ?_
 rintro e w1 ⟨rfl,b1⟩
 have HB2:=hI (HB1.out.trans (b1.mono HB1.out.size))
 have g0:=HK0.out.below b1
 have g1:=HK1.out.below b1
 clear c0 c1 c2 c3 c4 c5 c6 c7 c8 c9 c10 c11 c12 c13 c14
 clear o0 o1 o2 o3 o4 o5 o6
 obtain⟨c0,c1,c2,c3,c4,c5,c6,c7,c8,c9,c10,c11,c12,c13,c14⟩:=Acn g0
 obtain⟨o0,o1,o2,o3,o4,o5,o6⟩:=Acp g1
 clear b1 g0 g1 HK0 HK1 HB1 HC1 hW0 hW1
 go_wp2_with fail
 refine (HEX.out _ (HT.out.below HB2.out)).mono ?_
 rintro e w2 ⟨rfl,b2⟩
 have HB3:=hI (HB2.out.trans (b2.mono HB2.out.size))
 clear b2 HB2
 clear c0 c1 c2 c3 c4 c5 c6 c7 c8 c9 c10 c11 c12 c13 c14
 clear o0 o1 o2 o3 o4 o5 o6
 go_wp2_with fail
 refine (HRD.out _ (HT.out.below HB3.out)).mono ?_
 rintro e w3 ⟨rfl,b3⟩
 have B4:=HB3.out.trans (b3.mono HB3.out.size)
 clear b3
 go_wp2_with fail
 go_ret2
 exact⟨rfl,B4⟩
abbrev effZero:Array Value:=#[.int .i64 0,.int .i64 0,.string ⟨#[]⟩,.string ⟨#[]⟩,.string ⟨#[]⟩,.string ⟨#[]⟩,.slice none 0 0]
theorem Ard{d:Int}(hd:okDay d)(w:World):∃(y:Int) (m:Nat) (dd:Int),VDate y m dd∧dayOf y m dd=d:=by
 obtain⟨e,w',fr,hR,_⟩:=Ais d hd w []
 obtain⟨y,m,dd,_,hv,hd',_⟩:=hR
 exact⟨y,m,dd,hv,hd'⟩
theorem Are{d:Int}(hd:okDay d)(w:World):(ptext d).size≤100:=by
 obtain⟨y,m,dd,hv,hd'⟩:=Ard hd w
 obtain⟨q,rfl⟩:∃q:Nat,dd=(q:Int):=⟨dd.toNat,by have:=hv.2.2.2.2.1;omega⟩
 rw[Aix hv hd']
 have b1:=hv.1
 have b2:=hv.2.1
 have b3:=hv.2.2.2.1
 have b4:=hv.2.2.2.2.2
 have b5:=Aid (leapB y) m
 have hz2:=nDigits_size y (by omega) (by omega)
 have t2:∀k:Nat,k<100→(two k).length=2:=by
  intro k hk
  have:=Aiu hk
  unfold two;simp;omega
 have hm2:=t2 m (by omega)
 have hq2:=t2 q (by omega)
 unfold dtext
 rw[Ac1]
 simp only[Aan,Aau,List.length_nil]
 omega
noncomputable def Arf(d:Int)(id:ByteArray):ByteArray:=⟨#[109,97,114,107,32]⟩++ptext d++⟨#[32]⟩++id
theorem set7{w:World}{b:Nat}{a0 a1 a2 a3 a4 a5 a6:Value}{t:TypeId}{m:Nat×Nat}(h:w.heap[b]?=some (.cells #[a0,a1,a2,a3,a4,a5,a6] t m))(x0 x1 x2 x3 x4 x5 x6:Value):
 (((((((w.setCell ⟨b,0,none⟩ x0).setCell ⟨b,1,none⟩ x1).setCell ⟨b,2,none⟩ x2).setCell ⟨b,3,none⟩ x3).setCell ⟨b,4,none⟩ x4).setCell ⟨b,5,none⟩ x5).setCell ⟨b,6,none⟩ x6).heap[b]?=some (.cells #[x0,x1,x2,x3,x4,x5,x6] t m):=by
 simp[World.setCell,Array.getElem?_modify,h]
theorem Arg{w W:World}{b:Nat}(hb:w.heap.size≤b)(h:Below w.heap.size w W)(x0 x1 x2 x3 x4 x5 x6:Value):
 Below w.heap.size w (((((((W.setCell ⟨b,0,none⟩ x0).setCell ⟨b,1,none⟩ x1).setCell ⟨b,2,none⟩ x2).setCell ⟨b,3,none⟩ x3).setCell ⟨b,4,none⟩ x4).setCell ⟨b,5,none⟩ x5).setCell ⟨b,6,none⟩ x6) :=
 (((((((h.setCell (p:=⟨b,0,none⟩) hb x0).setCell (p:=⟨b,1,none⟩) hb x1).setCell (p:=⟨b,2,none⟩) hb x2).setCell (p:=⟨b,3,none⟩) hb x3).setCell (p:=⟨b,4,none⟩) hb x4).setCell (p:=⟨b,5,none⟩) hb x5).setCell (p:=⟨b,6,none⟩) hb x6)
theorem far7{W:World}{b k:Nat}(hk:k≠b)(x0 x1 x2 x3 x4 x5 x6:Value):
 (((((((W.setCell ⟨b,0,none⟩ x0).setCell ⟨b,1,none⟩ x1).setCell ⟨b,2,none⟩ x2).setCell ⟨b,3,none⟩ x3).setCell ⟨b,4,none⟩ x4).setCell ⟨b,5,none⟩ x5).setCell ⟨b,6,none⟩ x6).heap[k]?=W.heap[k]?:=by
 simp[World.setCell,Array.getElem?_modify,Ne.symm hk]
def Arh(w:World)(kind d:Int)(i:Inst)(ch:ByteArray)(e:Ending)(w':World):Prop :=
 ∃B:Nat,e=.returned (.tuple #[.agg #[.int .i64 kind,.int .i64 d,.string (Arf d i.id),.string i.id,.string ⟨#[]⟩,.string i.cur,.slice (some ⟨B,0,none⟩) 1 1],.bool true,.int .i64 0])∧w'.heap[B]?=some (.cells #[.string ⟨#[97,109,111,117,110,116]⟩,.string ch] 106 (0,0))∧w.heap.size≤B∧Below w.heap.size w w'
theorem Ari{w W4:World}{B:Nat}{kind d:Int}{i:Inst}{ch:ByteArray}{a:Act}(h1:W4.heap[w.heap.size+1]?=some (.cells effZero 101 (0,0)))(hB:Below w.heap.size w W4)
 (hT:W4.heap[B]?=some (.cells #[.string ⟨#[97,109,111,117,110,116]⟩,.string ch] 106 (0,0))) (hl:w.heap.size+1<B) (hd:a.defers=[])
 (hr:∀W9:World,W9.cell? ⟨w.heap.size+1,0,none⟩=some (.int .i64 kind)→W9.cell? ⟨w.heap.size+1,1,none⟩=some (.int .i64 d)→W9.cell? ⟨w.heap.size+1,2,none⟩=some (.string (⟨#[109,97,114,107,32]⟩++ptext d++⟨#[32]⟩++i.id))→W9.cell? ⟨w.heap.size+1,3,none⟩=some (.string i.id)→W9.cell? ⟨w.heap.size+1,4,none⟩=some (.string ⟨#[]⟩)→W9.cell? ⟨w.heap.size+1,5,none⟩=some (.string i.cur)→W9.cell? ⟨w.heap.size+1,6,none⟩=some (.slice (some ⟨B,0,none⟩) 1 1) →
   (results Tryz.f60 a.tmps).run Tryz.prog W9=.ok (.tuple #[.agg #[.int .i64 kind,.int .i64 d,.string (⟨#[109,97,114,107,32]⟩++ptext d++⟨#[32]⟩++i.id),.string i.id,.string ⟨#[]⟩,.string i.cur,.slice (some ⟨B,0,none⟩) 1 1],.bool true,.int .i64 0]) W9) :
 bodyPost Tryz.prog Tryz.f60 (Arh w kind d i ch) .ret a (((((((W4.setCell ⟨w.heap.size+1,0,none⟩ (.int .i64 kind)).setCell ⟨w.heap.size+1,1,none⟩ (.int .i64 d)).setCell ⟨w.heap.size+1,2,none⟩ (.string (⟨#[109,97,114,107,32]⟩++ptext d++⟨#[32]⟩++i.id))).setCell ⟨w.heap.size+1,3,none⟩ (.string i.id)).setCell ⟨w.heap.size+1,4,none⟩ (.string ⟨#[]⟩)).setCell ⟨w.heap.size+1,5,none⟩ (.string i.cur)).setCell ⟨w.heap.size+1,6,none⟩ (.slice (some ⟨B,0,none⟩) 1 1)):=by
 have q7:=set7 h1 (.int .i64 kind) (.int .i64 d) (.string (⟨#[109,97,114,107,32]⟩++ptext d++⟨#[32]⟩++i.id)) (.string i.id) (.string ⟨#[]⟩) (.string i.cur) (.slice (some ⟨B,0,none⟩) 1 1)
 have q8:=Arg (b:=w.heap.size+1) (by omega) hB (.int .i64 kind) (.int .i64 d) (.string (⟨#[109,97,114,107,32]⟩++ptext d++⟨#[32]⟩++i.id)) (.string i.id) (.string ⟨#[]⟩) (.string i.cur) (.slice (some ⟨B,0,none⟩) 1 1)
 have q9:=(far7 (W:=W4) (b:=w.heap.size+1) (k:=B) (by omega) (.int .i64 kind) (.int .i64 d) (.string (⟨#[109,97,114,107,32]⟩++ptext d++⟨#[32]⟩++i.id)) (.string i.id) (.string ⟨#[]⟩) (.string i.cur) (.slice (some ⟨B,0,none⟩) 1 1)).trans hT
 generalize (((((((W4.setCell ⟨w.heap.size+1,0,none⟩ (.int .i64 kind)).setCell ⟨w.heap.size+1,1,none⟩ (.int .i64 d)).setCell ⟨w.heap.size+1,2,none⟩ (.string (⟨#[109,97,114,107,32]⟩++ptext d++⟨#[32]⟩++i.id))).setCell ⟨w.heap.size+1,3,none⟩ (.string i.id)).setCell ⟨w.heap.size+1,4,none⟩ (.string ⟨#[]⟩)).setCell ⟨w.heap.size+1,5,none⟩ (.string i.cur)).setCell ⟨w.heap.size+1,6,none⟩ (.slice (some ⟨B,0,none⟩) 1 1))=W9 at q7 q8 q9 ⊢
 have m0:=Aaa q7 0
 have m1:=Aaa q7 1
 have m2:=Aaa q7 2
 have m3:=Aaa q7 3
 have m4:=Aaa q7 4
 have m5:=Aaa q7 5
 have m6:=Aaa q7 6
 exact bodyPost_ret (hr W9 m0 m1 m2 m3 m4 m5 m6) hd ⟨B,rfl,q9,by omega,q8⟩
theorem Arj(kind:Int)(hk:kind=17∨kind=18∨kind=19)(d:Int)(hd:okDay d)(i:Inst)(hsm:i.small)(hok:i.ok)(ch:ByteArray)(hch:Can ch)(hcz:ch.size≤1000)(hne:ch≠⟨#[]⟩)(w:World)(ht:Tabs w):
 Calls Tryz.prog 60 #[.int .i64 kind,.int .i64 d,i.enc,.string ch] w (Arh w kind d i ch):=by
 have hne':=Ak1 ch
 rw[Aaw hne] at hne'
 clear hne
 obtain⟨W0,hW0',hB0,hz,k0,k1⟩:=box2 w (.cells i.cells 27) (.cells effZero 101)
 have hW0:=hW0'.symm
 obtain⟨c0,c1,c2,c3,c4,c5,c6,c7,c8,c9,c10,c11,c12,c13,c14⟩:=Acn k0
 have HT:=hI ht
 have HB0:=hI hB0
 have HK0:Hid (InstBox W0 w.heap.size i):=k0
 have HK1:=hI k1
 have HC1:=hI (Amb i hsm.sized hok W0 (ht.below hB0))
 have HC2:=hI (fun W=>Agb ch W (by omega) hch)
 have HP:=hI (fun W hW=>Aiy d hd W hW)
 have hpz:=Are hd w
 have hiz:=hsm.id
 have t1:(kind != 17&&kind != 18&&kind != 19)=false:=by rcases hk with rfl|rfl|rfl<;>rfl
 clear hW0' hz ht hB0 k0 k1 hsm hok hch hd
 unfold Inst.enc Inst.cells effZero at *
 rcases hk with rfl|rfl|rfl
 all_goals
  clear t1
  go_enter Tryz.func60,Tryz.ntmps60
  go_wp2_with fail
  refine HC1.out.mono ?_
  rintro e w1 ⟨rfl,b1⟩
  have HB1:=hI (HB0.out.trans (b1.mono HB0.out.size))
  have HG0:=hI (HK0.out.below b1)
  have HG1:=hI ((b1.block (w.heap.size+1) (Aab.1 HK1.out).1).trans HK1.out)
  clear b1 HK0 HK1 HB0 HC1 hW0
  clear c0 c1 c2 c3 c4 c5 c6 c7 c8 c9 c10 c11 c12 c13 c14
  go_wp2_with fail
  refine (HC2.out _).mono ?_
  rintro e w2 ⟨rfl,b2⟩
  have HB2:=hI (HB1.out.trans (b2.mono HB1.out.size))
  have HH0:=hI (HG0.out.below b2)
  have HH1:=hI ((b2.block (w.heap.size+1) (Aab.1 HG1.out).1).trans HG1.out)
  clear b2 HG0 HG1 HB1 HC2
  go_wp2_with fail
  refine (HP.out _ (HT.out.below HB2.out)).mono ?_
  rintro e w3 ⟨rfl,b3⟩
  have HB3:=hI (HB2.out.trans (b3.mono HB2.out.size))
  have g0:=HH0.out.below b3
  have g1:=(b3.block (w.heap.size+1) (Aab.1 HH1.out).1).trans HH1.out
  have HL0:=hI g0
  have HL1:=hI g1
  have hl3:w.heap.size+1<w3.heap.size:=(Aab.1 g1).1
  have c0:=Aaa g0 0
  have c2:=Aaa g0 2
  simp at c0 c2
  obtain⟨r0,r1,r2,r3,r4,r5,r6⟩:=Acp g1
  obtain⟨f0,f1,f2,f3,f4,f5,f6⟩:=Acq g1
  clear b3 HH0 HH1 HB2 g0 g1 HP
  obtain⟨W4,hW4⟩:∃W4,w3.alloc (.cells #[.string ⟨#[97,109,111,117,110,116]⟩,.string ch] 106)=W4:=⟨_,rfl⟩
  have b4:Below w3.heap.size w3 W4:=by rw[←hW4];exact (Below.refl _ w3).alloc (Aad _) _
  have HB4:=hI (HB3.out.trans (b4.mono HB3.out.size))
  have HT4:Hid (W4.heap[w3.heap.size]?=some (.cells #[.string ⟨#[97,109,111,117,110,116]⟩,.string ch] 106 (0,0))):=by rw[Hid,←hW4];exact Aax w3 _
  have g1:=(b4.block (w.heap.size+1) (Aab.1 HL1.out).1).trans HL1.out
  clear r0 r1 r2 r3 r4 r5 r6 f0 f1 f2 f3 f4 f5 f6
  obtain⟨r0,r1,r2,r3,r4,r5,r6⟩:=Acp g1
  obtain⟨f0,f1,f2,f3,f4,f5,f6⟩:=Acq g1
  have HL4:=hI g1
  clear b4 g1 HL0 HL1 HB3
  go_wp2_with fail
  exact Ari HL4.out HB4.out HT4.out hl3 rfl (fun W9 m0 m1 m2 m3 m4 m5 m6=>by simp[results,Tryz.results60,go_sem,m0,m1,m2,m3,m4,m5,m6])
theorem Ark(y:Int)(m:Nat)(d:Int)(hv:VDate y m d)(w:World):
 Calls Tryz.prog 59 #[.int .i64 y,.int .i64 (m:Int),.int .i64 d] w fun e w'=>e=.returned (.int .i64 (dayOf y m d))∧Below w.heap.size w w':=by
 have HO:=hI (Aip y m d hv w)
 generalize dayOf y m d=z at *
 go_enter Tryz.func59,Tryz.ntmps59
 go_wp2_with fail
 refine HO.out.mono ?_
 rintro e w1 ⟨rfl,b1⟩
 go_wp2_with fail
 go_ret
 exact⟨rfl,b1⟩
theorem day_a(w:World):Calls Tryz.prog 59 #[.int .i64 2024,.int .i64 1,.int .i64 14] w fun e w'=>e=.returned (.int .i64 19736)∧Below w.heap.size w w':=Ark 2024 1 14 (by unfold VDate lenB leapB;decide) w
theorem day_b(w:World):Calls Tryz.prog 59 #[.int .i64 2025,.int .i64 1,.int .i64 14] w fun e w'=>e=.returned (.int .i64 20102)∧Below w.heap.size w w':=Ark 2025 1 14 (by unfold VDate lenB leapB;decide) w
theorem day_c(w:World):Calls Tryz.prog 59 #[.int .i64 2024,.int .i64 1,.int .i64 15] w fun e w'=>e=.returned (.int .i64 19737)∧Below w.heap.size w w':=Ark 2024 1 15 (by unfold VDate lenB leapB;decide) w
theorem day_d(w:World):Calls Tryz.prog 59 #[.int .i64 2024,.int .i64 3,.int .i64 28] w fun e w'=>e=.returned (.int .i64 19810)∧Below w.heap.size w w':=Ark 2024 3 28 (by unfold VDate lenB leapB;decide) w
def i0:Inst:=⟨⟨#[98]⟩,2,⟨#[85,83,68]⟩,0,19736,20102,⟨#[49,48,48,48]⟩,⟨#[]⟩,⟨#[]⟩,⟨#[]⟩,12,3,⟨#[]⟩,⟨#[]⟩,⟨#[]⟩⟩
def l0:Lot:=⟨⟨#[120,47,49]⟩,⟨#[98]⟩,19737,19737,⟨#[49,48]⟩,⟨#[57,56,48,48]⟩,⟨#[]⟩⟩
theorem v1000:vl ⟨#[49,48,48,48]⟩=1000:=by decide
theorem v10:vl ⟨#[49,48]⟩=10:=by decide
theorem v9800:vl ⟨#[57,56,48,48]⟩=9800:=by decide
theorem v0:vl ⟨#[]⟩=0:=by decide
theorem Arm{n:ByteArray}:fv n ⟨#[]⟩=(vl n:Rat):=by
 unfold fv dd
 rw[if_pos v0,show vl one1=1 from by decide]
 exact Ahu _
theorem Arn{n:ByteArray}(h:Can n):CanQ n ⟨#[]⟩:=by
 unfold CanQ
 rw[Arm]
 refine⟨h.symm,?_⟩
 unfold dn
 rw[if_pos (show ((vl n:Int):Rat).den=1 from rfl)]
theorem Arp{n:ByteArray}(h:Can n)(hz:n.size≤40):Akz n ⟨#[]⟩=0:=by
 unfold Akz
 rw[if_neg (fun x=>x (Arn h)),if_neg]
 rintro (x|x)
 ·unfold ndig at x;split at x<;>omega
 ·rw[show ndig ⟨#[]⟩=0 from by decide] at x;omega
theorem i0_small:i0.small:=⟨by decide,by decide,by decide,by decide,by decide,by decide,by decide,by decide,by decide⟩
theorem i0_ok:i0.ok where
 id:=by decide
 kind:=by decide
 cur:=by decide
 places:=by decide
 issued:=by unfold okDay;decide
 matures:=.inr ⟨by decide,by unfold okDay;decide,by decide⟩
 n1:=Arp (by unfold Can;decide) (by decide)
 n2:=Arp (by unfold Can;decide) (by decide)
 n3:=Arp (by unfold Can;decide) (by decide)
 plain:=fun h=>absurd rfl h
 bond:=fun _=>⟨by decide,by decide,by decide,by decide,by decide,rfl,by decide⟩
 fwd:=fun h=>absurd h (by decide)
theorem l0_sized:l0.sized:=⟨by decide,by decide,by decide,by decide,by decide⟩
theorem l0_ok:l0.ok where
 id:=by kernel_rfl
 inst:=by decide
 acq:=by unfold okDay;decide
 opn:=by unfold okDay;decide
 ord:=by decide
 cq:=by unfold Can;decide
 cc:=by unfold Can;decide
 cu:=by unfold Can;decide
 pq:=by decide
 pc:=by decide
 us:=.inl rfl
theorem all0:allQ i0 l0=200:=by
 unfold allQ
 rw[show i0.fd=⟨#[]⟩ from rfl,Arm,show vl i0.fn=1000 from v1000,show vl l0.qty=10 from v10,show vl l0.cost=9800 from v9800]
 kernel_rfl
theorem ex0:An9 i0 l0 19810=40:=by
 unfold An9
 rw[if_neg (by decide),if_neg (by decide),all0]
 kernel_rfl
theorem ex1:An9 i0 l0 20102=200:=by
 unfold An9
 rw[if_neg (by decide),if_pos (by decide),all0]
theorem r40:I (rnd 40)=⟨#[52,48]⟩:=by rfl
theorem r200:I (rnd 200)=⟨#[50,48,48]⟩:=by rfl
theorem cause_bytes:(⟨#[109,97,114,107,32]⟩:ByteArray)++dtext 2024 3 28++⟨#[32]⟩++⟨#[98]⟩=⟨#[109,97,114,107,32,50,48,50,52,45,48,51,45,50,56,32,98]⟩:=by kernel_rfl
theorem cause0:Arf 19810 ⟨#[98]⟩=⟨#[109,97,114,107,32,50,48,50,52,45,48,51,45,50,56,32,98]⟩:=by
 have hv:VDate 2024 3 28:=by unfold VDate lenB leapB;decide
 have hp:ptext 19810=dtext 2024 3 28:=Aix (y:=2024) (m:=3) (dd:=28) hv (by decide)
 unfold Arf
 rw[hp]
 exact cause_bytes
theorem Arq(B1 B2:Nat)(a b:ByteArray)(w:World)(h1:w.heap[B1]?=some (.cells #[.string a,.string b] 106 (0,0)))(h2:w.heap[B2]?=some (.cells #[.string a,.string b] 106 (0,0))):
 Calls Tryz.prog 61 #[.slice (some ⟨B1,0,none⟩) 1 1,.slice (some ⟨B2,0,none⟩) 1 1] w fun e w'=>e=.returned (.bool true)∧Below w.heap.size w w':=by
 have c0:=Aaa h1 0
 have c1:=Aaa h1 1
 have d0:=Aaa h2 0
 have d1:=Aaa h2 1
 simp at c0 c1 d0 d1
 clear h1 h2
 go_enter Tryz.func61,Tryz.ntmps61
 go_wp2_with fail
 refine wp_loop_rounds 2 ?_
 rw[rounds_succ]
 go_wp2_with fail
 go_quiet (fail)
 go_wp2_with fail
 rw[rounds_succ]
 go_wp2_with fail
 go_ret
 exact⟨rfl,Acm (Below.refl _ _) _⟩
abbrev instZero:Array Value:=#[.string ⟨#[]⟩,.int .i64 0,.string ⟨#[]⟩,.int .i64 0,.int .i64 0,.int .i64 0,.string ⟨#[]⟩,.string ⟨#[]⟩,.string ⟨#[]⟩,.string ⟨#[]⟩,.int .i64 0,.int .i64 0,.string ⟨#[]⟩,.string ⟨#[]⟩,.string ⟨#[]⟩]
abbrev lotZero:Array Value:=#[.string ⟨#[]⟩,.string ⟨#[]⟩,.int .i64 0,.int .i64 0,.string ⟨#[]⟩,.string ⟨#[]⟩,.string ⟨#[]⟩]
structure XG(w:World)(b:Nat)(W:World):Prop where
 r0:W.heap[w.heap.size]?=some (.cells instZero 27 (0,0))
 r1:W.heap[w.heap.size+1]?=some (.cells lotZero 63 (0,0))
 ib:W.heap[b]?=some (.cells #[.string ⟨#[98]⟩,.int .i64 2,.string ⟨#[85,83,68]⟩,.int .i64 0,.int .i64 19736,.int .i64 20102,.string ⟨#[49,48,48,48]⟩,.string ⟨#[]⟩,.string ⟨#[]⟩,.string ⟨#[]⟩,.int .i64 12,.int .i64 3,.string ⟨#[]⟩,.string ⟨#[]⟩,.string ⟨#[]⟩] 27 (0,0))
 be:Below w.heap.size w W
 lt:w.heap.size+1<b
theorem XG.below{w:World}{b:Nat}{W W':World}(h:XG w b W)(hb:Below W.heap.size W W'):XG w b W' :=
 ⟨(hb.block _ (Aab.1 h.r0).1).trans h.r0,(hb.block _ (Aab.1 h.r1).1).trans h.r1,(hb.block _ (Aab.1 h.ib).1).trans h.ib,h.be.trans (hb.mono h.be.size),h.lt⟩
def C15(b:Nat)(W:World):Prop:=W.cell? ⟨b,0,none⟩=some (.string ⟨#[98]⟩)∧W.cell? ⟨b,1,none⟩=some (.int .i64 2)∧W.cell? ⟨b,2,none⟩=some (.string ⟨#[85,83,68]⟩)∧W.cell? ⟨b,3,none⟩=some (.int .i64 0)∧W.cell? ⟨b,4,none⟩=some (.int .i64 19736)∧W.cell? ⟨b,5,none⟩=some (.int .i64 20102)∧W.cell? ⟨b,6,none⟩=some (.string ⟨#[49,48,48,48]⟩)∧W.cell? ⟨b,7,none⟩=some (.string ⟨#[]⟩)∧W.cell? ⟨b,8,none⟩=some (.string ⟨#[]⟩)∧W.cell? ⟨b,9,none⟩=some (.string ⟨#[]⟩)∧W.cell? ⟨b,10,none⟩=some (.int .i64 12)∧W.cell? ⟨b,11,none⟩=some (.int .i64 3)∧W.cell? ⟨b,12,none⟩=some (.string ⟨#[]⟩)∧W.cell? ⟨b,13,none⟩=some (.string ⟨#[]⟩)∧W.cell? ⟨b,14,none⟩=some (.string ⟨#[]⟩)
theorem XG.c15{w:World}{b:Nat}{W:World}(h:XG w b W):C15 b W:=⟨Aaa h.ib 0,Aaa h.ib 1,Aaa h.ib 2,Aaa h.ib 3,Aaa h.ib 4,Aaa h.ib 5,Aaa h.ib 6,Aaa h.ib 7,Aaa h.ib 8,Aaa h.ib 9,Aaa h.ib 10,Aaa h.ib 11,Aaa h.ib 12,Aaa h.ib 13,Aaa h.ib 14⟩
theorem day_g{w:World}{b:Nat}(W:World)(h:XG w b W):Calls Tryz.prog 59 #[.int .i64 2024,.int .i64 1,.int .i64 15] W fun e wn=>e=.returned (.int .i64 19737)∧XG w b wn∧C15 b wn:=by
 refine (day_c W).mono ?_
 rintro e wn ⟨rfl,bn⟩
 exact⟨rfl,h.below bn,(h.below bn).c15⟩
theorem Arr(w:World)(ht:Tabs w):Calls Tryz.prog 29 #[.string ⟨#[49,48,48,48]⟩] w fun e w'=>e=.returned (.agg #[.string ⟨#[49,48,48,48]⟩,.string ⟨#[]⟩])∧Below w.heap.size w w':=by
 have:=Ahv ⟨#[49,48,48,48]⟩ w (by show 4≤_;omega) ht
 rw[v1000] at this
 exact this
structure X4(w:World)(W:World):Prop where
 r0:W.heap[w.heap.size]?=some (.cells #[.string ⟨#[98]⟩,.int .i64 2,.string ⟨#[85,83,68]⟩,.int .i64 0,.int .i64 19736,.int .i64 20102,.string ⟨#[49,48,48,48]⟩,.string ⟨#[]⟩,.string ⟨#[]⟩,.string ⟨#[]⟩,.int .i64 12,.int .i64 3,.string ⟨#[]⟩,.string ⟨#[]⟩,.string ⟨#[]⟩] 27 (0,0))
 r1:W.heap[w.heap.size+1]?=some (.cells lotZero 63 (0,0))
 be:Below w.heap.size w W
structure X5(w:World)(W:World):Prop where
 r0:W.heap[w.heap.size]?=some (.cells #[.string ⟨#[98]⟩,.int .i64 2,.string ⟨#[85,83,68]⟩,.int .i64 0,.int .i64 19736,.int .i64 20102,.string ⟨#[49,48,48,48]⟩,.string ⟨#[]⟩,.string ⟨#[]⟩,.string ⟨#[]⟩,.int .i64 12,.int .i64 3,.string ⟨#[]⟩,.string ⟨#[]⟩,.string ⟨#[]⟩] 27 (0,0))
 r1:W.heap[w.heap.size+1]?=some (.cells #[.string ⟨#[120,47,49]⟩,.string ⟨#[98]⟩,.int .i64 19737,.int .i64 19737,.string ⟨#[49,48]⟩,.string ⟨#[57,56,48,48]⟩,.string ⟨#[]⟩] 63 (0,0))
 be:Below w.heap.size w W
theorem put15{w:World}{b:Nat}{a0 a1 a2 a3 a4 a5 a6 a7 a8 a9 a10 a11 a12 a13 a14:Value}{t:TypeId}{m:Nat×Nat}(h:w.heap[b]?=some (.cells #[a0,a1,a2,a3,a4,a5,a6,a7,a8,a9,a10,a11,a12,a13,a14] t m))(x0 x1 x2 x3 x4 x5 x6 x7 x8 x9 x10 x11 x12 x13 x14:Value):
 (((((((((((((((w.setCell ⟨b,0,none⟩ x0).setCell ⟨b,1,none⟩ x1).setCell ⟨b,2,none⟩ x2).setCell ⟨b,3,none⟩ x3).setCell ⟨b,4,none⟩ x4).setCell ⟨b,5,none⟩ x5).setCell ⟨b,6,none⟩ x6).setCell ⟨b,7,none⟩ x7).setCell ⟨b,8,none⟩ x8).setCell ⟨b,9,none⟩ x9).setCell ⟨b,10,none⟩ x10).setCell ⟨b,11,none⟩ x11).setCell ⟨b,12,none⟩ x12).setCell ⟨b,13,none⟩ x13).setCell ⟨b,14,none⟩ x14).heap[b]?=some (.cells #[x0,x1,x2,x3,x4,x5,x6,x7,x8,x9,x10,x11,x12,x13,x14] t m):=by
 simp[World.setCell,Array.getElem?_modify,h]
theorem below15{w W:World}{b:Nat}(hb:w.heap.size≤b)(h:Below w.heap.size w W)(x0 x1 x2 x3 x4 x5 x6 x7 x8 x9 x10 x11 x12 x13 x14:Value):
 Below w.heap.size w (((((((((((((((W.setCell ⟨b,0,none⟩ x0).setCell ⟨b,1,none⟩ x1).setCell ⟨b,2,none⟩ x2).setCell ⟨b,3,none⟩ x3).setCell ⟨b,4,none⟩ x4).setCell ⟨b,5,none⟩ x5).setCell ⟨b,6,none⟩ x6).setCell ⟨b,7,none⟩ x7).setCell ⟨b,8,none⟩ x8).setCell ⟨b,9,none⟩ x9).setCell ⟨b,10,none⟩ x10).setCell ⟨b,11,none⟩ x11).setCell ⟨b,12,none⟩ x12).setCell ⟨b,13,none⟩ x13).setCell ⟨b,14,none⟩ x14) :=
 (((((((((((((((h.setCell (p:=⟨b,0,none⟩) hb x0).setCell (p:=⟨b,1,none⟩) hb x1).setCell (p:=⟨b,2,none⟩) hb x2).setCell (p:=⟨b,3,none⟩) hb x3).setCell (p:=⟨b,4,none⟩) hb x4).setCell (p:=⟨b,5,none⟩) hb x5).setCell (p:=⟨b,6,none⟩) hb x6).setCell (p:=⟨b,7,none⟩) hb x7).setCell (p:=⟨b,8,none⟩) hb x8).setCell (p:=⟨b,9,none⟩) hb x9).setCell (p:=⟨b,10,none⟩) hb x10).setCell (p:=⟨b,11,none⟩) hb x11).setCell (p:=⟨b,12,none⟩) hb x12).setCell (p:=⟨b,13,none⟩) hb x13).setCell (p:=⟨b,14,none⟩) hb x14)
theorem far15{W:World}{b k:Nat}(hk:k≠b)(x0 x1 x2 x3 x4 x5 x6 x7 x8 x9 x10 x11 x12 x13 x14:Value):
 (((((((((((((((W.setCell ⟨b,0,none⟩ x0).setCell ⟨b,1,none⟩ x1).setCell ⟨b,2,none⟩ x2).setCell ⟨b,3,none⟩ x3).setCell ⟨b,4,none⟩ x4).setCell ⟨b,5,none⟩ x5).setCell ⟨b,6,none⟩ x6).setCell ⟨b,7,none⟩ x7).setCell ⟨b,8,none⟩ x8).setCell ⟨b,9,none⟩ x9).setCell ⟨b,10,none⟩ x10).setCell ⟨b,11,none⟩ x11).setCell ⟨b,12,none⟩ x12).setCell ⟨b,13,none⟩ x13).setCell ⟨b,14,none⟩ x14).heap[k]?=W.heap[k]?:=by
 simp[World.setCell,Array.getElem?_modify,Ne.symm hk]
structure ExJ(w:World)(b:Nat)(L:Array Bool)(a:Act)(W:World):Prop where
 sz:L.size=6
 fr:∃s7 s8 s9 s10:Value,a={tmps:=#[.pointer (some ⟨w.heap.size,0,none⟩),.pointer (some ⟨w.heap.size+1,0,none⟩),.pointer (some ⟨b,0,none⟩),.int .i64 19736,.int .i64 20102,.agg #[.string ⟨#[49,48,48,48]⟩,.string ⟨#[]⟩],.agg #[.string ⟨#[98]⟩,.int .i64 2,.string ⟨#[85,83,68]⟩,.int .i64 0,.int .i64 19736,.int .i64 20102,.string ⟨#[49,48,48,48]⟩,.string ⟨#[]⟩,.string ⟨#[]⟩,.string ⟨#[]⟩,.int .i64 12,.int .i64 3,.string ⟨#[]⟩,.string ⟨#[]⟩,.string ⟨#[]⟩],s7,s8,s9,s10],defers:=[]}∧(L.getD 0 false=true→s7=.agg #[.string ⟨#[98]⟩,.int .i64 2,.string ⟨#[85,83,68]⟩,.int .i64 0,.int .i64 19736,.int .i64 20102,.string ⟨#[49,48,48,48]⟩,.string ⟨#[]⟩,.string ⟨#[]⟩,.string ⟨#[]⟩,.int .i64 12,.int .i64 3,.string ⟨#[]⟩,.string ⟨#[]⟩,.string ⟨#[]⟩])∧(L.getD 1 false=true→s8=.int .i64 19737)∧(L.getD 2 false=true→s9=.int .i64 19737)∧(L.getD 3 false=true→s10=.agg #[.string ⟨#[120,47,49]⟩,.string ⟨#[98]⟩,.int .i64 19737,.int .i64 19737,.string ⟨#[49,48]⟩,.string ⟨#[57,56,48,48]⟩,.string ⟨#[]⟩])
 d4:L.getD 4 false=true→L.getD 0 false=true∧L.getD 1 false=true∧L.getD 2 false=true
 d5:L.getD 5 false=true→L.getD 4 false=true
 d2:L.getD 2 false=true→L.getD 1 false=true
 wa:L.getD 4 false=false→XG w b W
 wb:L.getD 4 false=true→L.getD 5 false=false→X4 w W
 wc:L.getD 5 false=true→X5 w W
theorem Ars(w:World)(ht:Tabs w):Calls Tryz.prog 57 #[] w fun e w'=>e=.returned (.tuple #[i0.enc,l0.enc])∧Below w.heap.size w w':=by
 obtain⟨W0,hW0',hB0,hz,k0,k1⟩:=box2 w (.cells instZero 27) (.cells lotZero 63)
 have hW0:=hW0'.symm
 have HT:=hI ht
 have HB0:=hI hB0
 have HK0:=hI k0
 have HK1:=hI k1
 clear hW0' ht hB0 k0 k1 hz
 go_enter Tryz.func57,Tryz.ntmps57
 go_wp2_with fail
 refine (day_a _).mono ?_
 rintro e w1 ⟨rfl,b1⟩
 have HB1:=hI (HB0.out.trans (b1.mono HB0.out.size))
 have HA0:=hI ((b1.block _ (Aab.1 HK0.out).1).trans HK0.out)
 have HA1:=hI ((b1.block _ (Aab.1 HK1.out).1).trans HK1.out)
 clear b1 HB0 HK0 HK1 hW0
 go_wp2_with fail
 refine (day_b _).mono ?_
 rintro e w2 ⟨rfl,b2⟩
 have HB2:=hI (HB1.out.trans (b2.mono HB1.out.size))
 have HK0:=hI ((b2.block _ (Aab.1 HA0.out).1).trans HA0.out)
 have HK1:=hI ((b2.block _ (Aab.1 HA1.out).1).trans HA1.out)
 clear b2 HB1 HA0 HA1
 go_wp2_with fail
 refine (Arr _ (HT.out.below HB2.out)).mono ?_
 rintro e w3 ⟨rfl,b3⟩
 have HB3:=hI (HB2.out.trans (b3.mono HB2.out.size))
 have HA0:=hI ((b3.block _ (Aab.1 HK0.out).1).trans HK0.out)
 have HA1:=hI ((b3.block _ (Aab.1 HK1.out).1).trans HK1.out)
 have hl3:w.heap.size+1<w3.heap.size:=(Aab.1 HA1.out).1
 clear b3 HB2 HK0 HK1
 go_wp2_with fail
 obtain⟨W4,hW4⟩:∃W4,w3.alloc (.cells #[.string ⟨#[98]⟩,.int .i64 2,.string ⟨#[85,83,68]⟩,.int .i64 0,.int .i64 19736,.int .i64 20102,.string ⟨#[49,48,48,48]⟩,.string ⟨#[]⟩,.string ⟨#[]⟩,.string ⟨#[]⟩,.int .i64 12,.int .i64 3,.string ⟨#[]⟩,.string ⟨#[]⟩,.string ⟨#[]⟩] 27)=W4:=⟨_,rfl⟩
 have b4:Below w3.heap.size w3 W4:=by rw[←hW4];exact (Below.refl _ w3).alloc (Aad _) _
 have hg:XG w w3.heap.size W4:=⟨(b4.block _ (by omega)).trans HA0.out,(b4.block _ (by omega)).trans HA1.out,by rw[←hW4];exact Aax w3 _,HB3.out.trans (b4.mono HB3.out.size),hl3⟩
 have ne1:w.heap.size≠w3.heap.size:=by omega
 have ne2:w.heap.size+1≠w3.heap.size:=by omega
 obtain⟨c0,c1,c2,c3,c4,c5,c6,c7,c8,c9,c10,c11,c12,c13,c14⟩:=hg.c15
 rw[hW4]
 generalize w3.heap.size=b at hg ⊢
 have hN:XG w b W4.drew:=hg.below (Below.refl _ _).drew
 have mixed:Tryz.prog.follows .mixedOrders=true:=by kernel_rfl
 clear b4 HA0 HA1 HB3 hW4 hl3 hg c0 c1 c2 c3 c4 c5 c6 c7 c8 c9 c10 c11 c12 c13 c14 ne1 ne2
 refine wp_region_any mixed (Aqj (ExJ w b) ?st ?dn _ _ _ _ ?h0 (by decide))
 case h0 =>
  refine⟨by simp,⟨_,_,_,_,rfl,?_,?_,?_,?_⟩,?_,?_,?_,fun _=>hN,?_,?_⟩<;>intro h<;>simp at h
 case dn =>
  intro L a w' hj hr
  have no:=List.eq_nil_iff_forall_not_mem.1 hr
  have on0:L.getD 0 false=true:=(Apm L 0).resolve_left fun h=>no 0 (Apn (by rw[hj.sz];decide) h rfl (fun e he hb=>by simp at he))
  have on1:L.getD 1 false=true:=(Apm L 1).resolve_left fun h=>no 1 (Apn (by rw[hj.sz];decide) h rfl (fun e he hb=>by simp at he))
  have on2:L.getD 2 false=true:=(Apm L 2).resolve_left fun h=>no 2 (Apn (by rw[hj.sz];decide) h rfl (fun e he hb=>by simp at he;subst he;exact on1))
  have on3:L.getD 3 false=true:=(Apm L 3).resolve_left fun h=>no 3 (Apn (by rw[hj.sz];decide) h rfl (fun e he hb=>by simp at he;rcases he with rfl|rfl|rfl<;>first|exact on1|exact on2|exact absurd hb (by decide)))
  have on4:L.getD 4 false=true:=(Apm L 4).resolve_left fun h=>no 4 (Apn (by rw[hj.sz];decide) h rfl (fun e he hb=>by simp at he;rcases he with rfl|rfl|rfl|rfl|rfl|rfl<;>first|exact on0|exact on2|exact on1|exact on3|exact absurd hb (by decide)))
  have on5:L.getD 5 false=true:=(Apm L 5).resolve_left fun h=>no 5 (Apn (by rw[hj.sz];decide) h rfl (fun e he hb=>by simp at he;rcases he with rfl|rfl|rfl|rfl|rfl|rfl|rfl<;>first|exact on3|exact on4|exact on0|exact on1|exact on2|exact absurd hb (by decide)))
  have hx:=hj.wc on5
  obtain⟨s7,s8,s9,s10,rfl,_⟩:=hj.fr
  have z0:=hx.r0
  have z1:=hx.r1
  have hbe:=hx.be
  obtain⟨p0,p1,p2,p3,p4,p5,p6,p7,p8,p9,p10,p11,p12,p13,p14⟩:=Acn z0
  obtain⟨q0,q1,q2,q3,q4,q5,q6⟩:=Acp z1
  clear z0 z1 hx no hr hj on0 on1 on2 on3 on4 on5
  go_wp2_with fail
  exact bodyPost_ret (v:=.tuple #[.agg #[.string ⟨#[98]⟩,.int .i64 2,.string ⟨#[85,83,68]⟩,.int .i64 0,.int .i64 19736,.int .i64 20102,.string ⟨#[49,48,48,48]⟩,.string ⟨#[]⟩,.string ⟨#[]⟩,.string ⟨#[]⟩,.int .i64 12,.int .i64 3,.string ⟨#[]⟩,.string ⟨#[]⟩,.string ⟨#[]⟩],.agg #[.string ⟨#[120,47,49]⟩,.string ⟨#[98]⟩,.int .i64 19737,.int .i64 19737,.string ⟨#[49,48]⟩,.string ⟨#[57,56,48,48]⟩,.string ⟨#[]⟩]]) (by simp[results,Tryz.results57,go_sem,p0,p1,p2,p3,p4,p5,p6,p7,p8,p9,p10,p11,p12,p13,p14,q0,q1,q2,q3,q4,q5,q6]) rfl ⟨rfl,hbe⟩
 case st =>
  intro L a w' hj i hi
  obtain⟨hun,o,ho,hall⟩:=mem_ready.1 hi
  have hoff:=Apg hun
  have hlt:=(Aab.1 ho).1
  simp at hlt
  obtain⟨s7,s8,s9,s10,rfl,p⟩:=hj.fr
  have HP:=hI p
  have HJ:=hI hj
  clear p hj hN
  rcases (show i=0∨i=1∨i=2∨i=3∨i=4∨i=5 from by omega) with rfl|rfl|rfl|rfl|rfl|rfl
  ·simp at ho
   subst ho
   clear hall hi
   have h4:L.getD 4 false=false:=(Apm L 4).resolve_right fun h=>Apk hoff (HJ.out.d4 h).1
   obtain⟨c0,c1,c2,c3,c4,c5,c6,c7,c8,c9,c10,c11,c12,c13,c14⟩:=(HJ.out.wa h4).c15
   refine App rfl fun K' HK=>?_
   go_simp
   exact HK.out _ _ ⟨by simp[HJ.out.sz],⟨_,_,_,_,rfl,fun _=>rfl,fun h=>HP.out.2.1 (Api h),fun h=>HP.out.2.2.1 (Api h),fun h=>HP.out.2.2.2 (Api h)⟩,fun h=>let k:=HJ.out.d4 (Api h);⟨Aph hun k.1,Aph hun k.2.1,Aph hun k.2.2⟩,fun h=>Aph hun (HJ.out.d5 (Api h)),fun h=>Aph hun (HJ.out.d2 (Api h)),fun h=>HJ.out.wa (Apj h),fun h h'=>HJ.out.wb (Api h) (Apj h'),fun h=>HJ.out.wc (Api h)⟩
  ·simp at ho
   subst ho
   clear hall hi
   have h4:L.getD 4 false=false:=(Apm L 4).resolve_right fun h=>Apk hoff (HJ.out.d4 h).2.1
   have hgw:=HJ.out.wa h4
   refine App rfl fun K' HK=>?_
   go_simp
   refine (day_g _ hgw).mono ?_
   rintro e wn ⟨rfl,hgn,_⟩
   exact HK.out _ _ ⟨by simp[HJ.out.sz],⟨_,_,_,_,rfl,fun h=>HP.out.1 (Api h),fun _=>rfl,fun h=>HP.out.2.2.1 (Api h),fun h=>HP.out.2.2.2 (Api h)⟩,fun h=>let k:=HJ.out.d4 (Api h);⟨Aph hun k.1,Aph hun k.2.1,Aph hun k.2.2⟩,fun h=>Aph hun (HJ.out.d5 (Api h)),fun h=>Aph hun (HJ.out.d2 (Api h)),fun _=>hgn,fun h _=>(Apk hoff (HJ.out.d4 (Api h)).2.1).elim,fun h=>(Apk hoff (HJ.out.d4 (HJ.out.d5 (Api h))).2.1).elim⟩
  ·simp at ho
   subst ho
   have h1x:L.getD 1 false=true:=hall {on:=1,ground:=Ground.chain} (by simp) (by decide)
   have HALL:=hI h1x
   clear hall hi h1x
   have h4:L.getD 4 false=false:=(Apm L 4).resolve_right fun h=>Apk hoff (HJ.out.d4 h).2.2
   have hgw:=HJ.out.wa h4
   refine App rfl fun K' HK=>?_
   go_simp
   refine (day_g _ hgw).mono ?_
   rintro e wn ⟨rfl,hgn,_⟩
   exact HK.out _ _ ⟨by simp[HJ.out.sz],⟨_,_,_,_,rfl,fun h=>HP.out.1 (Api h),fun h=>HP.out.2.1 (Api h),fun _=>rfl,fun h=>HP.out.2.2.2 (Api h)⟩,fun h=>let k:=HJ.out.d4 (Api h);⟨Aph hun k.1,Aph hun k.2.1,Aph hun k.2.2⟩,fun h=>Aph hun (HJ.out.d5 (Api h)),fun _=>Aph hun HALL.out,fun _=>hgn,fun h _=>(Apk hoff (HJ.out.d4 (Api h)).2.2).elim,fun h=>(Apk hoff (HJ.out.d4 (HJ.out.d5 (Api h))).2.2).elim⟩
  ·simp at ho
   subst ho
   have h1x:L.getD 1 false=true:=hall {on:=1,ground:=Ground.data} (by simp) (by decide)
   have h2x:L.getD 2 false=true:=hall {on:=2,ground:=Ground.data} (by simp) (by decide)
   have HALL:=hI (And.intro h1x h2x)
   clear hall hi h1x h2x
   have e8:=HP.out.2.1 HALL.out.1
   have e9:=HP.out.2.2.1 HALL.out.2
   subst e8 e9
   refine App rfl fun K' HK=>?_
   go_simp
   exact HK.out _ _ ⟨by simp[HJ.out.sz],⟨_,_,_,_,rfl,fun h=>HP.out.1 (Api h),fun h=>HP.out.2.1 (Api h),fun h=>HP.out.2.2.1 (Api h),fun _=>rfl⟩,fun h=>let k:=HJ.out.d4 (Api h);⟨Aph hun k.1,Aph hun k.2.1,Aph hun k.2.2⟩,fun h=>Aph hun (HJ.out.d5 (Api h)),fun h=>Aph hun (HJ.out.d2 (Api h)),fun h=>HJ.out.wa (Apj h),fun h h'=>HJ.out.wb (Api h) (Apj h'),fun h=>HJ.out.wc (Api h)⟩
  ·simp at ho
   subst ho
   have h0x:L.getD 0 false=true:=hall {on:=0,ground:=Ground.data} (by simp) (by decide)
   have h2x:L.getD 2 false=true:=hall {on:=2,ground:=Ground.chain} (by simp) (by decide)
   have HALL:=hI (And.intro h0x h2x)
   clear hall hi h0x h2x
   have e7:=HP.out.1 HALL.out.1
   subst e7
   have hgw:=HJ.out.wa hoff
   have z0:=hgw.r0
   obtain⟨p0,p1,p2,p3,p4,p5,p6,p7,p8,p9,p10,p11,p12,p13,p14⟩:=Acn z0
   have f0:=Aaf z0 0
   have f1:=Aaf z0 1
   have f2:=Aaf z0 2
   have f3:=Aaf z0 3
   have f4:=Aaf z0 4
   have f5:=Aaf z0 5
   have f6:=Aaf z0 6
   have f7:=Aaf z0 7
   have f8:=Aaf z0 8
   have f9:=Aaf z0 9
   have f10:=Aaf z0 10
   have f11:=Aaf z0 11
   have f12:=Aaf z0 12
   have f13:=Aaf z0 13
   have f14:=Aaf z0 14
   have hx4:X4 w (((((((((((((((w'.setCell ⟨w.heap.size,0,none⟩ (.string ⟨#[98]⟩)).setCell ⟨w.heap.size,1,none⟩ (.int .i64 2)).setCell ⟨w.heap.size,2,none⟩ (.string ⟨#[85,83,68]⟩)).setCell ⟨w.heap.size,3,none⟩ (.int .i64 0)).setCell ⟨w.heap.size,4,none⟩ (.int .i64 19736)).setCell ⟨w.heap.size,5,none⟩ (.int .i64 20102)).setCell ⟨w.heap.size,6,none⟩ (.string ⟨#[49,48,48,48]⟩)).setCell ⟨w.heap.size,7,none⟩ (.string ⟨#[]⟩)).setCell ⟨w.heap.size,8,none⟩ (.string ⟨#[]⟩)).setCell ⟨w.heap.size,9,none⟩ (.string ⟨#[]⟩)).setCell ⟨w.heap.size,10,none⟩ (.int .i64 12)).setCell ⟨w.heap.size,11,none⟩ (.int .i64 3)).setCell ⟨w.heap.size,12,none⟩ (.string ⟨#[]⟩)).setCell ⟨w.heap.size,13,none⟩ (.string ⟨#[]⟩)).setCell ⟨w.heap.size,14,none⟩ (.string ⟨#[]⟩)):=⟨put15 z0 (.string ⟨#[98]⟩) (.int .i64 2) (.string ⟨#[85,83,68]⟩) (.int .i64 0) (.int .i64 19736) (.int .i64 20102) (.string ⟨#[49,48,48,48]⟩) (.string ⟨#[]⟩) (.string ⟨#[]⟩) (.string ⟨#[]⟩) (.int .i64 12) (.int .i64 3) (.string ⟨#[]⟩) (.string ⟨#[]⟩) (.string ⟨#[]⟩),(far15 (by omega) (.string ⟨#[98]⟩) (.int .i64 2) (.string ⟨#[85,83,68]⟩) (.int .i64 0) (.int .i64 19736) (.int .i64 20102) (.string ⟨#[49,48,48,48]⟩) (.string ⟨#[]⟩) (.string ⟨#[]⟩) (.string ⟨#[]⟩) (.int .i64 12) (.int .i64 3) (.string ⟨#[]⟩) (.string ⟨#[]⟩) (.string ⟨#[]⟩)).trans hgw.r1,below15 (Aad _) hgw.be (.string ⟨#[98]⟩) (.int .i64 2) (.string ⟨#[85,83,68]⟩) (.int .i64 0) (.int .i64 19736) (.int .i64 20102) (.string ⟨#[49,48,48,48]⟩) (.string ⟨#[]⟩) (.string ⟨#[]⟩) (.string ⟨#[]⟩) (.int .i64 12) (.int .i64 3) (.string ⟨#[]⟩) (.string ⟨#[]⟩) (.string ⟨#[]⟩)⟩
   have HX:=hI hx4
   clear z0 hgw hx4
   refine App rfl fun K' HK=>?_
   go_simp
   have hx4:=HX.out
   exact HK.out _ _ ⟨by simp[HJ.out.sz],⟨_,_,_,_,rfl,fun h=>HP.out.1 (Api h),fun h=>HP.out.2.1 (Api h),fun h=>HP.out.2.2.1 (Api h),fun h=>HP.out.2.2.2 (Api h)⟩,fun _=>⟨Aph hun HALL.out.1,Aph hun (HJ.out.d2 HALL.out.2),Aph hun HALL.out.2⟩,fun h=>Aph hun (HJ.out.d5 (Api h)),fun h=>Aph hun (HJ.out.d2 (Api h)),fun h=>(Apk h (Ape hun)).elim,fun _ _=>hx4,fun h=>(Apk hoff (HJ.out.d5 (Api h))).elim⟩
  ·simp at ho
   subst ho
   have h3x:L.getD 3 false=true:=hall {on:=3,ground:=Ground.data} (by simp) (by decide)
   have h4x:L.getD 4 false=true:=hall {on:=4,ground:=Ground.chain} (by simp) (by decide)
   have HALL:=hI (And.intro h3x h4x)
   clear hall hi h3x h4x
   have e10:=HP.out.2.2.2 HALL.out.1
   subst e10
   have hgw:=HJ.out.wb HALL.out.2 hoff
   have z1:=hgw.r1
   obtain⟨p0,p1,p2,p3,p4,p5,p6⟩:=Acp z1
   obtain⟨f0,f1,f2,f3,f4,f5,f6⟩:=Acq z1
   have hx5:X5 w (((((((w'.setCell ⟨(w.heap.size+1),0,none⟩ (.string ⟨#[120,47,49]⟩)).setCell ⟨(w.heap.size+1),1,none⟩ (.string ⟨#[98]⟩)).setCell ⟨(w.heap.size+1),2,none⟩ (.int .i64 19737)).setCell ⟨(w.heap.size+1),3,none⟩ (.int .i64 19737)).setCell ⟨(w.heap.size+1),4,none⟩ (.string ⟨#[49,48]⟩)).setCell ⟨(w.heap.size+1),5,none⟩ (.string ⟨#[57,56,48,48]⟩)).setCell ⟨(w.heap.size+1),6,none⟩ (.string ⟨#[]⟩)):=⟨(far7 (by omega) (.string ⟨#[120,47,49]⟩) (.string ⟨#[98]⟩) (.int .i64 19737) (.int .i64 19737) (.string ⟨#[49,48]⟩) (.string ⟨#[57,56,48,48]⟩) (.string ⟨#[]⟩)).trans hgw.r0,set7 z1 (.string ⟨#[120,47,49]⟩) (.string ⟨#[98]⟩) (.int .i64 19737) (.int .i64 19737) (.string ⟨#[49,48]⟩) (.string ⟨#[57,56,48,48]⟩) (.string ⟨#[]⟩),Arg (by omega) hgw.be (.string ⟨#[120,47,49]⟩) (.string ⟨#[98]⟩) (.int .i64 19737) (.int .i64 19737) (.string ⟨#[49,48]⟩) (.string ⟨#[57,56,48,48]⟩) (.string ⟨#[]⟩)⟩
   have HX:=hI hx5
   clear z1 hgw hx5
   refine App rfl fun K' HK=>?_
   go_simp
   have hx5:=HX.out
   exact HK.out _ _ ⟨by simp[HJ.out.sz],⟨_,_,_,_,rfl,fun h=>HP.out.1 (Api h),fun h=>HP.out.2.1 (Api h),fun h=>HP.out.2.2.1 (Api h),fun h=>HP.out.2.2.2 (Api h)⟩,fun h=>let k:=HJ.out.d4 (Api h);⟨Aph hun k.1,Aph hun k.2.1,Aph hun k.2.2⟩,fun _=>Aph hun HALL.out.2,fun h=>Aph hun (HJ.out.d2 (Api h)),fun h=>(Apk (Apj h) HALL.out.2).elim,fun _ h'=>(Apk h' (Ape hun)).elim,fun _=>hx5⟩
end Go.Proofs.YtcnmoobojdopgaaGreatDoor
