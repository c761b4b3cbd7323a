/-
  The walk of instrument.Check on what is valid. (Printed by gen_ins7.py.)
-/
import Derived.Test.YtcmgmemffncbhabGreatDoorT18
import Derived.Deep.DeepCutAuto
import Derived.Deep.RegionWith
set_option linter.unusedVariables false
set_option linter.unusedSimpArgs false
set_option maxHeartbeats 16000000
set_option maxRecDepth 100000
namespace Go.Proofs.YtcmgmemffncbhabGreatDoor
open Go.RowKit Tr Go.Shelf
abbrev nsCells(i:Inst):Array Value:=#[.string i.fn,.string i.fd,.string i.cn,.string i.cd,.string i.sn,.string i.sd]
def NsBox(W:World)(B:Nat)(i:Inst):Prop:=W.heap[B]?=some (.cells (nsCells i) 112 (0,0))
theorem NsBox.below{W W':World}{B:Nat}{i:Inst}(h:NsBox W B i)(hb:Below W.heap.size W W'):NsBox W' B i:=(hb.block B (Aab.1 h).1).trans h
structure Inst.ok(i:Inst):Prop where
 id:Ajn i.id=true
 kind:1≤i.kind∧i.kind≤5
 cur:Ajp i.cur=true
 places:0≤i.places∧i.places≤12
 issued:okDay i.issued
 matures:(i.matures=0∧i.kind≠2∧i.kind≠5)∨(i.matures≠0∧okDay i.matures∧i.issued<i.matures)
 n1:Ajr i.fn i.fd=0
 n2:Ajr i.cn i.cd=0
 n3:Ajr i.sn i.sd=0
 plain:i.kind≠2→i.kind≠5→plainOk i
 bond:i.kind=2→bondOk i
 fwd:i.kind=5→fwdOk i
def numB(t:List UInt8):Bool:=decide (t.length≤4)&&(match Lib.atoi t with|some v=>decide (1≤v)&&decide (v≤9999)&&(Lib.itoa v==t)|none=>false)
def idB(s:ByteArray):Bool:=numB (Lib.cut s.data.toList [47]).2.1&&Ajn (bs (Lib.cut s.data.toList [47]).1)
theorem Aju{t:List UInt8}(h:numB t=true):t.length≤4∧∃v:Int,Lib.atoi t=some v∧1≤v∧v≤9999∧Lib.itoa v=t:=by
 unfold numB at h
 rw[Bool.and_eq_true] at h
 refine⟨by simpa using h.1,?_⟩
 have h2:=h.2
 split at h2
 ·rename_i v hv
  simp only[Bool.and_eq_true,decide_eq_true_eq,beq_iff_eq] at h2
  exact⟨v,hv,h2.1.1,h2.1.2,h2.2⟩
 ·cases h2
theorem Ajv(s:ByteArray)(hs:s.size≤1000)(h:idB s=true)(w:World)(ht:Tabs w):
 Calls Tryz.prog 82 #[.string s] w fun e w'=>e=.returned (.bool true)∧Below w.heap.size w w':=by
 obtain⟨m,hm⟩:=ht.maxLen
 have HC:=Aac (Tryz.strings_Cut s ⟨#[47]⟩ m w (by omega) hm)
 unfold idB at h
 rw[Bool.and_eq_true] at h
 obtain⟨hn,hnm⟩:=h
 rw[show (⟨#[47]⟩:ByteArray).data.toList=[47] from rfl] at HC
 generalize Lib.cut s.data.toList [47]=c at HC hn hnm
 obtain⟨c1,c2,c3⟩:=c
 dsimp only at HC hn hnm
 obtain⟨hl,v,hv,v1,v2,hit⟩:=Aju hn
 have hz:(bs c2).size=c2.length:=Aej _
 have HA:=Aac (fun W=>Tryz.strconv_Atoi (bs c2) v (by omega) hv W)
 have HI:=Aac (fun W hW=>Ajh v (by omega) (by omega) W hW)
 rw[hit] at HI
 have hn1:(bs c1).size≤1000000:=by
  unfold Ajn at hnm
  simp only[Bool.and_eq_true,decide_eq_true_eq] at hnm
  omega
 have HN:=Aac (fun W=>Ajq (bs c1) hn1 W)
 rw[hnm] at HN
 rw[show (ByteArray.mk c1.toArray)=bs c1 from rfl,show (ByteArray.mk c2.toArray)=bs c2 from rfl] at HC
 have HT:=Aac ht
 clear hm hn hnm hit hv hz hn1 ht
 go_enter Tryz.func82,Tryz.ntmps82
 go_wp2_with fail
 refine HC.out.mono ?_
 rintro e w1 ⟨rfl,k,hw1⟩
 have B1:Below w.heap.size w w1:=by rw[hw1];exact Acz (Below.refl _ _) k
 clear hw1
 go_wp2_with fail
 refine (HA.out _).mono ?_
 rintro e w2 ⟨rfl,t,hw2⟩
 have B2:Below w.heap.size w w2:=by rw[hw2];exact B1.trans ((Lib.bytesWorld_below _ _ _).mono B1.size)
 clear hw2 B1
 go_wp2_with fail
 refine (HI.out _ (HT.out.below B2)).mono ?_
 rintro e w3 ⟨rfl,b3⟩
 have B3:=B2.trans (b3.mono B2.size)
 clear b3 B2
 go_wp2_with fail
 refine (HN.out _).mono ?_
 rintro e w4 ⟨rfl,b4⟩
 have B4:=B3.trans (b4.mono B3.size)
 clear b4 B3
 go_wp2_with fail
 go_ret
 exact⟨rfl,B4⟩
theorem Ajw(d:Int)(w:World):
 Calls Tryz.prog 84 #[.int .i64 d] w fun e w'=>e=.returned (.bool (decide (okDay d)))∧w'=w:=by
 go_enter Tryz.func84,Tryz.ntmps84
 go_wp2_with fail
 all_goals (go_ret;refine⟨?_,rfl⟩;first|(rw[Aa3 (p:=okDay d) (by unfold okDay;omega)];rfl)|(rw[Aa4 (p:=okDay d) (by unfold okDay;omega)];rfl)|(simp[okDay, *];done))
structure Lot where
 id:ByteArray
 inst:ByteArray
 acq:Int
 opn:Int
 qty:ByteArray
 cost:ByteArray
 used:ByteArray
abbrev Lot.cells(l:Lot):Array Value:=#[.string l.id,.string l.inst,.int .i64 l.acq,.int .i64 l.opn,.string l.qty,.string l.cost,.string l.used]
abbrev Lot.enc(l:Lot):Value:=.agg l.cells
def Lot.sized(l:Lot):Prop:=l.id.size≤1000∧l.inst.size≤1000∧l.qty.size≤1000∧l.cost.size≤1000∧l.used.size≤1000
def LotBox(W:World)(B:Nat)(l:Lot):Prop:=W.heap[B]?=some (.cells l.cells 38 (0,0))
theorem lbc{W:World}{B:Nat}{x:Lot}(h:LotBox W B x):W.cell? ⟨B,0,none⟩=some (.string x.id)∧W.cell? ⟨B,1,none⟩=some (.string x.inst)∧W.cell? ⟨B,2,none⟩=some (.int .i64 x.acq)∧W.cell? ⟨B,3,none⟩=some (.int .i64 x.opn)∧W.cell? ⟨B,4,none⟩=some (.string x.qty)∧W.cell? ⟨B,5,none⟩=some (.string x.cost)∧W.cell? ⟨B,6,none⟩=some (.string x.used) :=
 ⟨(Aaa h 0).trans rfl,(Aaa h 1).trans rfl,(Aaa h 2).trans rfl,(Aaa h 3).trans rfl,(Aaa h 4).trans rfl,(Aaa h 5).trans rfl,(Aaa h 6).trans rfl⟩
theorem LotBox.below{W W':World}{B:Nat}{l:Lot}(h:LotBox W B l)(hb:Below W.heap.size W W'):LotBox W' B l:=(hb.block B (Aab.1 h).1).trans h
theorem LotBox.lt{W:World}{B:Nat}{l:Lot}(h:LotBox W B l):B<W.heap.size:=(Aab.1 h).1
structure Lot.ok(l:Lot):Prop where
 id:idB l.id=true
 inst:Ajn l.inst=true
 acq:okDay l.acq
 opn:okDay l.opn
 ord:l.acq≤l.opn
 cq:Can l.qty
 cc:Can l.cost
 cu:Can l.used
 pq:0<vl l.qty
 pc:0≤vl l.cost
 us:l.used=⟨#[]⟩∨l.used=l.qty
def Ajx(l:Lot):Array Value:=#[.string l.qty,.string l.cost,.string l.used]
structure LLoop(w:World)(S:Nat)(l:Lot)(W:World):Prop where
 ns:W.heap[S]?=some (.cells (Ajx l) 23 (0,0))
 ib:LotBox W w.heap.size l
 be:Below w.heap.size w W
theorem LLoop.below{w:World}{S:Nat}{l:Lot}{W W':World}(h:LLoop w S l W)(hb:Below W.heap.size W W'):LLoop w S l W' :=
 ⟨(hb.block S (Aab.1 h.ns).1).trans h.ns,h.ib.below hb,h.be.trans (hb.mono h.be.size)⟩
theorem Ajy(l:Lot)(hs:l.sized)(h:l.ok)(w:World)(ht:Tabs w):
 Calls Tryz.prog 47 #[l.enc] w fun e w'=>e=.returned (.int .i64 0)∧Below w.heap.size w w':=by
 obtain⟨W0,hW0⟩:∃W0,w.alloc (.cells l.cells 38)=W0:=⟨_,rfl⟩
 have hk:LotBox W0 w.heap.size l:=by rw[←hW0];exact Aa5 w _
 have HB0:Hid (Below w.heap.size w W0):=by rw[←hW0];exact (Below.refl _ w).alloc (Aad _) _
 obtain⟨c0,c1,c2,c3,c4,c5,c6⟩:=Ac0 hk
 have HK0:=Aac hk
 have HT:=Aac ht
 obtain⟨z1,z2,z3,z4,z5⟩:=hs
 have S1:=Aac (fun W (hW:Tabs W)=>Ajv l.id (by omega) h.id W hW)
 have S2:=Aac (fun W=>Ajq l.inst (by omega) W)
 have S3:=Aac (fun W=>Ajw l.acq W)
 have S4:=Aac (fun W=>Ajw l.opn W)
 rw[h.inst] at S2
 rw[Aa3 h.acq] at S3
 rw[Aa3 h.opn] at S4
 have N1:=Aac (fun W=>Agq l.qty W (by omega) h.cq)
 have N2:=Aac (fun W=>Agq l.cost W (by omega) h.cc)
 have N3:=Aac (fun W=>Agq l.used W (by omega) h.cu)
 have M1:=Aac (fun W=>Agu l.qty ⟨#[]⟩ W (by omega) (by show 0≤_;omega))
 have M2:=Aac (fun W=>Agu l.cost ⟨#[]⟩ W (by omega) (by show 0≤_;omega))
 rw[show vl (⟨#[]⟩:ByteArray)=0 from by rw[zero_eq,vl_I]] at M1 M2
 have q1:decide (l.opn<l.acq)=false:=Aa4 (by have:=h.ord;omega)
 have q2:decide (cmpI (vl l.qty) 0≤0)=false:=Aa4 (by rw[Aet];have:=h.pq;omega)
 have q3:decide (cmpI (vl l.cost) 0<0)=false:=Aa4 (by rw[cmpI_lt];have:=h.pc;omega)
 have HU:=Aac h.us
 clear ht h hk
 unfold Lot.enc Lot.cells at *
 go_enter Tryz.func47,Tryz.ntmps47
 go_wp2_with fail
 refine (S1.out W0 (HT.out.below HB0.out)).mono ?_
 rintro e w1 ⟨rfl,b1⟩
 have HB1:=Aac (HB0.out.trans (b1.mono HB0.out.size))
 have hk1:=HK0.out.below b1
 clear c0 c1 c2 c3 c4 c5 c6
 obtain⟨c0,c1,c2,c3,c4,c5,c6⟩:=Ac0 hk1
 have HK1:=Aac hk1
 clear b1 S1 hk1 HK0 HB0
 go_wp2_with fail
 refine (S2.out w1).mono ?_
 rintro e w2 ⟨rfl,b2⟩
 have HB2:=Aac (HB1.out.trans (b2.mono HB1.out.size))
 have hk2:=HK1.out.below b2
 clear c0 c1 c2 c3 c4 c5 c6
 obtain⟨c0,c1,c2,c3,c4,c5,c6⟩:=Ac0 hk2
 have HK2:=Aac hk2
 clear b2 S2 hk2 HK1 HB1
 go_wp2_with fail
 refine (S3.out w2).mono ?_
 rintro e w3 ⟨rfl,rfl⟩
 clear S3
 go_wp2_with fail
 refine (S4.out _).mono ?_
 rintro e w4 ⟨rfl,rfl⟩
 clear S4
 obtain⟨W5,hW5⟩:∃W5,w4.alloc (.cells (Ajx l) 23)=W5:=⟨_,rfl⟩
 have b5:Below w4.heap.size w4 W5:=by rw[←hW5];exact (Below.refl _ w4).alloc (Aad _) _
 have HS5:Hid (LLoop w w4.heap.size l W5):=⟨by rw[←hW5];exact Aa5 w4 _,HK2.out.below b5,HB2.out.trans (b5.mono HB2.out.size)⟩
 clear b5 HK2 HB2
 unfold Ajx at hW5
 go_wp2_with fail
 go_loopw [38] (fun v wx=>∃k:Nat,v=.int .i64 (k:Int)∧k≤3∧LLoop w w4.heap.size l wx) (fun v _=>3-(intOf v).toNat)
 case atStart=>exact⟨0,rfl,by omega,HS5.out⟩
 case round =>
  obtain⟨k,rfl,hk,hL⟩:=hrel
  clear HS5 hW5
  clear c0 c1 c2 c3 c4 c5 c6
  have n0:=Aaa hL.ns 0
  have n1:=Aaa hL.ns 1
  have n2:=Aaa hL.ns 2
  simp[Ajx] at n0 n1 n2
  obtain⟨c0,c1,c2,c3,c4,c5,c6⟩:=Ac0 hL.ib
  have HL:=Aac hL
  clear hL
  rcases (show k=0∨k=1∨k=2∨k=3 from by omega) with rfl|rfl|rfl|rfl
  ·go_wp2_with fail
   refine (N1.out _).mono ?_
   rintro e w6 ⟨rfl,b6⟩
   have HL6:=Aac (HL.out.below b6)
   clear b6
   go_wp2_with fail
   go_roundw
   case rel=>exact⟨1,rfl,by omega,HL6.out⟩
   case measure=>simp[intOf]
  ·go_wp2_with fail
   refine (N2.out _).mono ?_
   rintro e w6 ⟨rfl,b6⟩
   have HL6:=Aac (HL.out.below b6)
   clear b6
   go_wp2_with fail
   go_roundw
   case rel=>exact⟨2,rfl,by omega,HL6.out⟩
   case measure=>simp[intOf]
  ·go_wp2_with fail
   refine (N3.out _).mono ?_
   rintro e w6 ⟨rfl,b6⟩
   have HL6:=Aac (HL.out.below b6)
   clear b6
   go_wp2_with fail
   go_roundw
   case rel=>exact⟨3,rfl,by omega,HL6.out⟩
   case measure=>simp[intOf]
  ·go_wp2_with fail
   refine (M1.out _).mono ?_
   rintro e w6 ⟨rfl,b6⟩
   have hL6:=HL.out.below b6
   clear c0 c1 c2 c3 c4 c5 c6
   clear n0 n1 n2
   obtain⟨c0,c1,c2,c3,c4,c5,c6⟩:=Ac0 hL6.ib
   have HL6:=Aac hL6
   clear b6 hL6 HL
   go_wp2_with fail
   refine (M2.out _).mono ?_
   rintro e w7 ⟨rfl,b7⟩
   have hL7:=HL6.out.below b7
   clear c0 c1 c2 c3 c4 c5 c6
   obtain⟨c0,c1,c2,c3,c4,c5,c6⟩:=Ac0 hL7.ib
   have HL7:=Aac hL7
   clear b7 hL7 HL6
   rcases HU.out with hu|hu
   ·rw[hu] at c6
    go_wp2_with fail
    go_ret
    exact⟨rfl,HL7.out.be⟩
   ·rw[hu] at c6
    by_cases he:l.qty=⟨#[]⟩
    ·rw[he] at c4 c6
     go_wp2_with fail
     go_ret
     exact⟨rfl,HL7.out.be⟩
    ·have hn:=Ajs l.qty
     rw[Aa4 he] at hn
     have hn2:(l.qty.toList==l.qty.toList)=true:=by simp
     go_wp2_with fail
     go_ret
     exact⟨rfl,HL7.out.be⟩
def Inst.tiny(i:Inst):Prop:=i.id.size≤40∧i.cur.size≤40∧i.other.size≤40∧i.fn.size≤13∧i.fd.size≤13∧i.cn.size≤13∧i.cd.size≤13∧i.sn.size≤13∧i.sd.size≤13
def Ajz(w:World)(P:Prop)(e:Ending)(w':World):Prop:=∃g:Bool,e=.returned (.bool g)∧(g=false→P)∧Below w.heap.size w w'
theorem decFrom_digits:∀(l:List UInt8) (acc:Nat),l.all Ab1=true→Lib.decFrom acc l=some (l.foldl (fun n c=>10*n+(c.toNat-48)) acc)
 | [],acc,_=>rfl
 | b::r,acc,h=>by
   rw[List.all_cons,Bool.and_eq_true] at h
   have hb:=(Ab6 b).1 h.1
   unfold Lib.decFrom Lib.digitVal
   rw[if_pos hb]
   show Lib.decFrom (acc*10+(b.toNat-48)) r=_
   rw[decFrom_digits r _ h.2,List.foldl_cons,Nat.mul_comm]
theorem Aj0{t:List UInt8}(h1:1≤t.length)(h4:t.length≤4)(hd:t.all Ab1=true)(h0:t.getD 0 0≠48):numB t=true:=by
 obtain⟨b,r,rfl⟩:∃b r,t=b::r:=by cases t with|nil=>simp at h1|cons b r=>exact⟨b,r,rfl⟩
 have hb48:b≠48:=by simpa using h0
 have hbd:Ab1 b=true:=by rw[List.all_cons,Bool.and_eq_true] at hd;exact hd.1
 have hb:=(Ab6 b).1 hbd
 have hs:strip (b::r)=b::r:=by unfold strip;rw[List.dropWhile_cons,if_neg (by simpa using hb48)]
 obtain⟨g1,g2⟩:=Ach (b::r) hd
 rw[hs] at g1 g2
 have hpos:0<dval (b::r):=Nat.pos_of_ne_zero (fun e=>by have:=g2.1 e;cases this)
 have hlt:=Acp (b::r) hd
 have hlt4:dval (b::r)<10^4:=Aah hlt (Aep h4)
 have ha:Lib.atoi (b::r)=some ((dval (b::r):Nat):Int):=by
  have n45:(b==45)=false:=by rw[Aaj];rintro rfl;simp at hb
  have n43:(b==43)=false:=by rw[Aaj];rintro rfl;simp at hb
  unfold Lib.atoi
  dsimp only
  rw[n45,n43]
  show Option.map (fun (m:Nat)=>(m:Int)) (Lib.decNat (b::r))=_
  unfold Lib.decNat
  rw[if_neg (by simp),decFrom_digits _ _ hd]
  rfl
 have hi:Lib.itoa ((dval (b::r):Nat):Int)=b::r:=by
  unfold Lib.itoa
  rw[if_neg (by omega),Int.toNat_natCast]
  have:=Afx hpos
  unfold dec at this
  rw[this,g1]
 unfold numB
 rw[ha]
 dsimp only
 rw[hi]
 simp only[Bool.and_eq_true,decide_eq_true_eq,beq_self_eq_true,and_true]
 exact⟨h4,by omega,by omega⟩
theorem index_slash:∀(l:List UInt8) (i:Nat),l[i]?=some 47→(∀j,j<i→l[j]?≠some 47)→Lib.index l [47]=(i:Int)
 | [],i,h,_=>by simp at h
 | b::r,0,h,_=>by
   simp at h
   subst h
   unfold Lib.index
   rw[if_pos (by simp)]
   rfl
 | b::r,i+1,h,hn=>by
   have hb:b≠47:=fun e=>hn 0 (by omega) (by simp[e])
   have hr:=index_slash r i (by simpa using h) (fun j hj=>by have:=hn (j+1) (by omega);simpa using this)
   unfold Lib.index
   rw[if_neg (by simpa using fun e=>hb e.symm),hr,if_neg (by simp)]
   push_cast
   rfl
end Go.Proofs.YtcmgmemffncbhabGreatDoor
