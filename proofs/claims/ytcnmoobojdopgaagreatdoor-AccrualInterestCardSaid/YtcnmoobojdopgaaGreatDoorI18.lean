/-
  The walk of instrument.Check on what is valid. (Printed by gen_ins7.py.)
-/
import Derived.Test.YtcnmoobojdopgaaGreatDoorI17
import Derived.Deep.DeepCutAuto
import Derived.Deep.RegionWith
set_option linter.unusedVariables false
set_option linter.unusedSimpArgs false
set_option maxHeartbeats 16000000
set_option maxRecDepth 100000
namespace Go.Proofs.YtcnmoobojdopgaaGreatDoor
open Go.RowKit Tr Go.Shelf
def RuleBox(W:World)(B:Nat)(ends:Bool)(f:Nat):Prop:=W.heap[B]?=some (.cells #[.bool ends,.func (.func f) #[] #[]] 179 (0,0))
def InstBox(W:World)(B:Nat)(i:Inst):Prop:=W.heap[B]?=some (.cells i.cells 27 (0,0))
theorem InstBox.below{W W':World}{B:Nat}{i:Inst}(h:InstBox W B i)(hb:Below W.heap.size W W'):InstBox W' B i:=(hb.block B (Aab.1 h).1).trans h
theorem RuleBox.below{W W':World}{B:Nat}{e:Bool}{f:Nat}(h:RuleBox W B e f)(hb:Below W.heap.size W W'):RuleBox W' B e f:=(hb.block B (Aab.1 h).1).trans h
abbrev Ak8(i:Inst):Array Value:=#[.string i.fn,.string i.fd,.string i.cn,.string i.cd,.string i.sn,.string i.sd]
def NsBox(W:World)(B:Nat)(i:Inst):Prop:=W.heap[B]?=some (.cells (Ak8 i) 25 (0,0))
theorem NsBox.below{W W':World}{B:Nat}{i:Inst}(h:NsBox W B i)(hb:Below W.heap.size W W'):NsBox W' B i:=(hb.block B (Aab.1 h).1).trans h
structure LoopS(w:World)(S B:Nat)(ends:Bool)(f:Nat)(i:Inst)(W:World):Prop where
 ns:NsBox W S i
 rb:RuleBox W B ends f
 ib:InstBox W w.heap.size i
 be:Below w.heap.size w W
theorem LoopS.below{w:World}{S B:Nat}{ends:Bool}{f:Nat}{i:Inst}{W W':World}(h:LoopS w S B ends f i W)(hb:Below W.heap.size W W'):LoopS w S B ends f i W' :=
 ⟨h.ns.below hb,h.rb.below hb,h.ib.below hb,h.be.trans (hb.mono h.be.size)⟩
theorem Ak9(i:Inst)(hs:i.sized)(ends:Bool)(f:Nat)(hen:∀args w,(callFunc f args).run Tryz.prog w=.ok (.enter f args) w)
 (hix:∀w,Sem.run Tryz.prog (Instr.index 180 (Value.agg ruleCells) (.int .i64 i.kind)) w=.ok (.agg #[.bool ends,.func (.func f) #[] #[]]) w)
 (hf:∀W,Calls Tryz.prog f #[i.enc] W fun e w'=>e=.returned (.int .i64 0)∧Below W.heap.size W w')
 (h1:Aki i.id=true) (h2:1≤i.kind∧i.kind≤5) (h3:Akj i.cur=true) (h4:0≤i.places∧i.places≤12) (h5:okDay i.issued)
 (h6:(i.matures=0∧ends=false)∨(i.matures≠0∧okDay i.matures∧i.issued<i.matures)) (n1:Akz i.fn i.fd=0) (n2:Akz i.cn i.cd=0) (n3:Akz i.sn i.sd=0)
 (w:World) (ht:Tabs w) :
 Calls Tryz.prog 83 #[i.enc] w fun e w'=>e=.returned (.int .i64 0)∧Below w.heap.size w w':=by
 obtain⟨W0,hW0,hB0,hz,hk⟩:=ibox i w
 obtain⟨c0,c1,c2,c3,c4,c5,c6,c7,c8,c9,c10,c11,c12,c13,c14⟩:=Acn hk
 have HB0:=Aac hB0
 have HK0:Hid (InstBox W0 w.heap.size i):=hk
 have HT:=Aac ht
 obtain⟨z1,z2,z3,z4,z5,z6,z7,z8,z9⟩:=hs
 have HF:=Aac hf
 have N1:=Aac (fun W hW=>Ak0 i.fn i.fd (by omega) (by omega) W hW)
 have N2:=Aac (fun W hW=>Ak0 i.cn i.cd (by omega) (by omega) W hW)
 have N3:=Aac (fun W hW=>Ak0 i.sn i.sd (by omega) (by omega) W hW)
 rw[n1] at N1
 rw[n2] at N2
 rw[n3] at N3
 have S1:=Aac (fun W=>Akk i.id (by omega) W)
 have S2:=Aac (fun W=>Akr i.cur (by omega) W)
 have S3:=Aac (fun W=>Aks i.issued W)
 have S4:=Aac (fun W=>Aks i.matures W)
 rw[h1] at S1
 rw[h3] at S2
 rw[Aav h5] at S3
 have q1:decide (i.kind<1)=false:=Aaw (by omega)
 have q2:decide (5<i.kind)=false:=Aaw (by omega)
 have q3:decide (i.places<0)=false:=Aaw (by omega)
 have q4:decide (12<i.places)=false:=Aaw (by omega)
 have H6:=Aac h6
 clear ht hf n1 n2 n3 h1 h2 h3 h4 h5 h6 hk hB0 hz
 unfold Inst.enc Inst.cells at *
 go_enter Tryz.func83,Tryz.ntmps83
 go_wp2_with fail
 refine (S1.out W0).mono ?_
 rintro e w1 ⟨rfl,b1⟩
 have d0:=keepc c0 b1
 have d1:=keepc c1 b1
 have d2:=keepc c2 b1
 have d3:=keepc c3 b1
 have d4:=keepc c4 b1
 have d5:=keepc c5 b1
 have d6:=keepc c6 b1
 have d7:=keepc c7 b1
 have d8:=keepc c8 b1
 have d9:=keepc c9 b1
 have d10:=keepc c10 b1
 have d11:=keepc c11 b1
 have d12:=keepc c12 b1
 have d13:=keepc c13 b1
 have d14:=keepc c14 b1
 have HB1:=Aac (HB0.out.trans (b1.mono HB0.out.size))
 have HK1:=Aac (HK0.out.below b1)
 clear b1 S1
 clear c0 c1 c2 c3 c4 c5 c6 c7 c8 c9 c10 c11 c12 c13 c14
 go_wp2_with fail
 refine (S2.out w1).mono ?_
 rintro e w2 ⟨rfl,b2⟩
 have c0:=keepc d0 b2
 have c1:=keepc d1 b2
 have c2:=keepc d2 b2
 have c3:=keepc d3 b2
 have c4:=keepc d4 b2
 have c5:=keepc d5 b2
 have c6:=keepc d6 b2
 have c7:=keepc d7 b2
 have c8:=keepc d8 b2
 have c9:=keepc d9 b2
 have c10:=keepc d10 b2
 have c11:=keepc d11 b2
 have c12:=keepc d12 b2
 have c13:=keepc d13 b2
 have c14:=keepc d14 b2
 have HB2:=Aac (HB1.out.trans (b2.mono HB1.out.size))
 have HK2:=Aac (HK1.out.below b2)
 clear b2 S2
 clear d0 d1 d2 d3 d4 d5 d6 d7 d8 d9 d10 d11 d12 d13 d14
 go_wp2_with fail
 refine (S3.out w2).mono ?_
 rintro e w3 ⟨rfl,rfl⟩
 clear S3
 go_wp2_with fail
 go_cut [3] (fun v3 wx=>∃(B:Nat) (wr:World),v3=.pointer (some ⟨B,0,none⟩)∧RuleBox wr B ends f∧InstBox wr w.heap.size i∧Below w.heap.size w wr∧wr=wx)
 case first =>
  have hl3:w.heap.size<w3.heap.size:=Afh c1
  have ka:(w3.drew.alloc (.cells #[.bool false,.nilFunc] 179)).cell? ⟨w.heap.size,1,none⟩=some (.int .i64 i.kind):=by
   rw[Aaa (HK2.out.below ((Below.refl _ w3).drew.alloc (Aad _) _))];rfl
  go_region_with (go_at_call 150;refine (Ak7 _).mono ?_;rintro e w4 ⟨rfl,b4⟩;have kk:InstBox w4 w.heap.size i:=(by first|exact (show InstBox w3.drew _ _ from HK2.out).below b4|exact (HK2.out.below ((Below.refl _ w3).drew.alloc (Aad _) _)).below b4);have k1:w4.cell? ⟨w.heap.size,1,none⟩=some (.int .i64 i.kind):=(by rw[Aaa kk];rfl);have k2:(w4.alloc (.cells #[.bool false,.nilFunc] 179)).cell? ⟨w.heap.size,1,none⟩=some (.int .i64 i.kind):=(by rw[Aaa (kk.below ((Below.refl _ w4).alloc (Aad _) _))];rfl);have nb:(w4.alloc (.cells #[.bool false,.nilFunc] 179)).heap[w4.heap.size]?=some (.cells #[.bool false,.nilFunc] 179 (0,0)):=Aax w4 _;have n0:=Aaa nb 0;have n1:=Aaa nb 1;have n2:=Aaf nb 0;have n3:=Aaf nb 1;simp at n0 n1 n2 n3;have NB:=Aac nb;clear nb;try (have rb:w4.heap[w3.heap.size]?=some (.cells #[.bool false,.nilFunc] 179 (0,0)):=(b4.block w3.heap.size (by simp)).trans (Aax w3.drew _);have r0:=Aaa rb 0;have r1:=Aaa rb 1;have r2:=Aaf rb 0;have r3:=Aaf rb 1;simp at r0 r1 r2 r3;have RB:=Aac rb;clear rb);have KK:=Aac kk;have B4:=Aac b4;clear kk b4)
  all_goals (first|go_wp2_with fail|skip)
  all_goals go_meet
  all_goals first
   | (refine⟨w4.heap.size,_,rfl,Aax w4 _,(show InstBox w4 w.heap.size i from by first|exact KK.out|assumption).below ((Below.refl _ w4).alloc (Aad _) _),?_,rfl⟩
      have q:=HB2.out.drew.trans ((show Below w3.drew.heap.size w3.drew w4 from by first|exact B4.out|assumption).mono HB2.out.size)
      exact q.alloc q.size _)
   | (refine⟨w3.heap.size,_,rfl,set2 RB.out _ _,(Below.heap_setCell _ _ _ _ (by simp;omega)).trans ((Below.heap_setCell _ _ _ _ (by simp;omega)).trans KK.out),?_,rfl⟩
      have q0:=HB2.out.drew.alloc HB2.out.size (Obj.cells #[.bool false,.nilFunc] 179)
      have q:=q0.trans (B4.out.mono (by have:=HB2.out.size;simp;omega))
      exact (q.setCell (p:=⟨w3.heap.size,0,none⟩) (by simp;have:=HB2.out.size;omega) _).setCell (p:=⟨w3.heap.size,1,none⟩) (by simp;have:=HB2.out.size;omega) _)
 case rest =>
  obtain⟨B,wr,rfl,hRB,hIB,hBB,rfl⟩:=hcut
  obtain⟨d0,d1,d2,d3,d4,d5,d6,d7,d8,d9,d10,d11,d12,d13,d14⟩:=Acn hIB
  have r0:=Aaa hRB 0
  have r1:=Aaa hRB 1
  simp at r0 r1
  have HRB:=Aac hRB
  have HIB:=Aac hIB
  have HBB:=Aac hBB
  clear hRB hIB hBB
  clear c0 c1 c2 c3 c4 c5 c6 c7 c8 c9 c10 c11 c12 c13 c14
  go_upto_region 12 with fail
  go_cut [68] (fun v wx=>v=.bool false∧wr=wx)
  case first =>
   rcases H6.out with⟨hm,he⟩|⟨hm,hm1,hm2⟩
   ·subst he
    rw[hm] at d5
    clear hm
    go_wp2_with fail
    go_meet
    exact⟨rfl,rfl⟩
   ·have t1:(i.matures==0)=false:=Aaj.2 hm
    have t2:decide (i.matures≤i.issued)=false:=Aaw (by omega)
    go_wp2_with fail
    refine (S4.out _).mono ?_
    rintro e w5 ⟨rfl,rfl⟩
    rw[Aav hm1]
    go_wp2_with fail
    go_meet
    exact⟨rfl,rfl⟩
  case rest =>
   obtain⟨rfl,rfl⟩:=hcut
   obtain⟨W5,hW5⟩:∃W5,wr.alloc (.cells (Ak8 i) 25)=W5:=⟨_,rfl⟩
   have kS:NsBox W5 wr.heap.size i:=by rw[←hW5];exact Aax wr _
   have b5:Below wr.heap.size wr W5:=by rw[←hW5];exact (Below.refl _ wr).alloc (Aad _) _
   have hsz:w.heap.size≤wr.heap.size:=HBB.out.size
   have HS5:Hid (LoopS w wr.heap.size B ends f i W5):=⟨kS,HRB.out.below b5,HIB.out.below b5,HBB.out.trans (b5.mono hsz)⟩
   clear kS b5 S4 H6 HRB HIB HBB
   clear r0 r1
   clear d0 d1 d2 d3 d4 d5 d10 d11 d12
   unfold Ak8 at hW5
   go_wp2_with fail
   go_loopw [77] (fun v wx=>∃k:Nat,v=.int .i64 (k:Int)∧k≤3∧LoopS w wr.heap.size B ends f i wx) (fun v _=>3-(intOf v).toNat)
   case atStart=>exact⟨0,rfl,by omega,HS5.out⟩
   case round =>
    obtain⟨k,rfl,hk3,hL⟩:=hrel
    clear HS5 hW5
    have n0:=Aaa hL.ns 0
    have n1:=Aaa hL.ns 1
    have n2:=Aaa hL.ns 2
    have n3:=Aaa hL.ns 3
    have n4:=Aaa hL.ns 4
    have n5:=Aaa hL.ns 5
    simp at n0 n1 n2 n3 n4 n5
    have HL:=Aac hL
    rcases (show k=0∨k=1∨k=2∨k=3 from by omega) with rfl|rfl|rfl|rfl
    ·clear hL
     go_wp2_with fail
     refine (N1.out _ (HT.out.below (HL.out.be.trans (((Below.refl _ _).alloc (Aad _) _).mono HL.out.be.size)))).mono ?_
     rintro e w6 ⟨rfl,b6⟩
     have HL6:=Aac ((HL.out.below ((Below.refl _ _).alloc (Aad _) _)).below b6)
     clear b6
     go_wp2_with fail
     go_roundw
     case rel=>exact⟨1,rfl,by omega,HL6.out⟩
     case measure=>simp[intOf]
    ·clear hL
     go_wp2_with fail
     refine (N2.out _ (HT.out.below (HL.out.be.trans (((Below.refl _ _).alloc (Aad _) _).mono HL.out.be.size)))).mono ?_
     rintro e w6 ⟨rfl,b6⟩
     have HL6:=Aac ((HL.out.below ((Below.refl _ _).alloc (Aad _) _)).below b6)
     clear b6
     go_wp2_with fail
     go_roundw
     case rel=>exact⟨2,rfl,by omega,HL6.out⟩
     case measure=>simp[intOf]
    ·clear hL
     go_wp2_with fail
     refine (N3.out _ (HT.out.below (HL.out.be.trans (((Below.refl _ _).alloc (Aad _) _).mono HL.out.be.size)))).mono ?_
     rintro e w6 ⟨rfl,b6⟩
     have HL6:=Aac ((HL.out.below ((Below.refl _ _).alloc (Aad _) _)).below b6)
     clear b6
     go_wp2_with fail
     go_roundw
     case rel=>exact⟨3,rfl,by omega,HL6.out⟩
     case measure=>simp[intOf]
    ·have r0:=Aaa hL.rb 0
     have r1:=Aaa hL.rb 1
     simp at r0 r1
     obtain⟨d0,d1,d2,d3,d4,d5,d6,d7,d8,d9,d10,d11,d12,d13,d14⟩:=Acn hL.ib
     clear hL
     go_wp2_with fail
     refine (HF.out _).mono ?_
     rintro e w7 ⟨rfl,b7⟩
     go_wp2_with fail
     go_ret
     exact⟨rfl,HL.out.be.trans (b7.mono HL.out.be.size)⟩
structure Inst.ok(i:Inst):Prop where
 id:Aki i.id=true
 kind:1≤i.kind∧i.kind≤5
 cur:Akj i.cur=true
 places:0≤i.places∧i.places≤12
 issued:okDay i.issued
 matures:(i.matures=0∧i.kind≠2∧i.kind≠5)∨(i.matures≠0∧okDay i.matures∧i.issued<i.matures)
 n1:Akz i.fn i.fd=0
 n2:Akz i.cn i.cd=0
 n3:Akz i.sn i.sd=0
 plain:i.kind≠2→i.kind≠5→Ak2 i
 bond:i.kind=2→Ak4 i
 fwd:i.kind=5→fwdOk i
theorem Ama(k:Int)(ends:Bool)(f:Nat)(h:∀w,Sem.run Tryz.prog (Instr.index 180 (Value.agg ruleCells) (.int .i64 k)) w=.ok (.agg #[.bool ends,.func (.func f) #[] #[]]) w)(i:Inst)(hi:i.kind=k):
 ∀w,Sem.run Tryz.prog (Instr.index 180 (Value.agg ruleCells) (.int .i64 i.kind)) w=.ok (.agg #[.bool ends,.func (.func f) #[] #[]]) w:=by
 subst hi;exact h
theorem Amb(i:Inst)(hs:i.sized)(h:i.ok)(w:World)(ht:Tabs w):
 Calls Tryz.prog 83 #[i.enc] w fun e w'=>e=.returned (.int .i64 0)∧Below w.heap.size w w':=by
 have hk:=h.kind
 rcases (show i.kind=1∨i.kind=2∨i.kind=3∨i.kind=4∨i.kind=5 from by omega) with hi|hi|hi|hi|hi
 ·exact Ak9 i hs false 211 (enters_of Tryz.func211 (by kernel_rfl) rfl) (Ama 1 _ _ (fun _=>by kernel_rfl) i hi) (fun W=>Ak3 i hs (h.plain (by omega) (by omega)) W)
   h.id hk h.cur h.places h.issued (h.matures.imp (fun x=>⟨x.1,rfl⟩) (fun x=>x)) h.n1 h.n2 h.n3 w ht
 ·exact Ak9 i hs true 212 (enters_of Tryz.func212 (by kernel_rfl) rfl) (Ama 2 _ _ (fun _=>by kernel_rfl) i hi) (fun W=>Ak5 i hs (h.bond hi) W)
   h.id hk h.cur h.places h.issued (.inr (h.matures.resolve_left (fun x=>x.2.1 hi))) h.n1 h.n2 h.n3 w ht
 ·exact Ak9 i hs false 211 (enters_of Tryz.func211 (by kernel_rfl) rfl) (Ama 3 _ _ (fun _=>by kernel_rfl) i hi) (fun W=>Ak3 i hs (h.plain (by omega) (by omega)) W)
   h.id hk h.cur h.places h.issued (h.matures.imp (fun x=>⟨x.1,rfl⟩) (fun x=>x)) h.n1 h.n2 h.n3 w ht
 ·exact Ak9 i hs false 211 (enters_of Tryz.func211 (by kernel_rfl) rfl) (Ama 4 _ _ (fun _=>by kernel_rfl) i hi) (fun W=>Ak3 i hs (h.plain (by omega) (by omega)) W)
   h.id hk h.cur h.places h.issued (h.matures.imp (fun x=>⟨x.1,rfl⟩) (fun x=>x)) h.n1 h.n2 h.n3 w ht
 ·exact Ak9 i hs true 213 (enters_of Tryz.func213 (by kernel_rfl) rfl) (Ama 5 _ _ (fun _=>by kernel_rfl) i hi) (fun W=>Ak6 i hs (h.fwd hi) W)
   h.id hk h.cur h.places h.issued (.inr (h.matures.resolve_left (fun x=>x.2.2 hi))) h.n1 h.n2 h.n3 w ht
def Inst.tiny(i:Inst):Prop:=i.id.size≤40∧i.cur.size≤40∧i.other.size≤40∧i.fn.size≤13∧i.fd.size≤13∧i.cn.size≤13∧i.cd.size≤13∧i.sn.size≤13∧i.sd.size≤13
def ChkPost(w:World)(P:Prop)(e:Ending)(w':World):Prop:=∃n:Int,e=.returned (.int .i64 n)∧(n=0↔P)∧Below w.heap.size w w'
theorem ChkPost.bad{w w':World}{P:Prop}{n:Int}(hn:n≠0)(hP:¬P)(hb:Below w.heap.size w w'):ChkPost w P (.returned (.int .i64 n)) w':=⟨n,rfl,⟨fun h=>absurd h hn,fun h=>absurd h hP⟩,hb⟩
theorem ChkPost.good{w w':World}{P:Prop}(hP:P)(hb:Below w.heap.size w w'):ChkPost w P (.returned (.int .i64 0)) w':=⟨0,rfl,⟨fun _=>hP,fun _=>rfl⟩,hb⟩
theorem Amc{n d:ByteArray}(ha:n.size≤16)(hb:d.size≤16):Akz n d=0↔CanQ n d:=by
 unfold Akz
 have h1:=Akw n
 have h2:=Akw d
 by_cases h:CanQ n d
 ·rw[if_neg (by simpa using h),if_neg (by omega)];simp[h]
 ·rw[if_pos h];simp[h]
theorem Amd(n d:ByteArray)(ha:n.size≤16)(hb:d.size≤16)(w:World):
 Calls Tryz.prog 96 #[.agg #[.string n,.string d]] w (ChkPost w (CanQ n d)):=by
 by_cases h:CanQ n d
 ·exact (Akx n d ha hb h w).mono (fun e w' ⟨h1,h2⟩=>by subst h1;exact ChkPost.good h h2)
 ·exact (Aky n d ha hb h w).mono (fun e w' ⟨h1,h2⟩=>by subst h1;exact ChkPost.bad (by decide) h h2)
def nAt(i:Inst):Nat→ByteArray|0=>i.fn|1=>i.cn|_=>i.sn
def dAt(i:Inst):Nat→ByteArray|0=>i.fd|1=>i.cd|_=>i.sd
abbrev Ame(i:Inst):Array Value:=#[.string i.fn,.string i.fd,.string i.cn,.string i.cd,.string i.sn,.string i.sd]
structure RC(w:World)(i:Inst)(b:Nat)(W:World):Prop where
 k0:W.heap[w.heap.size]?=some (.cells i.cells 27 (0,0))
 k1:W.heap[b]?=some (.cells (Ame i) 25 (0,0))
 bel:Below w.heap.size w W
theorem RC.below{w:World}{i:Inst}{b:Nat}{W W':World}(h:RC w i b W)(hb:Below W.heap.size W W'):RC w i b W' :=
 ⟨(hb.block _ (Aab.1 h.k0).1).trans h.k0,(hb.block _ (Aab.1 h.k1).1).trans h.k1,h.bel.trans (hb.mono h.bel.size)⟩
structure RZ(w:World)(i:Inst)(zb:Nat)(W:World):Prop where
 k0:W.heap[w.heap.size]?=some (.cells i.cells 27 (0,0))
 kz:W.heap[zb]?=some (.cells #[.string ⟨#[]⟩,.string ⟨#[]⟩] 25 (0,0))
 bel:Below w.heap.size w W
theorem RZ.below{w:World}{i:Inst}{b:Nat}{W W':World}(h:RZ w i b W)(hb:Below W.heap.size W W'):RZ w i b W' :=
 ⟨(hb.block _ (Aab.1 h.k0).1).trans h.k0,(hb.block _ (Aab.1 h.kz).1).trans h.kz,h.bel.trans (hb.mono h.bel.size)⟩
theorem Amf{n d:ByteArray}(h:CanQ n d):(vl n=0↔n=⟨#[]⟩)∧(n=⟨#[]⟩→d=⟨#[]⟩):=by
 have h0:vl n=0→fv n d=0:=by
  intro hv
  rw[h.1,vl_I] at hv
  exact Rat.num_eq_zero.1 hv
 have h1:n=⟨#[]⟩→vl n=0:=by intro e;rw[e,zero_eq,vl_I]
 refine⟨⟨fun hv=>?_,h1⟩,fun e=>?_⟩
 ·rw[h.1,h0 hv];rfl
 ·rw[h.2,h0 (h1 e)];rfl
theorem Amg{s:ByteArray}(h:s≠⟨#[]⟩):(s.toList==[])=false:=by rw[Ak1];exact Aaw h
theorem Amh(i:Inst)(hs:i.tiny)(hkind:i.kind=2)(w:World):
 Calls Tryz.prog 38 #[i.enc] w (ChkPost w i.ok):=by
 have HKIND:=Aac hkind
 clear hkind
 obtain⟨z1,z2,z3,z4,z5,z6,z7,z8,z9⟩:=hs
 have HS:=Aac (And.intro z4 (And.intro z5 (And.intro z6 (And.intro z7 (And.intro z8 z9)))))
 have HN1:=Aac (fun W=>Akp i.id (by omega) W)
 have HC1:=Aac (fun W=>Akq i.cur (by omega) W)
 have HC2:=Aac (fun W=>Akq i.other (by omega) W)
 clear z1 z2 z3 z4 z5 z6 z7 z8 z9
 obtain⟨W0,hW0,hB0,hz,hk⟩:=ibox i w
 obtain⟨c0,c1,c2,c3,c4,c5,c6,c7,c8,c9,c10,c11,c12,c13,c14⟩:=Acn hk
 have HB:=Aac hB0
 have HK:=Aac hk
 clear hB0 hz hk
 go_enter Tryz.func38,Tryz.ntmps38
 go_wp2_with fail
 refine (HN1.out _).mono ?_
 rintro e w1 ⟨rfl,rfl⟩
 clear HN1
 cases h1:Aki i.id
 ·have HH:=Aac h1
  clear h1
  go_wp2_with fail
  go_ret
  exact ChkPost.bad (by decide) (fun h=>by have:=h.id;rw[HH.out] at this;cases this) HB.out
 have H1:=Aac h1
 clear h1
 by_cases h2:i.kind<1
 ·go_wp2_with fail
  go_ret
  exact ChkPost.bad (by decide) (fun h=>by have:=h.kind;omega) HB.out
 by_cases h3:5<i.kind
 ·go_wp2_with fail
  go_ret
  exact ChkPost.bad (by decide) (fun h=>by have:=h.kind;omega) HB.out
 have t2:decide (i.kind<1)=false:=Aaw h2
 have t3:decide (5<i.kind)=false:=Aaw h3
 have H2:=Aac (show 1≤i.kind∧i.kind≤5 by omega)
 go_wp2_with fail
 refine (HC1.out _).mono ?_
 rintro e w1 ⟨rfl,rfl⟩
 clear HC1 t2 t3 h2 h3
 cases h4:Akj i.cur
 ·have HH:=Aac h4
  clear h4
  go_wp2_with fail
  go_ret
  exact ChkPost.bad (by decide) (fun h=>by have:=h.cur;rw[HH.out] at this;cases this) HB.out
 have H4:=Aac h4
 clear h4
 by_cases h5:i.places<0
 ·go_wp2_with fail
  go_ret
  exact ChkPost.bad (by decide) (fun h=>by have:=h.places;omega) HB.out
 by_cases h6:12<i.places
 ·go_wp2_with fail
  go_ret
  exact ChkPost.bad (by decide) (fun h=>by have:=h.places;omega) HB.out
 have t5:decide (i.places<0)=false:=Aaw h5
 have t6:decide (12<i.places)=false:=Aaw h6
 have H5:=Aac (show 0≤i.places∧i.places≤12 by omega)
 go_wp2_with fail
 clear t5 t6 h5 h6
 by_cases h7:okDay i.issued
 case neg =>
  refine (Akn i.issued h7 _).mono ?_
  rintro e w1 ⟨rfl,rfl⟩
  have HH:=Aac h7
  clear h7
  go_wp2_with fail
  go_ret
  exact ChkPost.bad (by decide) (fun h=>HH.out h.issued) HB.out
 refine (Akm i.issued h7 _).mono ?_
 rintro e w1 ⟨rfl,rfl⟩
 have H7:=Aac h7
 clear h7
 go_upto_region 11 with fail
 obtain⟨ends,HE⟩:∃ends:Bool,Hid (ends=decide (i.kind=2∨i.kind=5)):=⟨_,rfl⟩
 go_cut [3] (fun v wx=>v=.bool ends∧W0=wx)
 case first =>
  as_aux_lemma =>
   have he:=HE.out
   have h2:=H2.out
   clear HE H2
   rcases (show i.kind=1∨i.kind=2∨i.kind=3∨i.kind=4∨i.kind=5 from by omega) with hi|hi|hi|hi|hi
   all_goals
    rw[hi] at he c1
    simp at he
    subst he
    clear hi h2
    go_wp2_with fail
    go_meet
    exact⟨rfl,rfl⟩
 case rest =>
 obtain⟨rfl,rfl⟩:=hcut
 obtain⟨bad,HM⟩:∃bad:Bool,Hid (bad=decide (¬((i.matures=0∧i.kind≠2∧i.kind≠5)∨(i.matures≠0∧okDay i.matures∧i.issued<i.matures)))):=⟨_,rfl⟩
 go_upto_region 12 with fail
 go_cut [68] (fun v wx=>v=.bool bad∧W0=wx)
 case first =>
  as_aux_lemma =>
   have hm:=HM.out
   have he:=HE.out
   clear HM HE
   by_cases m0:i.matures=0
   ·rw[m0] at c5
    by_cases m1:i.kind=2∨i.kind=5
    ·rw[Aav m1] at he
     rw[Aav (by rintro (h|h);exact absurd m1 (by omega);exact h.1 m0)] at hm
     subst he hm
     clear m0 m1
     go_wp2_with fail
     go_meet
     exact⟨rfl,rfl⟩
    ·rw[Aaw m1] at he
     rw[Aaw (by intro h;exact h (.inl ⟨m0,by omega,by omega⟩))] at hm
     subst he hm
     clear m0 m1
     go_wp2_with fail
     go_meet
     exact⟨rfl,rfl⟩
   ·have u0:(i.matures==0)=false:=Aaj.2 m0
    have u1:(i.matures != 0)=true:=by simp[bne,u0]
    by_cases m1:okDay i.matures
    ·by_cases m2:i.issued<i.matures
     ·have u2:decide (i.matures≤i.issued)=false:=Aaw (by omega)
      rw[Aaw (by intro h;exact h (.inr ⟨m0,m1,m2⟩))] at hm
      subst hm
      have S4:=Aac (Akm i.matures m1)
      clear he m0 m1 m2
      go_wp2_with fail
      refine (S4.out _).mono ?_
      rintro e w5 ⟨rfl,rfl⟩
      go_wp2_with fail
      go_meet
      exact⟨rfl,rfl⟩
     ·have u2:decide (i.matures≤i.issued)=true:=Aav (by omega)
      rw[Aav (by rintro (h|h);exact m0 h.1;exact m2 h.2.2)] at hm
      subst hm
      have S4:=Aac (Akm i.matures m1)
      clear he m0 m1 m2
      go_wp2_with fail
      refine (S4.out _).mono ?_
      rintro e w5 ⟨rfl,rfl⟩
      go_wp2_with fail
      go_meet
      exact⟨rfl,rfl⟩
    ·rw[Aav (by rintro (h|h);exact m0 h.1;exact m1 h.2.1)] at hm
     subst hm
     have S4:=Aac (Akn i.matures m1)
     clear he m0 m1
     go_wp2_with fail
     refine (S4.out _).mono ?_
     rintro e w5 ⟨rfl,rfl⟩
     go_wp2_with fail
     go_meet
     exact⟨rfl,rfl⟩
 case rest =>
 obtain⟨rfl,rfl⟩:=hcut
 cases bad
 case true =>
  go_wp2_with fail
  go_ret
  exact ChkPost.bad (by decide) (fun h=>by have:=HM.out;exact (of_decide_eq_true this.symm) h.matures) HB.out
 have HM:=Aac (show (i.matures=0∧i.kind≠2∧i.kind≠5)∨(i.matures≠0∧okDay i.matures∧i.issued<i.matures) from Classical.not_not.1 (of_decide_eq_false HM.out.symm))
 go_wp2_with fail
 have hRC:RC w i W0.heap.size (W0.alloc (.cells (Ame i) 25)):=⟨(Below.heap_alloc W0 _ _ (Afh c0)).trans HK.out,Aax W0 _,HB.out.alloc HB.out.size _⟩
 generalize hW1:W0.alloc (.cells (Ame i) 25)=W1 at hRC ⊢
 have HLT:Hid (w.heap.size<W0.heap.size):=Afh c0
 generalize W0.heap.size=b at hRC HLT ⊢
 have HRC:=Aac hRC
 clear hRC hW1 HB HK hW0 c0 c1 c2 c3 c4 c5 c6 c7 c8 c9 c10 c11 c12 c13 c14
 go_loopw [5,6] (fun v5 _ wr=>∃k:Nat,v5=.int .i64 (k:Int)∧k≤3∧(∀j,j<k→CanQ (nAt i j) (dAt i j))∧RC w i b wr) (fun v5 _ _=>3-(intOf v5).toNat)
 case atStart=>exact⟨0,rfl,by omega,fun j hj=>by omega,HRC.out⟩
 case round =>
  obtain⟨k,rfl,hk,hj,hrc⟩:=hrel
  have HJ:=Aac hj
  have HRC:=Aac hrc
  have d0:=Aaa hrc.k1 0
  have d1:=Aaa hrc.k1 1
  have d2:=Aaa hrc.k1 2
  have d3:=Aaa hrc.k1 3
  have d4:=Aaa hrc.k1 4
  have d5:=Aaa hrc.k1 5
  simp at d0 d1 d2 d3 d4 d5
  clear hj hrc
  have hs:=HS.out
  rcases (show k=0∨k=1∨k=2∨k=3 from by omega) with rfl|rfl|rfl|rfl
  ·have HC:=Aac (fun W=>Amd i.fn i.fd (by omega) (by omega) W)
   clear hs
   go_wp2_with fail
   refine (HC.out _).mono ?_
   rintro e w2 ⟨m,rfl,hm,hb2⟩
   have HRC2:=Aac (HRC.out.below hb2)
   have HM2:=Aac hm
   clear hm hb2 HRC HC d0 d1 d2 d3 d4 d5
   by_cases h0:m=0
   ·have HG:=Aac (HM2.out.1 h0)
    subst h0
    go_wp2_with fail
    refine⟨⟨1,rfl,by omega,fun j hj=>?_,HRC2.out⟩,by simp[intOf]⟩
    rcases Aam j 0 with h|h
    ·exact HJ.out j h
    ·have hjk:j=0:=by omega
     subst hjk
     exact HG.out
   ·have t0:(m==0)=false:=Aaj.2 h0
    have t1:(m != 0)=true:=by simp[bne,t0]
    have H0:=Aac h0
    clear h0
    go_wp2_with fail
    go_ret
    exact ChkPost.bad H0.out (fun h=>H0.out (HM2.out.2 ((Amc (by have:=HS.out;omega) (by have:=HS.out;omega)).1 h.n1))) HRC2.out.bel
  ·have HC:=Aac (fun W=>Amd i.cn i.cd (by omega) (by omega) W)
   clear hs
   go_wp2_with fail
   refine (HC.out _).mono ?_
   rintro e w2 ⟨m,rfl,hm,hb2⟩
   have HRC2:=Aac (HRC.out.below hb2)
   have HM2:=Aac hm
   clear hm hb2 HRC HC d0 d1 d2 d3 d4 d5
   by_cases h0:m=0
   ·have HG:=Aac (HM2.out.1 h0)
    subst h0
    go_wp2_with fail
    refine⟨⟨2,rfl,by omega,fun j hj=>?_,HRC2.out⟩,by simp[intOf]⟩
    rcases Aam j 1 with h|h
    ·exact HJ.out j h
    ·have hjk:j=1:=by omega
     subst hjk
     exact HG.out
   ·have t0:(m==0)=false:=Aaj.2 h0
    have t1:(m != 0)=true:=by simp[bne,t0]
    have H0:=Aac h0
    clear h0
    go_wp2_with fail
    go_ret
    exact ChkPost.bad H0.out (fun h=>H0.out (HM2.out.2 ((Amc (by have:=HS.out;omega) (by have:=HS.out;omega)).1 h.n2))) HRC2.out.bel
  ·have HC:=Aac (fun W=>Amd i.sn i.sd (by omega) (by omega) W)
   clear hs
   go_wp2_with fail
   refine (HC.out _).mono ?_
   rintro e w2 ⟨m,rfl,hm,hb2⟩
   have HRC2:=Aac (HRC.out.below hb2)
   have HM2:=Aac hm
   clear hm hb2 HRC HC d0 d1 d2 d3 d4 d5
   by_cases h0:m=0
   ·have HG:=Aac (HM2.out.1 h0)
    subst h0
    go_wp2_with fail
    refine⟨⟨3,rfl,by omega,fun j hj=>?_,HRC2.out⟩,by simp[intOf]⟩
    rcases Aam j 2 with h|h
    ·exact HJ.out j h
    ·have hjk:j=2:=by omega
     subst hjk
     exact HG.out
   ·have t0:(m==0)=false:=Aaj.2 h0
    have t1:(m != 0)=true:=by simp[bne,t0]
    have H0:=Aac h0
    clear h0
    go_wp2_with fail
    go_ret
    exact ChkPost.bad H0.out (fun h=>H0.out (HM2.out.2 ((Amc (by have:=HS.out;omega) (by have:=HS.out;omega)).1 h.n3))) HRC2.out.bel
  ·have Q1:=Aac (show CanQ i.fn i.fd from HJ.out 0 (by omega))
   have Q2:=Aac (show CanQ i.cn i.cd from HJ.out 1 (by omega))
   have Q3:=Aac (show CanQ i.sn i.sd from HJ.out 2 (by omega))
   clear hs HJ d0 d1 d2 d3 d4 d5
   go_upto_region 22 with fail
   have hRZ:RZ w i wr.heap.size (wr.alloc (.cells #[.string ⟨#[]⟩,.string ⟨#[]⟩] 25)):=⟨(Below.heap_alloc wr _ _ (Aab.1 HRC.out.k0).1).trans HRC.out.k0,Aax wr _,HRC.out.bel.alloc HRC.out.bel.size _⟩
   generalize wr.alloc (.cells #[.string ⟨#[]⟩,.string ⟨#[]⟩] 25)=W3 at hRZ ⊢
   generalize wr.heap.size=zb at hRZ ⊢
   have HRZ:=Aac hRZ
   have c0:=Aaa hRZ.k0 0
   have c1:=Aaa hRZ.k0 1
   have c2:=Aaa hRZ.k0 2
   have c3:=Aaa hRZ.k0 3
   have c4:=Aaa hRZ.k0 4
   have c5:=Aaa hRZ.k0 5
   have c6:=Aaa hRZ.k0 6
   have c7:=Aaa hRZ.k0 7
   have c8:=Aaa hRZ.k0 8
   have c9:=Aaa hRZ.k0 9
   have c10:=Aaa hRZ.k0 10
   have c11:=Aaa hRZ.k0 11
   have c12:=Aaa hRZ.k0 12
   have c13:=Aaa hRZ.k0 13
   have c14:=Aaa hRZ.k0 14
   have y0:=Aaa hRZ.kz 0
   have y1:=Aaa hRZ.kz 1
   simp at c0 c1 c2 c3 c4 c5 c6 c7 c8 c9 c10 c11 c12 c13 c14 y0 y1
   clear hRZ HRC HLT
   obtain⟨g1,g2,g3,g4,g5,g6⟩:=HS.out
   have kk:i.kind=2:=HKIND.out
   ·have KK:=Aac kk
    rw[kk] at c1
    clear kk
    have SF:=Aac (fun W=>Ah6 i.fn i.fd (by omega) (by omega) Q1.out W)
    have SC:=Aac (fun W=>Ah6 i.cn i.cd (by omega) (by omega) Q2.out W)
    go_upto_region 23 with fail
    obtain⟨mo,HMO⟩:∃mo:Bool,Hid (mo=decide (i.months∈monthsL)):=⟨_,rfl⟩
    go_cut [8] (fun v wx=>v=.bool mo∧W3=wx)
    case first =>
     as_aux_lemma =>
      have hm:=HMO.out
      clear HMO
      unfold monthsL at hm
      by_cases n1:i.months=1
      ·rw[n1] at hm c10
       simp at hm
       subst hm
       clear n1
       go_wp2_with fail
       go_meet
       exact⟨rfl,rfl⟩
      have p1:(i.months==1)=false:=Aaj.2 n1
      by_cases n2:i.months=2
      ·rw[n2] at hm c10
       simp at hm
       subst hm
       clear n2
       go_wp2_with fail
       go_meet
       exact⟨rfl,rfl⟩
      have p2:(i.months==2)=false:=Aaj.2 n2
      by_cases n3:i.months=3
      ·rw[n3] at hm c10
       simp at hm
       subst hm
       clear n3
       go_wp2_with fail
       go_meet
       exact⟨rfl,rfl⟩
      have p3:(i.months==3)=false:=Aaj.2 n3
      by_cases n4:i.months=4
      ·rw[n4] at hm c10
       simp at hm
       subst hm
       clear n4
       go_wp2_with fail
       go_meet
       exact⟨rfl,rfl⟩
      have p4:(i.months==4)=false:=Aaj.2 n4
      by_cases n6:i.months=6
      ·rw[n6] at hm c10
       simp at hm
       subst hm
       clear n6
       go_wp2_with fail
       go_meet
       exact⟨rfl,rfl⟩
      have p6:(i.months==6)=false:=Aaj.2 n6
      by_cases n12:i.months=12
      ·rw[n12] at hm c10
       simp at hm
       subst hm
       clear n12
       go_wp2_with fail
       go_meet
       exact⟨rfl,rfl⟩
      have p12:(i.months==12)=false:=Aaj.2 n12
      rw[Aaw (by intro hh;simp at hh;omega)] at hm
      subst hm
      clear n1 n2 n3 n4 n6 n12
      go_wp2_with fail
      go_meet
      exact⟨rfl,rfl⟩
    case rest =>
    obtain⟨rfl,rfl⟩:=hcut
    go_wp2_with fail
    refine (SF.out _).mono ?_
    rintro e w4 ⟨rfl,b4⟩
    have R4:=Aac (HRZ.out.below b4)
    clear c0 c1 c2 c3 c4 c5 c6 c7 c8 c9 c10 c11 c12 c13 c14 y0 y1
    clear HRZ b4 SF
    have h4:=R4.out
    have c0:=Aaa h4.k0 0
    have c1:=Aaa h4.k0 1
    have c2:=Aaa h4.k0 2
    have c3:=Aaa h4.k0 3
    have c4:=Aaa h4.k0 4
    have c5:=Aaa h4.k0 5
    have c6:=Aaa h4.k0 6
    have c7:=Aaa h4.k0 7
    have c8:=Aaa h4.k0 8
    have c9:=Aaa h4.k0 9
    have c10:=Aaa h4.k0 10
    have c11:=Aaa h4.k0 11
    have c12:=Aaa h4.k0 12
    have c13:=Aaa h4.k0 13
    have c14:=Aaa h4.k0 14
    have y0:=Aaa h4.kz 0
    have y1:=Aaa h4.kz 1
    simp at c0 c1 c2 c3 c4 c5 c6 c7 c8 c9 c10 c11 c12 c13 c14 y0 y1
    clear h4
    rw[KK.out] at c1
    have hf:=(Ac9 (x:=vl i.fn) (y:=0))
    generalize cmpI (vl i.fn) 0=rf at hf ⊢
    have HF:=Aac hf
    clear hf
    by_cases f0:rf≤0
    ·have t0:decide (rf≤0)=true:=Aav f0
     go_wp2_with fail
     go_ret
     exact ChkPost.bad (by decide) (fun h=>by have:=(h.bond KK.out).1;have:=HF.out.1 f0;omega) R4.out.bel
    have t0:decide (rf≤0)=false:=Aaw f0
    have HF:=Aac (show 0<vl i.fn from Int.not_le.1 (fun hh=>f0 (HF.out.2 hh)))
    clear f0
    go_wp2_with fail
    refine (SC.out _).mono ?_
    rintro e w5 ⟨rfl,b5⟩
    have R5:=Aac (R4.out.below b5)
    clear c0 c1 c2 c3 c4 c5 c6 c7 c8 c9 c10 c11 c12 c13 c14 y0 y1
    clear R4 b5 SC t0
    have h5:=R5.out
    have c0:=Aaa h5.k0 0
    have c1:=Aaa h5.k0 1
    have c2:=Aaa h5.k0 2
    have c3:=Aaa h5.k0 3
    have c4:=Aaa h5.k0 4
    have c5:=Aaa h5.k0 5
    have c6:=Aaa h5.k0 6
    have c7:=Aaa h5.k0 7
    have c8:=Aaa h5.k0 8
    have c9:=Aaa h5.k0 9
    have c10:=Aaa h5.k0 10
    have c11:=Aaa h5.k0 11
    have c12:=Aaa h5.k0 12
    have c13:=Aaa h5.k0 13
    have c14:=Aaa h5.k0 14
    have y0:=Aaa h5.kz 0
    have y1:=Aaa h5.kz 1
    simp at c0 c1 c2 c3 c4 c5 c6 c7 c8 c9 c10 c11 c12 c13 c14 y0 y1
    clear h5
    rw[KK.out] at c1
    have hf:=(cmpI_lt (x:=vl i.cn) (y:=0))
    generalize cmpI (vl i.cn) 0=rc at hf ⊢
    have HCC:=Aac hf
    clear hf
    by_cases f0:rc<0
    ·have t0:decide (rc<0)=true:=Aav f0
     go_wp2_with fail
     go_ret
     exact ChkPost.bad (by decide) (fun h=>by have:=(h.bond KK.out).2.1;have:=HCC.out.1 f0;omega) R5.out.bel
    have t0:decide (rc<0)=false:=Aaw f0
    have HCC:=Aac (show 0≤vl i.cn from Int.not_lt.1 (fun hh=>f0 (HCC.out.2 hh)))
    clear f0
    cases mo
    ·clear HF HCC
     go_wp2_with fail
     go_ret
     exact ChkPost.bad (by decide) (fun h=>by exact (of_decide_eq_false HMO.out.symm) (h.bond KK.out).2.2.1) R5.out.bel
    have HMO:=Aac (of_decide_eq_true HMO.out.symm)
    by_cases f1:i.count<1
    ·have t1:decide (i.count<1)=true:=Aav f1
     go_wp2_with fail
     go_ret
     exact ChkPost.bad (by decide) (fun h=>by have:=(h.bond KK.out).2.2.2.1;omega) R5.out.bel
    have t1:decide (i.count<1)=false:=Aaw f1
    by_cases f2:5<i.count
    ·have t2:decide (5<i.count)=true:=Aav f2
     go_wp2_with fail
     go_ret
     exact ChkPost.bad (by decide) (fun h=>by have:=(h.bond KK.out).2.2.2.2.1;omega) R5.out.bel
    have t2:decide (5<i.count)=false:=Aaw f2
    have HCT:=Aac (show 1≤i.count∧i.count≤5 by omega)
    clear f1 f2
    by_cases f3:i.other=⟨#[]⟩
    case neg =>
     have t3:=Amg f3
     have F3:=Aac f3
     clear f3
     go_wp2_with fail
     go_ret
     exact ChkPost.bad (by decide) (fun h=>by exact F3.out (h.bond KK.out).2.2.2.2.2.1) R5.out.bel
    have F3:=Aac f3
    rw[f3] at c12
    clear f3
    by_cases f4:i.sn=⟨#[]⟩
    case neg =>
     have t4:=Amg f4
     have F4:=Aac f4
     clear f4
     go_wp2_with fail
     go_ret
     exact ChkPost.bad (by decide) (fun h=>by exact F4.out ((Amf Q3.out).1.1 (h.bond KK.out).2.2.2.2.2.2)) R5.out.bel
    have F4:=Aac ((Amf Q3.out).1.2 f4)
    have f5:=(Amf Q3.out).2 f4
    rw[f4] at c13
    rw[f5] at c14
    clear f4 f5
    go_wp2_with fail
    go_ret
    exact ChkPost.good ⟨H1.out,H2.out,H4.out,H5.out,H7.out,HM.out,(Amc (by omega) (by omega)).2 Q1.out,(Amc (by omega) (by omega)).2 Q2.out,(Amc (by omega) (by omega)).2 Q3.out,fun hh=>absurd KK.out hh,fun _=>⟨HF.out,HCC.out,HMO.out,HCT.out.1,HCT.out.2,F3.out,F4.out⟩,fun hh=>by have:=KK.out;omega⟩ R5.out.bel
theorem Ami(i:Inst)(hs:i.tiny)(hkind:i.kind=5)(w:World):
 Calls Tryz.prog 38 #[i.enc] w (ChkPost w i.ok):=by
 have HKIND:=Aac hkind
 clear hkind
 obtain⟨z1,z2,z3,z4,z5,z6,z7,z8,z9⟩:=hs
 have HS:=Aac (And.intro z4 (And.intro z5 (And.intro z6 (And.intro z7 (And.intro z8 z9)))))
 have HN1:=Aac (fun W=>Akp i.id (by omega) W)
 have HC1:=Aac (fun W=>Akq i.cur (by omega) W)
 have HC2:=Aac (fun W=>Akq i.other (by omega) W)
 clear z1 z2 z3 z4 z5 z6 z7 z8 z9
 obtain⟨W0,hW0,hB0,hz,hk⟩:=ibox i w
 obtain⟨c0,c1,c2,c3,c4,c5,c6,c7,c8,c9,c10,c11,c12,c13,c14⟩:=Acn hk
 have HB:=Aac hB0
 have HK:=Aac hk
 clear hB0 hz hk
 go_enter Tryz.func38,Tryz.ntmps38
 go_wp2_with fail
 refine (HN1.out _).mono ?_
 rintro e w1 ⟨rfl,rfl⟩
 clear HN1
 cases h1:Aki i.id
 ·have HH:=Aac h1
  clear h1
  go_wp2_with fail
  go_ret
  exact ChkPost.bad (by decide) (fun h=>by have:=h.id;rw[HH.out] at this;cases this) HB.out
 have H1:=Aac h1
 clear h1
 by_cases h2:i.kind<1
 ·go_wp2_with fail
  go_ret
  exact ChkPost.bad (by decide) (fun h=>by have:=h.kind;omega) HB.out
 by_cases h3:5<i.kind
 ·go_wp2_with fail
  go_ret
  exact ChkPost.bad (by decide) (fun h=>by have:=h.kind;omega) HB.out
 have t2:decide (i.kind<1)=false:=Aaw h2
 have t3:decide (5<i.kind)=false:=Aaw h3
 have H2:=Aac (show 1≤i.kind∧i.kind≤5 by omega)
 go_wp2_with fail
 refine (HC1.out _).mono ?_
 rintro e w1 ⟨rfl,rfl⟩
 clear HC1 t2 t3 h2 h3
 cases h4:Akj i.cur
 ·have HH:=Aac h4
  clear h4
  go_wp2_with fail
  go_ret
  exact ChkPost.bad (by decide) (fun h=>by have:=h.cur;rw[HH.out] at this;cases this) HB.out
 have H4:=Aac h4
 clear h4
 by_cases h5:i.places<0
 ·go_wp2_with fail
  go_ret
  exact ChkPost.bad (by decide) (fun h=>by have:=h.places;omega) HB.out
 by_cases h6:12<i.places
 ·go_wp2_with fail
  go_ret
  exact ChkPost.bad (by decide) (fun h=>by have:=h.places;omega) HB.out
 have t5:decide (i.places<0)=false:=Aaw h5
 have t6:decide (12<i.places)=false:=Aaw h6
 have H5:=Aac (show 0≤i.places∧i.places≤12 by omega)
 go_wp2_with fail
 clear t5 t6 h5 h6
 by_cases h7:okDay i.issued
 case neg =>
  refine (Akn i.issued h7 _).mono ?_
  rintro e w1 ⟨rfl,rfl⟩
  have HH:=Aac h7
  clear h7
  go_wp2_with fail
  go_ret
  exact ChkPost.bad (by decide) (fun h=>HH.out h.issued) HB.out
 refine (Akm i.issued h7 _).mono ?_
 rintro e w1 ⟨rfl,rfl⟩
 have H7:=Aac h7
 clear h7
 go_upto_region 11 with fail
 obtain⟨ends,HE⟩:∃ends:Bool,Hid (ends=decide (i.kind=2∨i.kind=5)):=⟨_,rfl⟩
 go_cut [3] (fun v wx=>v=.bool ends∧W0=wx)
 case first =>
  have he:=HE.out
  have h2:=H2.out
  clear HE H2
  rcases (show i.kind=1∨i.kind=2∨i.kind=3∨i.kind=4∨i.kind=5 from by omega) with hi|hi|hi|hi|hi
  all_goals
   rw[hi] at he c1
   simp at he
   subst he
   clear hi h2
   go_wp2_with fail
   go_meet
   exact⟨rfl,rfl⟩
 case rest =>
 obtain⟨rfl,rfl⟩:=hcut
 obtain⟨bad,HM⟩:∃bad:Bool,Hid (bad=decide (¬((i.matures=0∧i.kind≠2∧i.kind≠5)∨(i.matures≠0∧okDay i.matures∧i.issued<i.matures)))):=⟨_,rfl⟩
 go_upto_region 12 with fail
 go_cut [68] (fun v wx=>v=.bool bad∧W0=wx)
 case first =>
  have hm:=HM.out
  have he:=HE.out
  clear HM HE
  by_cases m0:i.matures=0
  ·rw[m0] at c5
   by_cases m1:i.kind=2∨i.kind=5
   ·rw[Aav m1] at he
    rw[Aav (by rintro (h|h);exact absurd m1 (by omega);exact h.1 m0)] at hm
    subst he hm
    clear m0 m1
    go_wp2_with fail
    go_meet
    exact⟨rfl,rfl⟩
   ·rw[Aaw m1] at he
    rw[Aaw (by intro h;exact h (.inl ⟨m0,by omega,by omega⟩))] at hm
    subst he hm
    clear m0 m1
    go_wp2_with fail
    go_meet
    exact⟨rfl,rfl⟩
  ·have u0:(i.matures==0)=false:=Aaj.2 m0
   have u1:(i.matures != 0)=true:=by simp[bne,u0]
   by_cases m1:okDay i.matures
   ·by_cases m2:i.issued<i.matures
    ·have u2:decide (i.matures≤i.issued)=false:=Aaw (by omega)
     rw[Aaw (by intro h;exact h (.inr ⟨m0,m1,m2⟩))] at hm
     subst hm
     have S4:=Aac (Akm i.matures m1)
     clear he m0 m1 m2
     go_wp2_with fail
     refine (S4.out _).mono ?_
     rintro e w5 ⟨rfl,rfl⟩
     go_wp2_with fail
     go_meet
     exact⟨rfl,rfl⟩
    ·have u2:decide (i.matures≤i.issued)=true:=Aav (by omega)
     rw[Aav (by rintro (h|h);exact m0 h.1;exact m2 h.2.2)] at hm
     subst hm
     have S4:=Aac (Akm i.matures m1)
     clear he m0 m1 m2
     go_wp2_with fail
     refine (S4.out _).mono ?_
     rintro e w5 ⟨rfl,rfl⟩
     go_wp2_with fail
     go_meet
     exact⟨rfl,rfl⟩
   ·rw[Aav (by rintro (h|h);exact m0 h.1;exact m1 h.2.1)] at hm
    subst hm
    have S4:=Aac (Akn i.matures m1)
    clear he m0 m1
    go_wp2_with fail
    refine (S4.out _).mono ?_
    rintro e w5 ⟨rfl,rfl⟩
    go_wp2_with fail
    go_meet
    exact⟨rfl,rfl⟩
 case rest =>
 obtain⟨rfl,rfl⟩:=hcut
 cases bad
 case true =>
  go_wp2_with fail
  go_ret
  exact ChkPost.bad (by decide) (fun h=>by have:=HM.out;exact (of_decide_eq_true this.symm) h.matures) HB.out
 have HM:=Aac (show (i.matures=0∧i.kind≠2∧i.kind≠5)∨(i.matures≠0∧okDay i.matures∧i.issued<i.matures) from Classical.not_not.1 (of_decide_eq_false HM.out.symm))
 go_wp2_with fail
 have hRC:RC w i W0.heap.size (W0.alloc (.cells (Ame i) 25)):=⟨(Below.heap_alloc W0 _ _ (Afh c0)).trans HK.out,Aax W0 _,HB.out.alloc HB.out.size _⟩
 generalize hW1:W0.alloc (.cells (Ame i) 25)=W1 at hRC ⊢
 have HLT:Hid (w.heap.size<W0.heap.size):=Afh c0
 generalize W0.heap.size=b at hRC HLT ⊢
 have HRC:=Aac hRC
 clear hRC hW1 HB HK hW0 c0 c1 c2 c3 c4 c5 c6 c7 c8 c9 c10 c11 c12 c13 c14
 go_loopw [5,6] (fun v5 _ wr=>∃k:Nat,v5=.int .i64 (k:Int)∧k≤3∧(∀j,j<k→CanQ (nAt i j) (dAt i j))∧RC w i b wr) (fun v5 _ _=>3-(intOf v5).toNat)
 case atStart=>exact⟨0,rfl,by omega,fun j hj=>by omega,HRC.out⟩
 case round =>
  obtain⟨k,rfl,hk,hj,hrc⟩:=hrel
  have HJ:=Aac hj
  have HRC:=Aac hrc
  have d0:=Aaa hrc.k1 0
  have d1:=Aaa hrc.k1 1
  have d2:=Aaa hrc.k1 2
  have d3:=Aaa hrc.k1 3
  have d4:=Aaa hrc.k1 4
  have d5:=Aaa hrc.k1 5
  simp at d0 d1 d2 d3 d4 d5
  clear hj hrc
  have hs:=HS.out
  rcases (show k=0∨k=1∨k=2∨k=3 from by omega) with rfl|rfl|rfl|rfl
  ·have HC:=Aac (fun W=>Amd i.fn i.fd (by omega) (by omega) W)
   clear hs
   go_wp2_with fail
   refine (HC.out _).mono ?_
   rintro e w2 ⟨m,rfl,hm,hb2⟩
   have HRC2:=Aac (HRC.out.below hb2)
   have HM2:=Aac hm
   clear hm hb2 HRC HC d0 d1 d2 d3 d4 d5
   by_cases h0:m=0
   ·have HG:=Aac (HM2.out.1 h0)
    subst h0
    go_wp2_with fail
    refine⟨⟨1,rfl,by omega,fun j hj=>?_,HRC2.out⟩,by simp[intOf]⟩
    rcases Aam j 0 with h|h
    ·exact HJ.out j h
    ·have hjk:j=0:=by omega
     subst hjk
     exact HG.out
   ·have t0:(m==0)=false:=Aaj.2 h0
    have t1:(m != 0)=true:=by simp[bne,t0]
    have H0:=Aac h0
    clear h0
    go_wp2_with fail
    go_ret
    exact ChkPost.bad H0.out (fun h=>H0.out (HM2.out.2 ((Amc (by have:=HS.out;omega) (by have:=HS.out;omega)).1 h.n1))) HRC2.out.bel
  ·have HC:=Aac (fun W=>Amd i.cn i.cd (by omega) (by omega) W)
   clear hs
   go_wp2_with fail
   refine (HC.out _).mono ?_
   rintro e w2 ⟨m,rfl,hm,hb2⟩
   have HRC2:=Aac (HRC.out.below hb2)
   have HM2:=Aac hm
   clear hm hb2 HRC HC d0 d1 d2 d3 d4 d5
   by_cases h0:m=0
   ·have HG:=Aac (HM2.out.1 h0)
    subst h0
    go_wp2_with fail
    refine⟨⟨2,rfl,by omega,fun j hj=>?_,HRC2.out⟩,by simp[intOf]⟩
    rcases Aam j 1 with h|h
    ·exact HJ.out j h
    ·have hjk:j=1:=by omega
     subst hjk
     exact HG.out
   ·have t0:(m==0)=false:=Aaj.2 h0
    have t1:(m != 0)=true:=by simp[bne,t0]
    have H0:=Aac h0
    clear h0
    go_wp2_with fail
    go_ret
    exact ChkPost.bad H0.out (fun h=>H0.out (HM2.out.2 ((Amc (by have:=HS.out;omega) (by have:=HS.out;omega)).1 h.n2))) HRC2.out.bel
  ·have HC:=Aac (fun W=>Amd i.sn i.sd (by omega) (by omega) W)
   clear hs
   go_wp2_with fail
   refine (HC.out _).mono ?_
   rintro e w2 ⟨m,rfl,hm,hb2⟩
   have HRC2:=Aac (HRC.out.below hb2)
   have HM2:=Aac hm
   clear hm hb2 HRC HC d0 d1 d2 d3 d4 d5
   by_cases h0:m=0
   ·have HG:=Aac (HM2.out.1 h0)
    subst h0
    go_wp2_with fail
    refine⟨⟨3,rfl,by omega,fun j hj=>?_,HRC2.out⟩,by simp[intOf]⟩
    rcases Aam j 2 with h|h
    ·exact HJ.out j h
    ·have hjk:j=2:=by omega
     subst hjk
     exact HG.out
   ·have t0:(m==0)=false:=Aaj.2 h0
    have t1:(m != 0)=true:=by simp[bne,t0]
    have H0:=Aac h0
    clear h0
    go_wp2_with fail
    go_ret
    exact ChkPost.bad H0.out (fun h=>H0.out (HM2.out.2 ((Amc (by have:=HS.out;omega) (by have:=HS.out;omega)).1 h.n3))) HRC2.out.bel
  ·have Q1:=Aac (show CanQ i.fn i.fd from HJ.out 0 (by omega))
   have Q2:=Aac (show CanQ i.cn i.cd from HJ.out 1 (by omega))
   have Q3:=Aac (show CanQ i.sn i.sd from HJ.out 2 (by omega))
   clear hs HJ d0 d1 d2 d3 d4 d5
   go_upto_region 22 with fail
   have hRZ:RZ w i wr.heap.size (wr.alloc (.cells #[.string ⟨#[]⟩,.string ⟨#[]⟩] 25)):=⟨(Below.heap_alloc wr _ _ (Aab.1 HRC.out.k0).1).trans HRC.out.k0,Aax wr _,HRC.out.bel.alloc HRC.out.bel.size _⟩
   generalize wr.alloc (.cells #[.string ⟨#[]⟩,.string ⟨#[]⟩] 25)=W3 at hRZ ⊢
   generalize wr.heap.size=zb at hRZ ⊢
   have HRZ:=Aac hRZ
   have c0:=Aaa hRZ.k0 0
   have c1:=Aaa hRZ.k0 1
   have c2:=Aaa hRZ.k0 2
   have c3:=Aaa hRZ.k0 3
   have c4:=Aaa hRZ.k0 4
   have c5:=Aaa hRZ.k0 5
   have c6:=Aaa hRZ.k0 6
   have c7:=Aaa hRZ.k0 7
   have c8:=Aaa hRZ.k0 8
   have c9:=Aaa hRZ.k0 9
   have c10:=Aaa hRZ.k0 10
   have c11:=Aaa hRZ.k0 11
   have c12:=Aaa hRZ.k0 12
   have c13:=Aaa hRZ.k0 13
   have c14:=Aaa hRZ.k0 14
   have y0:=Aaa hRZ.kz 0
   have y1:=Aaa hRZ.kz 1
   simp at c0 c1 c2 c3 c4 c5 c6 c7 c8 c9 c10 c11 c12 c13 c14 y0 y1
   clear hRZ HRC HLT
   obtain⟨g1,g2,g3,g4,g5,g6⟩:=HS.out
   have kk:¬i.kind=2:=by have:=HKIND.out;omega
   have KK:=Aac kk
   have tk:(i.kind==2)=false:=Aaj.2 kk
   clear kk
   have k5:i.kind=5:=HKIND.out
   ·have K5:=Aac k5
    rw[k5] at c1
    clear k5 tk
    have SS:=Aac (fun W=>Ah6 i.sn i.sd (by omega) (by omega) Q3.out W)
    go_wp2_with fail
    refine (HC2.out _).mono ?_
    rintro e w4 ⟨rfl,rfl⟩
    clear HC2
    cases h8:Akj i.other
    ·have HH:=Aac h8
     clear h8
     go_wp2_with fail
     go_ret
     exact ChkPost.bad (by decide) (fun h=>by have:=(h.fwd K5.out).1;rw[HH.out] at this;cases this) HRZ.out.bel
    have H8:=Aac h8
    clear h8
    by_cases h9:i.other=i.cur
    ·have H9:=Aac h9
     rw[h9] at c12
     clear h9
     go_wp2_with fail
     go_ret
     exact ChkPost.bad (by decide) (fun h=>by exact (h.fwd K5.out).2.1 H9.out) HRZ.out.bel
    have H9:=Aac h9
    have t9:(i.other.toList==i.cur.toList)=false:=Ac7 h9
    clear h9
    go_wp2_with fail
    refine (SS.out _).mono ?_
    rintro e w4 ⟨rfl,b4⟩
    have R4:=Aac (HRZ.out.below b4)
    clear c0 c1 c2 c3 c4 c5 c6 c7 c8 c9 c10 c11 c12 c13 c14 y0 y1
    clear HRZ b4 SS t9
    have h4:=R4.out
    have c0:=Aaa h4.k0 0
    have c1:=Aaa h4.k0 1
    have c2:=Aaa h4.k0 2
    have c3:=Aaa h4.k0 3
    have c4:=Aaa h4.k0 4
    have c5:=Aaa h4.k0 5
    have c6:=Aaa h4.k0 6
    have c7:=Aaa h4.k0 7
    have c8:=Aaa h4.k0 8
    have c9:=Aaa h4.k0 9
    have c10:=Aaa h4.k0 10
    have c11:=Aaa h4.k0 11
    have c12:=Aaa h4.k0 12
    have c13:=Aaa h4.k0 13
    have c14:=Aaa h4.k0 14
    have y0:=Aaa h4.kz 0
    have y1:=Aaa h4.kz 1
    simp at c0 c1 c2 c3 c4 c5 c6 c7 c8 c9 c10 c11 c12 c13 c14 y0 y1
    clear h4
    rw[K5.out] at c1
    have hf:=(Ac9 (x:=vl i.sn) (y:=0))
    generalize cmpI (vl i.sn) 0=rf at hf ⊢
    have HF:=Aac hf
    clear hf
    by_cases f0:rf≤0
    ·have t0:decide (rf≤0)=true:=Aav f0
     go_wp2_with fail
     go_ret
     exact ChkPost.bad (by decide) (fun h=>by have:=(h.fwd K5.out).2.2.1;have:=HF.out.1 f0;omega) R4.out.bel
    have t0:decide (rf≤0)=false:=Aaw f0
    have HF:=Aac (show 0<vl i.sn from Int.not_le.1 (fun hh=>f0 (HF.out.2 hh)))
    clear f0
    by_cases x1:i.fn=⟨#[]⟩
    case neg =>
     have tx1:=Amg x1
     have Fx1:=Aac x1
     clear x1
     go_wp2_with fail
     go_ret
     exact ChkPost.bad (by decide) (fun h=>by exact Fx1.out ((Amf Q1.out).1.1 ((h.fwd K5.out).2.2.2.1))) R4.out.bel
    have Vx1:=Aac ((Amf Q1.out).1.2 x1)
    have dx1:=(Amf Q1.out).2 x1
    rw[x1] at c6
    rw[dx1] at c7
    clear x1 dx1
    by_cases x2:i.cn=⟨#[]⟩
    case neg =>
     have tx2:=Amg x2
     have Fx2:=Aac x2
     clear x2
     go_wp2_with fail
     go_ret
     exact ChkPost.bad (by decide) (fun h=>by exact Fx2.out ((Amf Q2.out).1.1 ((h.fwd K5.out).2.2.2.2.1))) R4.out.bel
    have Vx2:=Aac ((Amf Q2.out).1.2 x2)
    have dx2:=(Amf Q2.out).2 x2
    rw[x2] at c8
    rw[dx2] at c9
    clear x2 dx2
    by_cases x3:i.months=0
    case neg =>
     have tx3:(i.months==0)=false:=Aaj.2 x3
     have ux3:(i.months != 0)=true:=by simp[bne,tx3]
     have Fx3:=Aac x3
     clear x3
     go_wp2_with fail
     go_ret
     exact ChkPost.bad (by decide) (fun h=>by exact Fx3.out ((h.fwd K5.out).2.2.2.2.2.1)) R4.out.bel
    have Vx3:=Aac x3
    rw[x3] at c10
    clear x3
    by_cases x4:i.count=0
    case neg =>
     have tx4:(i.count==0)=false:=Aaj.2 x4
     have ux4:(i.count != 0)=true:=by simp[bne,tx4]
     have Fx4:=Aac x4
     clear x4
     go_wp2_with fail
     go_ret
     exact ChkPost.bad (by decide) (fun h=>by exact Fx4.out ((h.fwd K5.out).2.2.2.2.2.2)) R4.out.bel
    have Vx4:=Aac x4
    rw[x4] at c11
    clear x4
    go_wp2_with fail
    go_ret
    exact ChkPost.good ⟨H1.out,H2.out,H4.out,H5.out,H7.out,HM.out,(Amc (by omega) (by omega)).2 Q1.out,(Amc (by omega) (by omega)).2 Q2.out,(Amc (by omega) (by omega)).2 Q3.out,fun _ hh=>absurd K5.out hh,fun hh=>absurd hh KK.out,fun _=>⟨H8.out,H9.out,HF.out,Vx1.out,Vx2.out,Vx3.out,Vx4.out⟩⟩ R4.out.bel
theorem Amj(i:Inst)(hs:i.tiny)(hkind:i.kind≠2∧i.kind≠5)(w:World):
 Calls Tryz.prog 38 #[i.enc] w (ChkPost w i.ok):=by
 have HKIND:=Aac hkind
 clear hkind
 obtain⟨z1,z2,z3,z4,z5,z6,z7,z8,z9⟩:=hs
 have HS:=Aac (And.intro z4 (And.intro z5 (And.intro z6 (And.intro z7 (And.intro z8 z9)))))
 have HN1:=Aac (fun W=>Akp i.id (by omega) W)
 have HC1:=Aac (fun W=>Akq i.cur (by omega) W)
 have HC2:=Aac (fun W=>Akq i.other (by omega) W)
 clear z1 z2 z3 z4 z5 z6 z7 z8 z9
 obtain⟨W0,hW0,hB0,hz,hk⟩:=ibox i w
 obtain⟨c0,c1,c2,c3,c4,c5,c6,c7,c8,c9,c10,c11,c12,c13,c14⟩:=Acn hk
 have HB:=Aac hB0
 have HK:=Aac hk
 clear hB0 hz hk
 go_enter Tryz.func38,Tryz.ntmps38
 go_wp2_with fail
 refine (HN1.out _).mono ?_
 rintro e w1 ⟨rfl,rfl⟩
 clear HN1
 cases h1:Aki i.id
 ·have HH:=Aac h1
  clear h1
  go_wp2_with fail
  go_ret
  exact ChkPost.bad (by decide) (fun h=>by have:=h.id;rw[HH.out] at this;cases this) HB.out
 have H1:=Aac h1
 clear h1
 by_cases h2:i.kind<1
 ·go_wp2_with fail
  go_ret
  exact ChkPost.bad (by decide) (fun h=>by have:=h.kind;omega) HB.out
 by_cases h3:5<i.kind
 ·go_wp2_with fail
  go_ret
  exact ChkPost.bad (by decide) (fun h=>by have:=h.kind;omega) HB.out
 have t2:decide (i.kind<1)=false:=Aaw h2
 have t3:decide (5<i.kind)=false:=Aaw h3
 have H2:=Aac (show 1≤i.kind∧i.kind≤5 by omega)
 go_wp2_with fail
 refine (HC1.out _).mono ?_
 rintro e w1 ⟨rfl,rfl⟩
 clear HC1 t2 t3 h2 h3
 cases h4:Akj i.cur
 ·have HH:=Aac h4
  clear h4
  go_wp2_with fail
  go_ret
  exact ChkPost.bad (by decide) (fun h=>by have:=h.cur;rw[HH.out] at this;cases this) HB.out
 have H4:=Aac h4
 clear h4
 by_cases h5:i.places<0
 ·go_wp2_with fail
  go_ret
  exact ChkPost.bad (by decide) (fun h=>by have:=h.places;omega) HB.out
 by_cases h6:12<i.places
 ·go_wp2_with fail
  go_ret
  exact ChkPost.bad (by decide) (fun h=>by have:=h.places;omega) HB.out
 have t5:decide (i.places<0)=false:=Aaw h5
 have t6:decide (12<i.places)=false:=Aaw h6
 have H5:=Aac (show 0≤i.places∧i.places≤12 by omega)
 go_wp2_with fail
 clear t5 t6 h5 h6
 by_cases h7:okDay i.issued
 case neg =>
  refine (Akn i.issued h7 _).mono ?_
  rintro e w1 ⟨rfl,rfl⟩
  have HH:=Aac h7
  clear h7
  go_wp2_with fail
  go_ret
  exact ChkPost.bad (by decide) (fun h=>HH.out h.issued) HB.out
 refine (Akm i.issued h7 _).mono ?_
 rintro e w1 ⟨rfl,rfl⟩
 have H7:=Aac h7
 clear h7
 go_upto_region 11 with fail
 obtain⟨ends,HE⟩:∃ends:Bool,Hid (ends=decide (i.kind=2∨i.kind=5)):=⟨_,rfl⟩
 go_cut [3] (fun v wx=>v=.bool ends∧W0=wx)
 case first =>
  have he:=HE.out
  have h2:=H2.out
  clear HE H2
  rcases (show i.kind=1∨i.kind=2∨i.kind=3∨i.kind=4∨i.kind=5 from by omega) with hi|hi|hi|hi|hi
  all_goals
   rw[hi] at he c1
   simp at he
   subst he
   clear hi h2
   go_wp2_with fail
   go_meet
   exact⟨rfl,rfl⟩
 case rest =>
 obtain⟨rfl,rfl⟩:=hcut
 obtain⟨bad,HM⟩:∃bad:Bool,Hid (bad=decide (¬((i.matures=0∧i.kind≠2∧i.kind≠5)∨(i.matures≠0∧okDay i.matures∧i.issued<i.matures)))):=⟨_,rfl⟩
 go_upto_region 12 with fail
 go_cut [68] (fun v wx=>v=.bool bad∧W0=wx)
 case first =>
  have hm:=HM.out
  have he:=HE.out
  clear HM HE
  by_cases m0:i.matures=0
  ·rw[m0] at c5
   by_cases m1:i.kind=2∨i.kind=5
   ·rw[Aav m1] at he
    rw[Aav (by rintro (h|h);exact absurd m1 (by omega);exact h.1 m0)] at hm
    subst he hm
    clear m0 m1
    go_wp2_with fail
    go_meet
    exact⟨rfl,rfl⟩
   ·rw[Aaw m1] at he
    rw[Aaw (by intro h;exact h (.inl ⟨m0,by omega,by omega⟩))] at hm
    subst he hm
    clear m0 m1
    go_wp2_with fail
    go_meet
    exact⟨rfl,rfl⟩
  ·have u0:(i.matures==0)=false:=Aaj.2 m0
   have u1:(i.matures != 0)=true:=by simp[bne,u0]
   by_cases m1:okDay i.matures
   ·by_cases m2:i.issued<i.matures
    ·have u2:decide (i.matures≤i.issued)=false:=Aaw (by omega)
     rw[Aaw (by intro h;exact h (.inr ⟨m0,m1,m2⟩))] at hm
     subst hm
     have S4:=Aac (Akm i.matures m1)
     clear he m0 m1 m2
     go_wp2_with fail
     refine (S4.out _).mono ?_
     rintro e w5 ⟨rfl,rfl⟩
     go_wp2_with fail
     go_meet
     exact⟨rfl,rfl⟩
    ·have u2:decide (i.matures≤i.issued)=true:=Aav (by omega)
     rw[Aav (by rintro (h|h);exact m0 h.1;exact m2 h.2.2)] at hm
     subst hm
     have S4:=Aac (Akm i.matures m1)
     clear he m0 m1 m2
     go_wp2_with fail
     refine (S4.out _).mono ?_
     rintro e w5 ⟨rfl,rfl⟩
     go_wp2_with fail
     go_meet
     exact⟨rfl,rfl⟩
   ·rw[Aav (by rintro (h|h);exact m0 h.1;exact m1 h.2.1)] at hm
    subst hm
    have S4:=Aac (Akn i.matures m1)
    clear he m0 m1
    go_wp2_with fail
    refine (S4.out _).mono ?_
    rintro e w5 ⟨rfl,rfl⟩
    go_wp2_with fail
    go_meet
    exact⟨rfl,rfl⟩
 case rest =>
 obtain⟨rfl,rfl⟩:=hcut
 cases bad
 case true =>
  go_wp2_with fail
  go_ret
  exact ChkPost.bad (by decide) (fun h=>by have:=HM.out;exact (of_decide_eq_true this.symm) h.matures) HB.out
 have HM:=Aac (show (i.matures=0∧i.kind≠2∧i.kind≠5)∨(i.matures≠0∧okDay i.matures∧i.issued<i.matures) from Classical.not_not.1 (of_decide_eq_false HM.out.symm))
 go_wp2_with fail
 have hRC:RC w i W0.heap.size (W0.alloc (.cells (Ame i) 25)):=⟨(Below.heap_alloc W0 _ _ (Afh c0)).trans HK.out,Aax W0 _,HB.out.alloc HB.out.size _⟩
 generalize hW1:W0.alloc (.cells (Ame i) 25)=W1 at hRC ⊢
 have HLT:Hid (w.heap.size<W0.heap.size):=Afh c0
 generalize W0.heap.size=b at hRC HLT ⊢
 have HRC:=Aac hRC
 clear hRC hW1 HB HK hW0 c0 c1 c2 c3 c4 c5 c6 c7 c8 c9 c10 c11 c12 c13 c14
 go_loopw [5,6] (fun v5 _ wr=>∃k:Nat,v5=.int .i64 (k:Int)∧k≤3∧(∀j,j<k→CanQ (nAt i j) (dAt i j))∧RC w i b wr) (fun v5 _ _=>3-(intOf v5).toNat)
 case atStart=>exact⟨0,rfl,by omega,fun j hj=>by omega,HRC.out⟩
 case round =>
  obtain⟨k,rfl,hk,hj,hrc⟩:=hrel
  have HJ:=Aac hj
  have HRC:=Aac hrc
  have d0:=Aaa hrc.k1 0
  have d1:=Aaa hrc.k1 1
  have d2:=Aaa hrc.k1 2
  have d3:=Aaa hrc.k1 3
  have d4:=Aaa hrc.k1 4
  have d5:=Aaa hrc.k1 5
  simp at d0 d1 d2 d3 d4 d5
  clear hj hrc
  have hs:=HS.out
  rcases (show k=0∨k=1∨k=2∨k=3 from by omega) with rfl|rfl|rfl|rfl
  ·have HC:=Aac (fun W=>Amd i.fn i.fd (by omega) (by omega) W)
   clear hs
   go_wp2_with fail
   refine (HC.out _).mono ?_
   rintro e w2 ⟨m,rfl,hm,hb2⟩
   have HRC2:=Aac (HRC.out.below hb2)
   have HM2:=Aac hm
   clear hm hb2 HRC HC d0 d1 d2 d3 d4 d5
   by_cases h0:m=0
   ·have HG:=Aac (HM2.out.1 h0)
    subst h0
    go_wp2_with fail
    refine⟨⟨1,rfl,by omega,fun j hj=>?_,HRC2.out⟩,by simp[intOf]⟩
    rcases Aam j 0 with h|h
    ·exact HJ.out j h
    ·have hjk:j=0:=by omega
     subst hjk
     exact HG.out
   ·have t0:(m==0)=false:=Aaj.2 h0
    have t1:(m != 0)=true:=by simp[bne,t0]
    have H0:=Aac h0
    clear h0
    go_wp2_with fail
    go_ret
    exact ChkPost.bad H0.out (fun h=>H0.out (HM2.out.2 ((Amc (by have:=HS.out;omega) (by have:=HS.out;omega)).1 h.n1))) HRC2.out.bel
  ·have HC:=Aac (fun W=>Amd i.cn i.cd (by omega) (by omega) W)
   clear hs
   go_wp2_with fail
   refine (HC.out _).mono ?_
   rintro e w2 ⟨m,rfl,hm,hb2⟩
   have HRC2:=Aac (HRC.out.below hb2)
   have HM2:=Aac hm
   clear hm hb2 HRC HC d0 d1 d2 d3 d4 d5
   by_cases h0:m=0
   ·have HG:=Aac (HM2.out.1 h0)
    subst h0
    go_wp2_with fail
    refine⟨⟨2,rfl,by omega,fun j hj=>?_,HRC2.out⟩,by simp[intOf]⟩
    rcases Aam j 1 with h|h
    ·exact HJ.out j h
    ·have hjk:j=1:=by omega
     subst hjk
     exact HG.out
   ·have t0:(m==0)=false:=Aaj.2 h0
    have t1:(m != 0)=true:=by simp[bne,t0]
    have H0:=Aac h0
    clear h0
    go_wp2_with fail
    go_ret
    exact ChkPost.bad H0.out (fun h=>H0.out (HM2.out.2 ((Amc (by have:=HS.out;omega) (by have:=HS.out;omega)).1 h.n2))) HRC2.out.bel
  ·have HC:=Aac (fun W=>Amd i.sn i.sd (by omega) (by omega) W)
   clear hs
   go_wp2_with fail
   refine (HC.out _).mono ?_
   rintro e w2 ⟨m,rfl,hm,hb2⟩
   have HRC2:=Aac (HRC.out.below hb2)
   have HM2:=Aac hm
   clear hm hb2 HRC HC d0 d1 d2 d3 d4 d5
   by_cases h0:m=0
   ·have HG:=Aac (HM2.out.1 h0)
    subst h0
    go_wp2_with fail
    refine⟨⟨3,rfl,by omega,fun j hj=>?_,HRC2.out⟩,by simp[intOf]⟩
    rcases Aam j 2 with h|h
    ·exact HJ.out j h
    ·have hjk:j=2:=by omega
     subst hjk
     exact HG.out
   ·have t0:(m==0)=false:=Aaj.2 h0
    have t1:(m != 0)=true:=by simp[bne,t0]
    have H0:=Aac h0
    clear h0
    go_wp2_with fail
    go_ret
    exact ChkPost.bad H0.out (fun h=>H0.out (HM2.out.2 ((Amc (by have:=HS.out;omega) (by have:=HS.out;omega)).1 h.n3))) HRC2.out.bel
  ·have Q1:=Aac (show CanQ i.fn i.fd from HJ.out 0 (by omega))
   have Q2:=Aac (show CanQ i.cn i.cd from HJ.out 1 (by omega))
   have Q3:=Aac (show CanQ i.sn i.sd from HJ.out 2 (by omega))
   clear hs HJ d0 d1 d2 d3 d4 d5
   go_upto_region 22 with fail
   have hRZ:RZ w i wr.heap.size (wr.alloc (.cells #[.string ⟨#[]⟩,.string ⟨#[]⟩] 25)):=⟨(Below.heap_alloc wr _ _ (Aab.1 HRC.out.k0).1).trans HRC.out.k0,Aax wr _,HRC.out.bel.alloc HRC.out.bel.size _⟩
   generalize wr.alloc (.cells #[.string ⟨#[]⟩,.string ⟨#[]⟩] 25)=W3 at hRZ ⊢
   generalize wr.heap.size=zb at hRZ ⊢
   have HRZ:=Aac hRZ
   have c0:=Aaa hRZ.k0 0
   have c1:=Aaa hRZ.k0 1
   have c2:=Aaa hRZ.k0 2
   have c3:=Aaa hRZ.k0 3
   have c4:=Aaa hRZ.k0 4
   have c5:=Aaa hRZ.k0 5
   have c6:=Aaa hRZ.k0 6
   have c7:=Aaa hRZ.k0 7
   have c8:=Aaa hRZ.k0 8
   have c9:=Aaa hRZ.k0 9
   have c10:=Aaa hRZ.k0 10
   have c11:=Aaa hRZ.k0 11
   have c12:=Aaa hRZ.k0 12
   have c13:=Aaa hRZ.k0 13
   have c14:=Aaa hRZ.k0 14
   have y0:=Aaa hRZ.kz 0
   have y1:=Aaa hRZ.kz 1
   simp at c0 c1 c2 c3 c4 c5 c6 c7 c8 c9 c10 c11 c12 c13 c14 y0 y1
   clear hRZ HRC HLT
   obtain⟨g1,g2,g3,g4,g5,g6⟩:=HS.out
   have kk:¬i.kind=2:=HKIND.out.1
   have KK:=Aac kk
   have tk:(i.kind==2)=false:=Aaj.2 kk
   clear kk
   have k5:¬i.kind=5:=HKIND.out.2
   ·have K5:=Aac k5
    have t5:(i.kind==5)=false:=Aaj.2 k5
    clear k5
    by_cases f3:i.other=⟨#[]⟩
    case neg =>
     have t3:=Amg f3
     have F3:=Aac f3
     clear f3
     go_wp2_with fail
     go_ret
     exact ChkPost.bad (by decide) (fun h=>by exact F3.out (h.plain KK.out K5.out).2.2.2.2.2) HRZ.out.bel
    have F3:=Aac f3
    rw[f3] at c12
    clear f3
    by_cases f4:i.sn=⟨#[]⟩
    case neg =>
     have t4:=Amg f4
     have F4:=Aac f4
     clear f4
     go_wp2_with fail
     go_ret
     exact ChkPost.bad (by decide) (fun h=>by exact F4.out ((Amf Q3.out).1.1 (h.plain KK.out K5.out).2.2.2.2.1)) HRZ.out.bel
    have F4:=Aac ((Amf Q3.out).1.2 f4)
    have f5:=(Amf Q3.out).2 f4
    rw[f4] at c13
    rw[f5] at c14
    clear f4 f5
    by_cases x1:i.fn=⟨#[]⟩
    case neg =>
     have tx1:=Amg x1
     have Fx1:=Aac x1
     clear x1
     go_wp2_with fail
     go_ret
     exact ChkPost.bad (by decide) (fun h=>by exact Fx1.out ((Amf Q1.out).1.1 ((h.plain KK.out K5.out).1))) HRZ.out.bel
    have Vx1:=Aac ((Amf Q1.out).1.2 x1)
    have dx1:=(Amf Q1.out).2 x1
    rw[x1] at c6
    rw[dx1] at c7
    clear x1 dx1
    by_cases x2:i.cn=⟨#[]⟩
    case neg =>
     have tx2:=Amg x2
     have Fx2:=Aac x2
     clear x2
     go_wp2_with fail
     go_ret
     exact ChkPost.bad (by decide) (fun h=>by exact Fx2.out ((Amf Q2.out).1.1 ((h.plain KK.out K5.out).2.1))) HRZ.out.bel
    have Vx2:=Aac ((Amf Q2.out).1.2 x2)
    have dx2:=(Amf Q2.out).2 x2
    rw[x2] at c8
    rw[dx2] at c9
    clear x2 dx2
    by_cases x3:i.months=0
    case neg =>
     have tx3:(i.months==0)=false:=Aaj.2 x3
     have ux3:(i.months != 0)=true:=by simp[bne,tx3]
     have Fx3:=Aac x3
     clear x3
     go_wp2_with fail
     go_ret
     exact ChkPost.bad (by decide) (fun h=>by exact Fx3.out ((h.plain KK.out K5.out).2.2.1)) HRZ.out.bel
    have Vx3:=Aac x3
    rw[x3] at c10
    clear x3
    by_cases x4:i.count=0
    case neg =>
     have tx4:(i.count==0)=false:=Aaj.2 x4
     have ux4:(i.count != 0)=true:=by simp[bne,tx4]
     have Fx4:=Aac x4
     clear x4
     go_wp2_with fail
     go_ret
     exact ChkPost.bad (by decide) (fun h=>by exact Fx4.out ((h.plain KK.out K5.out).2.2.2.1)) HRZ.out.bel
    have Vx4:=Aac x4
    rw[x4] at c11
    clear x4
    go_wp2_with fail
    go_ret
    exact ChkPost.good ⟨H1.out,H2.out,H4.out,H5.out,H7.out,HM.out,(Amc (by omega) (by omega)).2 Q1.out,(Amc (by omega) (by omega)).2 Q2.out,(Amc (by omega) (by omega)).2 Q3.out,fun _ _=>⟨Vx1.out,Vx2.out,Vx3.out,Vx4.out,F4.out,F3.out⟩,fun hh=>absurd hh KK.out,fun hh=>absurd hh K5.out⟩ HRZ.out.bel
theorem Amk(i:Inst)(hs:i.tiny)(w:World):
 Calls Tryz.prog 38 #[i.enc] w (ChkPost w i.ok):=by
 by_cases h2:i.kind=2
 ·exact Amh i hs h2 w
 by_cases h5:i.kind=5
 ·exact Ami i hs h5 w
 exact Amj i hs ⟨h2,h5⟩ w
def Amm(w:World)(P:Prop)(e:Ending)(w':World):Prop:=∃g:Bool,e=.returned (.bool g)∧(g=false→P)∧Below w.heap.size w w'
def numB(t:List UInt8):Bool:=decide (t.length≤4)&&(match Lib.atoi t with|some v=>decide (1≤v)&&decide (v≤9999)&&(Lib.itoa v==t)|none=>false)
def idB(s:ByteArray):Bool:=numB (Lib.cut s.data.toList [47]).2.1&&Aki (bs (Lib.cut s.data.toList [47]).1)
theorem Amn{t:List UInt8}(h:numB t=true):t.length≤4∧∃v:Int,Lib.atoi t=some v∧1≤v∧v≤9999∧Lib.itoa v=t:=by
 unfold numB at h
 rw[Bool.and_eq_true] at h
 refine⟨by simpa using h.1,?_⟩
 have h2:=h.2
 split at h2
 ·rename_i v hv
  simp only[Bool.and_eq_true,decide_eq_true_eq,beq_iff_eq] at h2
  exact⟨v,hv,h2.1.1,h2.1.2,h2.2⟩
 ·cases h2
theorem Amp(s:ByteArray)(hs:s.size≤1000)(h:idB s=true)(w:World)(ht:Tabs w):
 Calls Tryz.prog 156 #[.string s] w fun e w'=>e=.returned (.bool true)∧Below w.heap.size w w':=by
 obtain⟨m,hm⟩:=ht.maxLen
 have HC:=Aac (Tryz.strings_Cut s ⟨#[47]⟩ m w (by omega) hm)
 unfold idB at h
 rw[Bool.and_eq_true] at h
 obtain⟨hn,hnm⟩:=h
 rw[show (⟨#[47]⟩:ByteArray).data.toList=[47] from rfl] at HC
 generalize Lib.cut s.data.toList [47]=c at HC hn hnm
 obtain⟨c1,c2,c3⟩:=c
 dsimp only at HC hn hnm
 obtain⟨hl,v,hv,v1,v2,hit⟩:=Amn hn
 have hz:(bs c2).size=c2.length:=Ac1 _
 have HA:=Aac (fun W=>Tryz.strconv_Atoi (bs c2) v (by omega) hv W)
 have HI:=Aac (fun W hW=>Ait v (by omega) (by omega) W hW)
 rw[hit] at HI
 have hn1:(bs c1).size≤1000000:=by
  unfold Aki at hnm
  simp only[Bool.and_eq_true,decide_eq_true_eq] at hnm
  omega
 have HN:=Aac (fun W=>Akk (bs c1) hn1 W)
 rw[hnm] at HN
 rw[show (ByteArray.mk c1.toArray)=bs c1 from rfl,show (ByteArray.mk c2.toArray)=bs c2 from rfl] at HC
 have HT:=Aac ht
 clear hm hn hnm hit hv hz hn1 ht
 go_enter Tryz.func156,Tryz.ntmps156
 go_wp2_with fail
 refine HC.out.mono ?_
 rintro e w1 ⟨rfl,k,hw1⟩
 have B1:Below w.heap.size w w1:=by rw[hw1];exact Acm (Below.refl _ _) k
 clear hw1
 go_wp2_with fail
 refine (HA.out _).mono ?_
 rintro e w2 ⟨rfl,t,hw2⟩
 have B2:Below w.heap.size w w2:=by rw[hw2];exact B1.trans ((Lib.bytesWorld_below _ _ _).mono B1.size)
 clear hw2 B1
 go_wp2_with fail
 refine (HI.out _ (HT.out.below B2)).mono ?_
 rintro e w3 ⟨rfl,b3⟩
 have B3:=B2.trans (b3.mono B2.size)
 clear b3 B2
 go_wp2_with fail
 refine (HN.out _).mono ?_
 rintro e w4 ⟨rfl,b4⟩
 have B4:=B3.trans (b4.mono B3.size)
 clear b4 B3
 go_wp2_with fail
 go_ret
 exact⟨rfl,B4⟩
theorem Amq(d:Int)(w:World):
 Calls Tryz.prog 157 #[.int .i64 d] w fun e w'=>e=.returned (.bool (decide (okDay d)))∧w'=w:=by
 go_enter Tryz.func157,Tryz.ntmps157
 go_wp2_with fail
 all_goals (go_ret;refine⟨?_,rfl⟩;first|(rw[Aav (p:=okDay d) (by unfold okDay;omega)];rfl)|(rw[Aaw (p:=okDay d) (by unfold okDay;omega)];rfl)|(simp[okDay, *];done))
structure Lot where
 id:ByteArray
 inst:ByteArray
 acq:Int
 opn:Int
 qty:ByteArray
 cost:ByteArray
 used:ByteArray
abbrev Lot.cells(l:Lot):Array Value:=#[.string l.id,.string l.inst,.int .i64 l.acq,.int .i64 l.opn,.string l.qty,.string l.cost,.string l.used]
abbrev Lot.enc(l:Lot):Value:=.agg l.cells
def Lot.sized(l:Lot):Prop:=l.id.size≤1000∧l.inst.size≤1000∧l.qty.size≤1000∧l.cost.size≤1000∧l.used.size≤1000
def LotBox(W:World)(B:Nat)(l:Lot):Prop:=W.heap[B]?=some (.cells l.cells 63 (0,0))
theorem lbc{W:World}{B:Nat}{x:Lot}(h:LotBox W B x):W.cell? ⟨B,0,none⟩=some (.string x.id)∧W.cell? ⟨B,1,none⟩=some (.string x.inst)∧W.cell? ⟨B,2,none⟩=some (.int .i64 x.acq)∧W.cell? ⟨B,3,none⟩=some (.int .i64 x.opn)∧W.cell? ⟨B,4,none⟩=some (.string x.qty)∧W.cell? ⟨B,5,none⟩=some (.string x.cost)∧W.cell? ⟨B,6,none⟩=some (.string x.used) :=
 ⟨(Aaa h 0).trans rfl,(Aaa h 1).trans rfl,(Aaa h 2).trans rfl,(Aaa h 3).trans rfl,(Aaa h 4).trans rfl,(Aaa h 5).trans rfl,(Aaa h 6).trans rfl⟩
theorem LotBox.below{W W':World}{B:Nat}{l:Lot}(h:LotBox W B l)(hb:Below W.heap.size W W'):LotBox W' B l:=(hb.block B (Aab.1 h).1).trans h
theorem LotBox.lt{W:World}{B:Nat}{l:Lot}(h:LotBox W B l):B<W.heap.size:=(Aab.1 h).1
structure Lot.ok(l:Lot):Prop where
 id:idB l.id=true
 inst:Aki l.inst=true
 acq:okDay l.acq
 opn:okDay l.opn
 ord:l.acq≤l.opn
 cq:Can l.qty
 cc:Can l.cost
 cu:Can l.used
 pq:0<vl l.qty
 pc:0≤vl l.cost
 us:l.used=⟨#[]⟩∨l.used=l.qty
def Amr(l:Lot):Array Value:=#[.string l.qty,.string l.cost,.string l.used]
structure LLoop(w:World)(S:Nat)(l:Lot)(W:World):Prop where
 ns:W.heap[S]?=some (.cells (Amr l) 23 (0,0))
 ib:LotBox W w.heap.size l
 be:Below w.heap.size w W
theorem LLoop.below{w:World}{S:Nat}{l:Lot}{W W':World}(h:LLoop w S l W)(hb:Below W.heap.size W W'):LLoop w S l W' :=
 ⟨(hb.block S (Aab.1 h.ns).1).trans h.ns,h.ib.below hb,h.be.trans (hb.mono h.be.size)⟩
theorem Ams(l:Lot)(hs:l.sized)(h:l.ok)(w:World)(ht:Tabs w):
 Calls Tryz.prog 86 #[l.enc] w fun e w'=>e=.returned (.int .i64 0)∧Below w.heap.size w w':=by
 obtain⟨W0,hW0⟩:∃W0,w.alloc (.cells l.cells 63)=W0:=⟨_,rfl⟩
 have hk:LotBox W0 w.heap.size l:=by rw[←hW0];exact Aax w _
 have HB0:Hid (Below w.heap.size w W0):=by rw[←hW0];exact (Below.refl _ w).alloc (Aad _) _
 obtain⟨c0,c1,c2,c3,c4,c5,c6⟩:=Acp hk
 have HK0:=Aac hk
 have HT:=Aac ht
 obtain⟨z1,z2,z3,z4,z5⟩:=hs
 have S1:=Aac (fun W (hW:Tabs W)=>Amp l.id (by omega) h.id W hW)
 have S2:=Aac (fun W=>Akk l.inst (by omega) W)
 have S3:=Aac (fun W=>Amq l.acq W)
 have S4:=Aac (fun W=>Amq l.opn W)
 rw[h.inst] at S2
 rw[Aav h.acq] at S3
 rw[Aav h.opn] at S4
 have N1:=Aac (fun W=>Agb l.qty W (by omega) h.cq)
 have N2:=Aac (fun W=>Agb l.cost W (by omega) h.cc)
 have N3:=Aac (fun W=>Agb l.used W (by omega) h.cu)
 have M1:=Aac (fun W=>Agf l.qty ⟨#[]⟩ W (by omega) (by show 0≤_;omega))
 have M2:=Aac (fun W=>Agf l.cost ⟨#[]⟩ W (by omega) (by show 0≤_;omega))
 rw[show vl (⟨#[]⟩:ByteArray)=0 from by rw[zero_eq,vl_I]] at M1 M2
 have q1:decide (l.opn<l.acq)=false:=Aaw (by have:=h.ord;omega)
 have q2:decide (cmpI (vl l.qty) 0≤0)=false:=Aaw (by rw[Ac9];have:=h.pq;omega)
 have q3:decide (cmpI (vl l.cost) 0<0)=false:=Aaw (by rw[cmpI_lt];have:=h.pc;omega)
 have HU:=Aac h.us
 clear ht h hk
 unfold Lot.enc Lot.cells at *
 go_enter Tryz.func86,Tryz.ntmps86
 go_wp2_with fail
 refine (S1.out W0 (HT.out.below HB0.out)).mono ?_
 rintro e w1 ⟨rfl,b1⟩
 have HB1:=Aac (HB0.out.trans (b1.mono HB0.out.size))
 have hk1:=HK0.out.below b1
 clear c0 c1 c2 c3 c4 c5 c6
 obtain⟨c0,c1,c2,c3,c4,c5,c6⟩:=Acp hk1
 have HK1:=Aac hk1
 clear b1 S1 hk1 HK0 HB0
 go_wp2_with fail
 refine (S2.out w1).mono ?_
 rintro e w2 ⟨rfl,b2⟩
 have HB2:=Aac (HB1.out.trans (b2.mono HB1.out.size))
 have hk2:=HK1.out.below b2
 clear c0 c1 c2 c3 c4 c5 c6
 obtain⟨c0,c1,c2,c3,c4,c5,c6⟩:=Acp hk2
 have HK2:=Aac hk2
 clear b2 S2 hk2 HK1 HB1
 go_wp2_with fail
 refine (S3.out w2).mono ?_
 rintro e w3 ⟨rfl,rfl⟩
 clear S3
 go_wp2_with fail
 refine (S4.out _).mono ?_
 rintro e w4 ⟨rfl,rfl⟩
 clear S4
 obtain⟨W5,hW5⟩:∃W5,w4.alloc (.cells (Amr l) 23)=W5:=⟨_,rfl⟩
 have b5:Below w4.heap.size w4 W5:=by rw[←hW5];exact (Below.refl _ w4).alloc (Aad _) _
 have HS5:Hid (LLoop w w4.heap.size l W5):=⟨by rw[←hW5];exact Aax w4 _,HK2.out.below b5,HB2.out.trans (b5.mono HB2.out.size)⟩
 clear b5 HK2 HB2
 unfold Amr at hW5
 go_wp2_with fail
 go_loopw [38] (fun v wx=>∃k:Nat,v=.int .i64 (k:Int)∧k≤3∧LLoop w w4.heap.size l wx) (fun v _=>3-(intOf v).toNat)
 case atStart=>exact⟨0,rfl,by omega,HS5.out⟩
 case round =>
  obtain⟨k,rfl,hk,hL⟩:=hrel
  clear HS5 hW5
  clear c0 c1 c2 c3 c4 c5 c6
  have n0:=Aaa hL.ns 0
  have n1:=Aaa hL.ns 1
  have n2:=Aaa hL.ns 2
  simp[Amr] at n0 n1 n2
  obtain⟨c0,c1,c2,c3,c4,c5,c6⟩:=Acp hL.ib
  have HL:=Aac hL
  clear hL
  rcases (show k=0∨k=1∨k=2∨k=3 from by omega) with rfl|rfl|rfl|rfl
  ·go_wp2_with fail
   refine (N1.out _).mono ?_
   rintro e w6 ⟨rfl,b6⟩
   have HL6:=Aac (HL.out.below b6)
   clear b6
   go_wp2_with fail
   go_roundw
   case rel=>exact⟨1,rfl,by omega,HL6.out⟩
   case measure=>simp[intOf]
  ·go_wp2_with fail
   refine (N2.out _).mono ?_
   rintro e w6 ⟨rfl,b6⟩
   have HL6:=Aac (HL.out.below b6)
   clear b6
   go_wp2_with fail
   go_roundw
   case rel=>exact⟨2,rfl,by omega,HL6.out⟩
   case measure=>simp[intOf]
  ·go_wp2_with fail
   refine (N3.out _).mono ?_
   rintro e w6 ⟨rfl,b6⟩
   have HL6:=Aac (HL.out.below b6)
   clear b6
   go_wp2_with fail
   go_roundw
   case rel=>exact⟨3,rfl,by omega,HL6.out⟩
   case measure=>simp[intOf]
  ·go_wp2_with fail
   refine (M1.out _).mono ?_
   rintro e w6 ⟨rfl,b6⟩
   have hL6:=HL.out.below b6
   clear c0 c1 c2 c3 c4 c5 c6
   clear n0 n1 n2
   obtain⟨c0,c1,c2,c3,c4,c5,c6⟩:=Acp hL6.ib
   have HL6:=Aac hL6
   clear b6 hL6 HL
   go_wp2_with fail
   refine (M2.out _).mono ?_
   rintro e w7 ⟨rfl,b7⟩
   have hL7:=HL6.out.below b7
   clear c0 c1 c2 c3 c4 c5 c6
   obtain⟨c0,c1,c2,c3,c4,c5,c6⟩:=Acp hL7.ib
   have HL7:=Aac hL7
   clear b7 hL7 HL6
   rcases HU.out with hu|hu
   ·rw[hu] at c6
    go_wp2_with fail
    go_ret
    exact⟨rfl,HL7.out.be⟩
   ·rw[hu] at c6
    by_cases he:l.qty=⟨#[]⟩
    ·rw[he] at c4 c6
     go_wp2_with fail
     go_ret
     exact⟨rfl,HL7.out.be⟩
    ·have hn:=Ak1 l.qty
     rw[Aaw he] at hn
     have hn2:(l.qty.toList==l.qty.toList)=true:=by simp
     go_wp2_with fail
     go_ret
     exact⟨rfl,HL7.out.be⟩
theorem decFrom_digits:∀(l:List UInt8) (acc:Nat),l.all Abs=true→Lib.decFrom acc l=some (l.foldl (fun n c=>10*n+(c.toNat-48)) acc)
 | [],acc,_=>rfl
 | b::r,acc,h=>by
   rw[List.all_cons,Bool.and_eq_true] at h
   have hb:=(Abx b).1 h.1
   unfold Lib.decFrom Lib.digitVal
   rw[if_pos hb]
   show Lib.decFrom (acc*10+(b.toNat-48)) r=_
   rw[decFrom_digits r _ h.2,List.foldl_cons,Nat.mul_comm]
theorem Amt{t:List UInt8}(h1:1≤t.length)(h4:t.length≤4)(hd:t.all Abs=true)(h0:t.getD 0 0≠48):numB t=true:=by
 obtain⟨b,r,rfl⟩:∃b r,t=b::r:=by cases t with|nil=>simp at h1|cons b r=>exact⟨b,r,rfl⟩
 have hb48:b≠48:=by simpa using h0
 have hbd:Abs b=true:=by rw[List.all_cons,Bool.and_eq_true] at hd;exact hd.1
 have hb:=(Abx b).1 hbd
 have hs:strip (b::r)=b::r:=by unfold strip;rw[List.dropWhile_cons,if_neg (by simpa using hb48)]
 obtain⟨g1,g2⟩:=Ab6 (b::r) hd
 rw[hs] at g1 g2
 have hpos:0<dval (b::r):=Nat.pos_of_ne_zero (fun e=>by have:=g2.1 e;cases this)
 have hlt:=Tr.Acc (b::r) hd
 have hlt4:dval (b::r)<10^4:=Aah hlt (Ac4 h4)
 have ha:Lib.atoi (b::r)=some ((dval (b::r):Nat):Int):=by
  have n45:(b==45)=false:=by rw[Aaj];rintro rfl;simp at hb
  have n43:(b==43)=false:=by rw[Aaj];rintro rfl;simp at hb
  unfold Lib.atoi
  dsimp only
  rw[n45,n43]
  show Option.map (fun (m:Nat)=>(m:Int)) (Lib.decNat (b::r))=_
  unfold Lib.decNat
  rw[if_neg (by simp),decFrom_digits _ _ hd]
  rfl
 have hi:Lib.itoa ((dval (b::r):Nat):Int)=b::r:=by
  unfold Lib.itoa
  rw[if_neg (by omega),Int.toNat_natCast]
  have:=Afj hpos
  unfold dec at this
  rw[this,g1]
 unfold numB
 rw[ha]
 dsimp only
 rw[hi]
 simp only[Bool.and_eq_true,decide_eq_true_eq,beq_self_eq_true,and_true]
 exact⟨h4,by omega,by omega⟩
theorem index_slash:∀(l:List UInt8) (i:Nat),l[i]?=some 47→(∀j,j<i→l[j]?≠some 47)→Lib.index l [47]=(i:Int)
 | [],i,h,_=>by simp at h
 | b::r,0,h,_=>by
   simp at h
   subst h
   unfold Lib.index
   rw[if_pos (by simp)]
   rfl
 | b::r,i+1,h,hn=>by
   have hb:b≠47:=fun e=>hn 0 (by omega) (by simp[e])
   have hr:=index_slash r i (by simpa using h) (fun j hj=>by have:=hn (j+1) (by omega);simpa using this)
   unfold Lib.index
   rw[if_neg (by simpa using fun e=>hb e.symm),hr,if_neg (by simp)]
   push_cast
   rfl
end Go.Proofs.YtcnmoobojdopgaaGreatDoor
