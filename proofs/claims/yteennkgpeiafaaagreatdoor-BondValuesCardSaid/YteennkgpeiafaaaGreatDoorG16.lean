/-
  The walk of trancheref01.Div (divisor positive,numbers of any length).
-/
import Derived.Test.YteennkgpeiafaaaGreatDoorG15
set_option linter.unusedVariables false
set_option linter.unusedSimpArgs false
set_option maxHeartbeats 16000000
set_option maxRecDepth 100000
namespace Go.Proofs.YteennkgpeiafaaaGreatDoor
open Go.RowKit Tr Go.Shelf
structure SD(w:World)(B3 B4:Nat)(nq nr:Bool)(Aq Ar:Option Addr)(lq lr:List Nat)(cq cr:Nat)(zq zr:Int)(K:Nat)(W:World):Prop where
 b3:W.heap[B3]?=some (.cells #[.bool nq,.slice Aq lq.length cq] 190 (0,0))
 b4:W.heap[B4]?=some (.cells #[.bool nr,.slice Ar lr.length cr] 190 (0,0))
 mq:RNm W nq Aq lq cq zq K
 mr:RNm W nr Ar lr cr zr K
 bel:Below w.heap.size w W
theorem SD.below{w:World}{B3 B4:Nat}{nq nr:Bool}{Aq Ar:Option Addr}{lq lr:List Nat}{cq cr:Nat}{zq zr:Int}{K:Nat}{W W':World}(h:SD w B3 B4 nq nr Aq Ar lq lr cq cr zq zr K W)(hb:Below W.heap.size W W'):SD w B3 B4 nq nr Aq Ar lq lr cq cr zq zr K W' :=
 ⟨(hb.block B3 (Aab.1 h.b3).1).trans h.b3,(hb.block B4 (Aab.1 h.b4).1).trans h.b4,h.mq.below hb,h.mr.below hb,h.bel.trans (hb.mono h.bel.size)⟩
theorem rwrite_nm{W:World}{nb:Bool}{A:Option Addr}{l:List Nat}{c:Nat}{z:Int}{K:Nat}(h:RNm W nb A l c z K)(hK:K≤100000):
 Calls Tryz.prog 175 #[.agg #[.bool nb,.slice A l.length c]] W fun e w'=>e=.returned (.string (I z))∧Below W.heap.size W w':=by
 have h1:=Ad5 nb A l c W (by have:=h.2.2.2.2.1;omega) h.2.2.2.1 h.1 h.2.2.2.2.2
 have e:(if nb=true then -(mval l:Int) else (mval l:Int))=z:=by rw[←h.2.2.1];cases nb<;>rfl
 rw[e] at h1
 exact h1
theorem SD.calls{w:World}{B3 B4:Nat}{nq nr:Bool}{Aq Ar:Option Addr}{lq lr:List Nat}{cq cr:Nat}{zq zr:Int}{K:Nat}{args:Array Value}{v:Value}(h:∀W,SD w B3 B4 nq nr Aq Ar lq lr cq cr zq zr K W→Calls Tryz.prog 175 args W fun e w'=>e=.returned v∧Below W.heap.size W w'):
 ∀W,SD w B3 B4 nq nr Aq Ar lq lr cq cr zq zr K W→Calls Tryz.prog 175 args W fun e wn=>e=.returned v∧SD w B3 B4 nq nr Aq Ar lq lr cq cr zq zr K wn∧wn.cell? ⟨B3,0,none⟩=some (.bool nq)∧wn.cell? ⟨B3,1,none⟩=some (.slice Aq lq.length cq)∧wn.cell? ⟨B4,0,none⟩=some (.bool nr)∧wn.cell? ⟨B4,1,none⟩=some (.slice Ar lr.length cr):=by
 intro W hW
 refine (h W hW).mono ?_
 rintro e wn ⟨rfl,bn⟩
 have hn:=hW.below bn
 exact⟨rfl,hn,Aaa hn.b3 0,Aaa hn.b3 1,Aaa hn.b4 0,Aaa hn.b4 1⟩
structure XD(w:World)(P:Nat)(na:Bool)(v1:Value)(A2:Option Addr)(l2:List Nat)(c2:Nat)(aq ar:Addr)(q r:List Nat)(W:World):Prop where
 k0:W.heap[P]?=some (.cells #[.bool na,v1] 190 (0,0))
 k1:W.heap[P+1]?=some (.cells #[.bool false,.slice A2 l2.length c2] 190 (0,0))
 r2:RdN W A2 l2
 rq:RdN W (some aq) q
 rr:RdN W (some ar) r
 bel:Below w.heap.size w W
theorem XD.below{w:World}{P:Nat}{na:Bool}{v1:Value}{A2:Option Addr}{l2:List Nat}{c2:Nat}{aq ar:Addr}{q r:List Nat}{W W':World}(h:XD w P na v1 A2 l2 c2 aq ar q r W)(hb:Below W.heap.size W W'):XD w P na v1 A2 l2 c2 aq ar q r W' :=
 ⟨(hb.block P (Aab.1 h.k0).1).trans h.k0,(hb.block (P+1) (Aab.1 h.k1).1).trans h.k1,h.r2.below hb,h.rq.below hb,h.rr.below hb,h.bel.trans (hb.mono h.bel.size)⟩
theorem XD.lt{w:World}{P:Nat}{na:Bool}{v1:Value}{A2:Option Addr}{l2:List Nat}{c2:Nat}{aq ar:Addr}{q r:List Nat}{W:World}(h:XD w P na v1 A2 l2 c2 aq ar q r W):P+1<W.heap.size:=(Aab.1 h.k1).1
theorem two_new27(W:World)(o1 o2:Obj):((W.alloc o1).alloc o2).drew.heap[W.heap.size]?=some o1∧((W.alloc o1).alloc o2).drew.heap[W.heap.size+1]?=some o2∧Below W.heap.size W ((W.alloc o1).alloc o2).drew:=by
 obtain⟨W0,rfl,hb,_,h1,h2⟩:=box2 W o1 o2
 exact⟨h1,h2,hb.drew⟩
theorem RdN.apart{W:World}{A:Option Addr}{l:List Nat}(h:RdN W A l){B:Nat}{x:Bool}{A':Option Addr}{k c:Nat}(hB:W.heap[B]?=some (.cells #[.bool x,.slice A' k c] 190 (0,0)))(u:Value)(o:Nat):RdN (W.setCell ⟨B,o,none⟩ u) A l:=by
 rcases Classical.em (l=[]) with h0|h0
 ·subst h0;exact RdN.nil _ _
 ·refine h.far (p:=⟨B,o,none⟩) (fun ad e=>?_) u
  obtain⟨ad',e',_,hc⟩:=h h0
  rw[e] at e'
  injection e' with e'
  subst e'
  intro eb
  have hb:ad.block=B:=eb
  have h1:=hc 0 (List.length_pos_iff.2 h0)
  have h2:ad.add 0=ad:=rfl
  rw[h2] at h1
  unfold World.cell? at h1
  rw[hb,hB] at h1
  dsimp only at h1
  split at h1
  ·cases h1
  ·rcases ho:ad.off with _|_|n
   ·rw[ho] at h1;simp at h1
   ·rw[ho] at h1;simp at h1
   ·rw[ho] at h1;simp at h1
theorem RdN.apart2{W:World}{A:Option Addr}{l:List Nat}(h:RdN W A l){B:Nat}{x:Bool}{A':Option Addr}{k c:Nat}(hB:W.heap[B]?=some (.cells #[.bool x,.slice A' k c] 190 (0,0)))(u:Bool)(v:Value):RdN ((W.setCell ⟨B,0,none⟩ (.bool u)).setCell ⟨B,1,none⟩ v) A l:=by
 have h1:=h.apart hB (.bool u) 0
 have h2:(W.setCell ⟨B,0,none⟩ (.bool u)).heap[B]?=some (.cells #[.bool u,.slice A' k c] 190 (0,0)):=by simp[World.setCell,Array.getElem?_modify,hB]
 exact h1.apart h2 v 1
theorem set2_far{W:World}{B k:Nat}(hk:k≠B)(x y:Value):((W.setCell ⟨B,0,none⟩ x).setCell ⟨B,1,none⟩ y).heap[k]?=W.heap[k]?:=by
 rw[Below.heap_setCell _ _ _ _ (by simpa using hk),Below.heap_setCell _ _ _ _ (by simpa using hk)]
theorem set2_below{w W:World}{B:Nat}(hb:w.heap.size≤B)(h:Below w.heap.size w W)(x y:Value):Below w.heap.size w ((W.setCell ⟨B,0,none⟩ x).setCell ⟨B,1,none⟩ y) :=
 (h.setCell (p:=⟨B,0,none⟩) hb _).setCell (p:=⟨B,1,none⟩) hb _
theorem div_neg_zero{A B:Nat}(hB:0<B)(h:A % B=0):(-(A:Int)) / (B:Int)=-((A / B:Nat):Int)∧(-(A:Int)) % (B:Int)=0:=by
 have e:(A:Int)=(B:Int)*((A / B:Nat):Int):=by have:=Nat.div_add_mod A B;rw[h] at this;exact_mod_cast this.symm
 constructor
 ·rw[e,←Int.mul_neg,Int.mul_ediv_cancel_left _ (by omega)]
 ·rw[e,←Int.mul_neg,Int.mul_emod_right]
theorem div_neg_pos{A B:Nat}(hB:0<B)(h:0<A % B):(-(A:Int)) / (B:Int)=-((A / B:Nat):Int)+-1∧(-(A:Int)) % (B:Int)=-((A % B:Nat):Int)+(B:Int):=by
 have e:(A:Int)=(B:Int)*((A / B:Nat):Int)+((A % B:Nat):Int):=by exact_mod_cast (Nat.div_add_mod A B).symm
 have hlt:A % B<B:=Nat.mod_lt _ hB
 have e2:-(A:Int)=(-((A / B:Nat):Int)+-1)*(B:Int)+(-((A % B:Nat):Int)+(B:Int)):=by rw[Int.add_mul,Int.neg_mul,Int.mul_comm _ (B:Int)];omega
 constructor
 ·rw[e2,Int.add_comm,Int.add_mul_ediv_right _ _ (by omega),Int.ediv_eq_zero_of_lt (by omega) (by omega)];omega
 ·rw[e2,Int.add_comm,Int.add_mul_emod_self_right,Int.emod_eq_of_lt (by omega) (by omega)]
theorem rDiv_long(a b:ByteArray)(ha:a.size≤80000)(hb:b.size≤80000)(hp:0<vl b)(hlong:¬((digits (vl a).natAbs).length≤17∧(digits (vl b).natAbs).length≤17))(w:World):
 Calls Tryz.prog 255 #[.string a,.string b] w fun e w'=>e=.returned (.tuple #[.string (I (vl a / vl b)),.string (I (vl a % vl b)),.int .i64 0])∧Below w.heap.size w w':=by
 obtain⟨m,is,n,also,HA,HB,HIS,HNZ⟩:∃(m:Int) (is:Bool) (n:Int) (also:Bool),Hid (∀W,Calls Tryz.prog 174 #[.string a] W fun e w'=>e=.returned (.tuple #[.int .i64 m,.bool is])∧W=w')∧Hid (∀W,Calls Tryz.prog 174 #[.string b] W fun e w'=>e=.returned (.tuple #[.int .i64 n,.bool also])∧W=w')∧Hid (is=true→also=false)∧Hid (also=true→(n==0)=false):=by
  by_cases h1:(digits (vl a).natAbs).length≤17
  ·have h2:17<(digits (vl b).natAbs).length:=by omega
   exact⟨_,_,_,_,Adv a (by omega) h1,Adw b (by omega) h2,fun _=>rfl,fun h=>by cases h⟩
  ·by_cases h2:(digits (vl b).natAbs).length≤17
   ·exact⟨_,_,_,_,Adw a (by omega) (by omega),Adv b (by omega) h2,(fun h=>by cases h),fun _=>by rw[Aaj];omega⟩
   ·exact⟨_,_,_,_,Adw a (by omega) (by omega),Adw b (by omega) (by omega),(fun h=>by cases h),fun h=>by cases h⟩
 have HR1:=Aac (fun W=>Agd a W (by omega))
 have HR2:=Aac (fun W=>Agd b W (by omega))
 have HS:=Aac (And.intro ha hb)
 have HP:=Aac hp
 clear ha hb hp hlong
 go_enter Tryz.func255,Tryz.ntmps255
 go_wp2_with fail
 refine (HA.out _).mono ?_
 rintro e w1 ⟨rfl,rfl⟩
 go_wp2_with fail
 refine (HB.out _).mono ?_
 rintro e w1 ⟨rfl,rfl⟩
 go_upto_region 3 with fail
 go_cut [33] (fun v wx=>v=.bool false∧w=wx)
 case first =>
  cases also
  ·go_wp2_with fail
   go_meet
   exact⟨rfl,rfl⟩
  ·have hz:=HNZ.out rfl
   go_wp2_with fail
   go_meet
   exact⟨rfl,rfl⟩
 case rest =>
  obtain⟨rfl,rfl⟩:=hcut
  go_upto_region 5 with fail
  go_cut [37] (fun v wx=>v=.bool false∧w=wx)
  case first =>
   cases is
   ·go_wp2_with fail
    go_meet
    exact⟨rfl,rfl⟩
   ·have ha:=HIS.out rfl
    subst ha
    go_wp2_with fail
    go_meet
    exact⟨rfl,rfl⟩
  case rest =>
   obtain⟨rfl,rfl⟩:=hcut
   clear HA HB HIS HNZ
   go_wp2_with fail
   refine (HR1.out _).mono ?_
   rintro e w1 ⟨A1,l1,c1,rfl,h1,hc1,hr1,hb1⟩
   have H1:=Aac h1
   have R1:=Aac hr1
   have B1:=Aac hb1
   clear HR1 h1 hr1 hb1
   go_wp2_with fail
   refine (HR2.out _).mono ?_
   rintro e w2 ⟨A2,l2,c2,rfl,h2,hc2,hr2,hb2⟩
   rw[Aaz (show ¬vl b<0 by have:=HP.out;omega)]
   obtain⟨W2,hW2,hBW,hz,k0,k1⟩:=box2 w2 (.cells #[.bool (decide (vl a<0)),.slice A1 l1.length c1] 190) (.cells #[.bool false,.slice A2 l2.length c2] 190)
   have H2:=Aac h2
   have R1':=Aac ((R1.out.below hb2).below hBW)
   have R2':=Aac (hr2.below hBW)
   have B2:=Aac ((B1.out.trans (hb2.mono B1.out.size)).trans (hBW.mono (B1.out.trans (hb2.mono B1.out.size)).size))
   have HZ:=Aac hz
   have HPW:=Aac (B1.out.trans (hb2.mono B1.out.size)).size
   have K0:=Aac k0
   have K1:=Aac k1
   clear HR2 h2 hr2 hb2 hBW hz k0 k1 R1 B1
   go_upto_region 12 with fail
   rw[←hW2]
   clear hW2
   obtain⟨na,hna⟩:∃na,decide (vl a<0)=na:=⟨_,rfl⟩
   rw[hna] at K0 ⊢
   have HNA:=Aac hna
   have a0:=Aaa K0.out 0
   have a1:=Aaa K0.out 1
   have e0:=Aaa K1.out 0
   have e1:=Aaa K1.out 1
   simp at a0 a1 e0 e1
   have hlb:0<mval l2:=by rw[H2.out.2.2.1];have:=HP.out;omega
   have HDV:=Aac (Ahp A1 A2 l1 l2 c1 c2 W2 (by have:=H1.out.2.2.2;have:=HS.out;omega) (by have:=H2.out.2.2.2;have:=HS.out;omega) hc1 hc2 H1.out.1 H2.out.1 H2.out.2.1 hlb R1'.out R2'.out)
   generalize w2.heap.size=P at *
   clear hna hlb
   go_wp2_with fail
   refine HDV.out.mono ?_
   rintro e w3 ⟨aq,ar,q,r,cq,cr,rfl,hq,hr,rq,rr,b3⟩
   have HX:Hid (XD w P na (.slice A1 l1.length c1) A2 l2 c2 aq ar q r w3):=⟨(b3.block P (Aab.1 K0.out).1).trans K0.out,(b3.block (P+1) (Aab.1 K1.out).1).trans K1.out,R2'.out.below b3,rq,rr,B2.out.trans (b3.mono B2.out.size)⟩
   have HQ:=Aac hq
   have HR:=Aac hr
   clear hq hr rq rr b3 K0 K1 R1' R2' B2 HDV HZ a0 a1 e0 e1
   go_upto_region 13 with fail
   go_cut [17,18] (fun v17 v18 wx=>∃B3 B4:Nat,v17=.pointer (some ⟨B3,0,none⟩)∧v18=.pointer (some ⟨B4,0,none⟩)∧B3≠B4∧P+1<B3∧P+1<B4∧wx.heap[B3]?=some (.cells #[.bool na,.slice (some aq) q.length cq] 190 (0,0))∧wx.heap[B4]?=some (.cells #[.bool na,.slice (some ar) r.length cr] 190 (0,0))∧XD w P na (.slice A1 l1.length c1) A2 l2 c2 aq ar q r wx)
   case first =>
    have a0:=Aaa HX.out.k0 0
    have e0:=Aaa HX.out.k1 0
    simp at a0 e0
    have n1:w3.heap.size≠P:=by have:=HX.out.lt;omega
    have n2:w3.heap.size≠P+1:=by have:=HX.out.lt;omega
    have n3:P<w3.heap.size:=by have:=HX.out.lt;omega
    have n4:P+1<w3.heap.size:=HX.out.lt
    have y1:(w3.alloc (.cells #[.bool false,.slice none 0 0] 190)).cell? ⟨P,0,none⟩=some (.bool na):=(Below.cell ((Below.refl w3.heap.size w3).alloc (Aad _) _) n3).trans a0
    have y2:((w3.alloc (.cells #[.bool false,.slice none 0 0] 190)).alloc (.cells #[.bool false,.slice none 0 0] 190)).cell? ⟨P,0,none⟩=some (.bool na):=(Below.cell (((Below.refl w3.heap.size w3).alloc (Aad _) _).alloc (by simp) _) n3).trans a0
    have y3:(w3.alloc (.cells #[.bool false,.slice none 0 0] 190)).cell? ⟨P+1,0,none⟩=some (.bool false):=(Below.cell ((Below.refl w3.heap.size w3).alloc (Aad _) _) n4).trans e0
    have y4:((w3.alloc (.cells #[.bool false,.slice none 0 0] 190)).alloc (.cells #[.bool false,.slice none 0 0] 190)).cell? ⟨P+1,0,none⟩=some (.bool false):=(Below.cell (((Below.refl w3.heap.size w3).alloc (Aad _) _).alloc (by simp) _) n4).trans e0
    cases na
    ·
     go_region
     all_goals (first|go_wp2_with fail|skip)
     all_goals go_meet
     all_goals first
      | (have t:=two_new27 w3 (.cells #[.bool false,.slice (some aq) q.length cq] 190) (.cells #[.bool false,.slice (some ar) r.length cr] 190);exact⟨w3.heap.size,w3.heap.size+1,rfl,rfl,(by omega),(by omega),(by omega),t.1,t.2.1,HX.out.below t.2.2⟩)
      | (have t:=two_new27 w3 (.cells #[.bool false,.slice (some ar) r.length cr] 190) (.cells #[.bool false,.slice (some aq) q.length cq] 190);exact⟨w3.heap.size+1,w3.heap.size,rfl,rfl,(by omega),(by omega),(by omega),t.2.1,t.1,HX.out.below t.2.2⟩)
    ·
     go_region
     all_goals (first|go_wp2_with fail|skip)
     all_goals go_meet
     all_goals first
      | (have t:=two_new27 w3 (.cells #[.bool true,.slice (some aq) q.length cq] 190) (.cells #[.bool true,.slice (some ar) r.length cr] 190);exact⟨w3.heap.size,w3.heap.size+1,rfl,rfl,(by omega),(by omega),(by omega),t.1,t.2.1,HX.out.below t.2.2⟩)
      | (have t:=two_new27 w3 (.cells #[.bool true,.slice (some ar) r.length cr] 190) (.cells #[.bool true,.slice (some aq) q.length cq] 190);exact⟨w3.heap.size+1,w3.heap.size,rfl,rfl,(by omega),(by omega),(by omega),t.2.1,t.1,HX.out.below t.2.2⟩)
   case rest =>
    obtain⟨B3,B4,rfl,rfl,n34,n3,n4,k3,k4,hx⟩:=hcut
    have K3:=Aac k3
    have K4:=Aac k4
    have HN34:=Aac n34
    have HN3:=Aac (And.intro n3 n4)
    have a0:=Aaa hx.k0 0
    have e0:=Aaa hx.k1 0
    have e1:=Aaa hx.k1 1
    simp at a0 e0 e1
    have HXD:=Aac hx
    have HV:Hid (mval l1=(vl a).natAbs∧(mval l2:Int)=vl b∧0<mval l2):=⟨H1.out.2.2.1,by rw[H2.out.2.2.1];have:=HP.out;omega,by rw[H2.out.2.2.1];have:=HP.out;omega⟩
    have HLN:Hid (q.length≤9000∧r.length≤9000∧l2.length≤9000):=⟨by have:=HQ.out.2.2.2.1;have:=H1.out.2.2.2;have:=HS.out;omega,by have:=HR.out.2.2.2.1;have:=H2.out.2.2.2;have:=HS.out;omega,by have:=H2.out.2.2.2;have:=HS.out;omega⟩
    clear k3 k4 n34 n3 n4 hx HX
    cases na
    ·have hva:vl a=(mval l1:Int):=by have:=HNA.out;rw[decide_eq_false_iff_not] at this;rw[HV.out.1];omega
     have HSD:Hid (SD w B3 B4 false false (some aq) (some ar) q r cq cr (vl a / vl b) (vl a % vl b) 9001 _):=⟨K3.out,K4.out,⟨HQ.out.1,HQ.out.2.1,(by rw[hva,←HV.out.2.1];show (mval q:Int)=_;rw[HQ.out.2.2.1];exact Int.natCast_ediv _ _),HQ.out.2.2.2.2,(by have:=HLN.out;omega),HXD.out.rq⟩,⟨HR.out.1,HR.out.2.1,(by rw[hva,←HV.out.2.1];show (mval r:Int)=_;rw[HR.out.2.2.1];exact Int.natCast_emod _ _),HR.out.2.2.2.2,(by have:=HLN.out;omega),HXD.out.rr⟩,HXD.out.bel⟩
     clear hva K3 K4 HXD
     rcases Aaq r.length with h0|h0
     ·have t1:decide ((0:Int)<(r.length:Int))=false:=Aaz (by omega)
      have t2:decide (0<r.length)=false:=Aaz (by omega)
      clear h0
      go_upto_region 17 with fail
      clear a0 e0 e1 t1 t2
      have g0:=Aaa HSD.out.b3 0
      have g1:=Aaa HSD.out.b3 1
      have g2:=Aaa HSD.out.b4 0
      have g3:=Aaa HSD.out.b4 1
      simp at g0 g1 g2 g3
      have HW1:=Aac (SD.calls (fun W hW=>rwrite_nm (W:=W) hW.mq (by omega)):∀W,SD w B3 B4 false false (some aq) (some ar) q r cq cr (vl a / vl b) (vl a % vl b) 9001 W→_)
      have HW2:=Aac (SD.calls (fun W hW=>rwrite_nm (W:=W) hW.mr (by omega)):∀W,SD w B3 B4 false false (some aq) (some ar) q r cq cr (vl a / vl b) (vl a % vl b) 9001 W→_)
      have hg:=HSD.out.below (Below.refl _ _).drew
      clear HSD
      go_wp2_with fail
      go_region_held3 (fun W=>W.cell? ⟨B3,0,none⟩=some (.bool false)∧W.cell? ⟨B3,1,none⟩=some (.slice (some aq) q.length cq)∧W.cell? ⟨B4,0,none⟩=some (.bool false)∧W.cell? ⟨B4,1,none⟩=some (.slice (some ar) r.length cr))
       (((try dsimp only);refine⟨?_,?_,?_,?_⟩<;>first|assumption|(go_simp;done)))
       (first
         | (go_at_call_of 175 [Value.agg #[Value.bool false,Value.slice (some aq) q.length cq]];refine (HW1.out _ hg).mono ?_;clear hg g0 g1 g2 g3;rintro e wn ⟨rfl,hg,g0,g1,g2,g3⟩)
         | (go_at_call_of 175 [Value.agg #[Value.bool false,Value.slice (some ar) r.length cr]];refine (HW2.out _ hg).mono ?_;clear hg g0 g1 g2 g3;rintro e wn ⟨rfl,hg,g0,g1,g2,g3⟩))
      all_goals (first|go_wp2_with fail|skip)
      all_goals go_ret3
      all_goals exact⟨rfl,hg.bel⟩
     ·have t1:decide ((0:Int)<(r.length:Int))=true:=Aay (by omega)
      have t2:decide (0<r.length)=true:=Aay (by omega)
      clear h0
      go_upto_region 17 with fail
      clear a0 e0 e1 t1 t2
      have g0:=Aaa HSD.out.b3 0
      have g1:=Aaa HSD.out.b3 1
      have g2:=Aaa HSD.out.b4 0
      have g3:=Aaa HSD.out.b4 1
      simp at g0 g1 g2 g3
      have HW1:=Aac (SD.calls (fun W hW=>rwrite_nm (W:=W) hW.mq (by omega)):∀W,SD w B3 B4 false false (some aq) (some ar) q r cq cr (vl a / vl b) (vl a % vl b) 9001 W→_)
      have HW2:=Aac (SD.calls (fun W hW=>rwrite_nm (W:=W) hW.mr (by omega)):∀W,SD w B3 B4 false false (some aq) (some ar) q r cq cr (vl a / vl b) (vl a % vl b) 9001 W→_)
      have hg:=HSD.out.below (Below.refl _ _).drew
      clear HSD
      go_wp2_with fail
      go_region_held3 (fun W=>W.cell? ⟨B3,0,none⟩=some (.bool false)∧W.cell? ⟨B3,1,none⟩=some (.slice (some aq) q.length cq)∧W.cell? ⟨B4,0,none⟩=some (.bool false)∧W.cell? ⟨B4,1,none⟩=some (.slice (some ar) r.length cr))
       (((try dsimp only);refine⟨?_,?_,?_,?_⟩<;>first|assumption|(go_simp;done)))
       (first
         | (go_at_call_of 175 [Value.agg #[Value.bool false,Value.slice (some aq) q.length cq]];refine (HW1.out _ hg).mono ?_;clear hg g0 g1 g2 g3;rintro e wn ⟨rfl,hg,g0,g1,g2,g3⟩)
         | (go_at_call_of 175 [Value.agg #[Value.bool false,Value.slice (some ar) r.length cr]];refine (HW2.out _ hg).mono ?_;clear hg g0 g1 g2 g3;rintro e wn ⟨rfl,hg,g0,g1,g2,g3⟩))
      all_goals (first|go_wp2_with fail|skip)
      all_goals go_ret3
      all_goals exact⟨rfl,hg.bel⟩
    ·have hva:vl a=-(mval l1:Int):=by have:=HNA.out;rw[decide_eq_true_eq] at this;rw[HV.out.1];omega
     rcases Aaq r.length with h0|h0
     ·have t1:decide ((0:Int)<(r.length:Int))=false:=Aaz (by omega)
      have t2:decide (0<r.length)=false:=Aaz (by omega)
      have hr0:r=[]:=Aag h0
      have hm0:mval l1 % mval l2=0:=by rw[←HR.out.2.2.1,hr0];rfl
      have hdz:=div_neg_zero HV.out.2.2 hm0
      have HSD:Hid (SD w B3 B4 true true (some aq) (some ar) q r cq cr (vl a / vl b) (vl a % vl b) 9001 _):=⟨K3.out,K4.out,⟨HQ.out.1,HQ.out.2.1,(by rw[hva,←HV.out.2.1,hdz.1];show -(mval q:Int)=_;rw[HQ.out.2.2.1]),HQ.out.2.2.2.2,(by have:=HLN.out;omega),HXD.out.rq⟩,⟨HR.out.1,HR.out.2.1,(by rw[hva,←HV.out.2.1,hdz.2];show -(mval r:Int)=_;rw[HR.out.2.2.1,hm0];rfl),HR.out.2.2.2.2,(by have:=HLN.out;omega),HXD.out.rr⟩,HXD.out.bel⟩
      clear hva K3 K4 HXD hdz hm0 hr0 h0
      go_upto_region 17 with fail
      clear a0 e0 e1 t1 t2
      have g0:=Aaa HSD.out.b3 0
      have g1:=Aaa HSD.out.b3 1
      have g2:=Aaa HSD.out.b4 0
      have g3:=Aaa HSD.out.b4 1
      simp at g0 g1 g2 g3
      have HW1:=Aac (SD.calls (fun W hW=>rwrite_nm (W:=W) hW.mq (by omega)):∀W,SD w B3 B4 true true (some aq) (some ar) q r cq cr (vl a / vl b) (vl a % vl b) 9001 W→_)
      have HW2:=Aac (SD.calls (fun W hW=>rwrite_nm (W:=W) hW.mr (by omega)):∀W,SD w B3 B4 true true (some aq) (some ar) q r cq cr (vl a / vl b) (vl a % vl b) 9001 W→_)
      have hg:=HSD.out.below (Below.refl _ _).drew
      clear HSD
      go_wp2_with fail
      go_region_held3 (fun W=>W.cell? ⟨B3,0,none⟩=some (.bool true)∧W.cell? ⟨B3,1,none⟩=some (.slice (some aq) q.length cq)∧W.cell? ⟨B4,0,none⟩=some (.bool true)∧W.cell? ⟨B4,1,none⟩=some (.slice (some ar) r.length cr))
       (((try dsimp only);refine⟨?_,?_,?_,?_⟩<;>first|assumption|(go_simp;done)))
       (first
         | (go_at_call_of 175 [Value.agg #[Value.bool true,Value.slice (some aq) q.length cq]];refine (HW1.out _ hg).mono ?_;clear hg g0 g1 g2 g3;rintro e wn ⟨rfl,hg,g0,g1,g2,g3⟩)
         | (go_at_call_of 175 [Value.agg #[Value.bool true,Value.slice (some ar) r.length cr]];refine (HW2.out _ hg).mono ?_;clear hg g0 g1 g2 g3;rintro e wn ⟨rfl,hg,g0,g1,g2,g3⟩))
      all_goals (first|go_wp2_with fail|skip)
      all_goals go_ret3
      all_goals exact⟨rfl,hg.bel⟩
     ·have t1:decide ((0:Int)<(r.length:Int))=true:=Aay (by omega)
      have t2:decide (0<r.length)=true:=Aay (by omega)
      have hm0:0<mval l1 % mval l2:=by
       rw[←HR.out.2.2.1]
       rcases Aaq (mval r) with h|h
       ·have:=(Abk HR.out.2.1).1 h;rw[this] at h0;cases h0
       ·exact h
      have hdz:=div_neg_pos HV.out.2.2 hm0
      have HZQ:Hid (vl a / vl b=-(mval q:Int)+-1):=by rw[Hid,hva,←HV.out.2.1,hdz.1,HQ.out.2.2.1]
      have HZR:Hid (vl a % vl b=-(mval r:Int)+vl b):=by rw[Hid,hva,←HV.out.2.1,hdz.2,HR.out.2.2.1]
      clear hva hdz hm0 h0
      have g0:=Aaa K3.out 0
      have g1:=Aaa K3.out 1
      simp at g0 g1
      have hal:Below wc.heap.size wc (wc.alloc (.cells #[.int .i64 1] 3)):=(Below.refl _ wc).alloc (Aad _) _
      have HA1:=Aac (Ahh true true (some aq) (some ⟨wc.heap.size,0,none⟩) q [1] cq 1 (-(mval q:Int)) (-1) 9000 (wc.alloc (.cells #[.int .i64 1] 3)) (by omega) ⟨HQ.out.1,HQ.out.2.1,rfl,HQ.out.2.2.2.2,HLN.out.1,HXD.out.rq.below hal⟩ ⟨Dig.nil.cons (by omega),Abd (l:=[]) (by omega),by rw[Aa8];rfl,by simp,by simp,RdN.single wc 1⟩)
      clear hal
      go_wp2_with fail
      refine HA1.out.mono ?_
      rintro e w5 ⟨n5,A5,l5,c5,rfl,h5,b5⟩
      have b5':Below wc.heap.size wc w5:=((Below.refl _ wc).alloc (Aad _) (.cells #[.int .i64 1] 3)).trans (b5.mono (by simp))
      have k3:=(b5'.block B3 (Aab.1 K3.out).1).trans K3.out
      have k4:=(b5'.block B4 (Aab.1 K4.out).1).trans K4.out
      have hx5:=HXD.out.below b5'
      have m0:=Aaa k3 0
      have m1:=Aaa k3 1
      have f0:=Aaf k3 0
      have f1:=Aaf k3 1
      simp at m0 m1
      have H5:=Aac h5
      have K3':=Aac k3
      have K4':=Aac k4
      have HX5:=Aac hx5
      clear b5 b5' k3 k4 hx5 h5 K3 K4 HXD HA1 a0 e0 e1 g0 g1 t1 t2
      go_upto_region 16 with fail
      have K3'':=Aac (set2 K3'.out (.bool n5) (.slice A5 l5.length c5))
      have K4'':Hid (((w5.setCell ⟨B3,0,none⟩ (.bool n5)).setCell ⟨B3,1,none⟩ (.slice A5 l5.length c5)).heap[B4]?=some (.cells #[.bool true,.slice (some ar) r.length cr] 190 (0,0))):=(set2_far (fun e=>HN34.out e.symm) _ _).trans K4'.out
      have KY:Hid (((w5.setCell ⟨B3,0,none⟩ (.bool n5)).setCell ⟨B3,1,none⟩ (.slice A5 l5.length c5)).heap[P+1]?=some (.cells #[.bool false,.slice A2 l2.length c2] 190 (0,0))):=(set2_far (by have:=HN3.out;omega) _ _).trans HX5.out.k1
      have RY:=Aac (HX5.out.r2.apart2 K3'.out n5 (.slice A5 l5.length c5))
      have RR:=Aac (HX5.out.rr.apart2 K3'.out n5 (.slice A5 l5.length c5))
      have R5:=Aac (H5.out.2.2.2.2.2.apart2 K3'.out n5 (.slice A5 l5.length c5))
      have BB:=Aac (set2_below (B:=B3) (by have:=HN3.out;have:=HPW.out;omega) HX5.out.bel (.bool n5) (.slice A5 l5.length c5))
      generalize (w5.setCell ⟨B3,0,none⟩ (.bool n5)).setCell ⟨B3,1,none⟩ (.slice A5 l5.length c5)=w6 at K3'' K4'' KY RY RR R5 BB ⊢
      have M5:Hid (RNm w6 n5 A5 l5 c5 (vl a / vl b) 9001):=⟨H5.out.1,H5.out.2.1,by rw[H5.out.2.2.1,HZQ.out],H5.out.2.2.2.1,H5.out.2.2.2.2.1,R5.out⟩
      have HA2:=Aac (Ahh true false (some ar) A2 r l2 cr c2 (-(mval r:Int)) (vl b) 9000 w6 (by omega) ⟨HR.out.1,HR.out.2.1,rfl,HR.out.2.2.2.2,HLN.out.2.1,RR.out⟩ ⟨H2.out.1,H2.out.2.1,HV.out.2.1,hc2,HLN.out.2.2,RY.out⟩)
      have g0:=Aaa K4''.out 0
      have g1:=Aaa K4''.out 1
      have e0:=Aaa KY.out 0
      have e1:=Aaa KY.out 1
      simp at g0 g1 e0 e1
      clear H5 K3' K4' HX5 m0 m1 f0 f1 RY RR R5 KY
      go_wp2_with fail
      refine HA2.out.mono ?_
      rintro e w7 ⟨n7,A7,l7,c7,rfl,h7,b7⟩
      have k3:=(b7.block B3 (Aab.1 K3''.out).1).trans K3''.out
      have k4:=(b7.block B4 (Aab.1 K4''.out).1).trans K4''.out
      have m0:=Aaa k4 0
      have m1:=Aaa k4 1
      have f0:=Aaf k4 0
      have f1:=Aaf k4 1
      simp at m0 m1
      have m5:=M5.out.below b7
      have hs7:SD w B3 B4 n5 n7 A5 A7 l5 l7 c5 c7 (vl a / vl b) (vl a % vl b) 9001 ((w7.setCell ⟨B4,0,none⟩ (.bool n7)).setCell ⟨B4,1,none⟩ (.slice A7 l7.length c7)) :=
       ⟨(set2_far HN34.out _ _).trans k3,set2 k4 _ _,⟨m5.1,m5.2.1,m5.2.2.1,m5.2.2.2.1,m5.2.2.2.2.1,m5.2.2.2.2.2.apart2 k4 n7 _⟩,⟨h7.1,h7.2.1,by rw[h7.2.2.1,HZR.out],h7.2.2.2.1,h7.2.2.2.2.1,h7.2.2.2.2.2.apart2 k4 n7 _⟩,set2_below (B:=B4) (by have:=HN3.out;have:=HPW.out;omega) (BB.out.trans (b7.mono BB.out.size)) _ _⟩
      have HSD:=Aac hs7
      clear hs7 h7 b7 k3 k4 m5 M5 HA2 K3'' K4'' BB g0 g1 e0 e1
      go_upto_region 17 with fail
      generalize (w7.setCell ⟨B4,0,none⟩ (.bool n7)).setCell ⟨B4,1,none⟩ (.slice A7 l7.length c7)=w8 at HSD ⊢
      clear m0 m1 f0 f1
      have g0:=Aaa HSD.out.b3 0
      have g1:=Aaa HSD.out.b3 1
      have g2:=Aaa HSD.out.b4 0
      have g3:=Aaa HSD.out.b4 1
      simp at g0 g1 g2 g3
      have HW1:=Aac (SD.calls (fun W hW=>rwrite_nm (W:=W) hW.mq (by omega)):∀W,SD w B3 B4 n5 n7 A5 A7 l5 l7 c5 c7 (vl a / vl b) (vl a % vl b) 9001 W→_)
      have HW2:=Aac (SD.calls (fun W hW=>rwrite_nm (W:=W) hW.mr (by omega)):∀W,SD w B3 B4 n5 n7 A5 A7 l5 l7 c5 c7 (vl a / vl b) (vl a % vl b) 9001 W→_)
      have hg:=HSD.out.below (Below.refl _ _).drew
      clear HSD
      go_wp2_with fail
      go_region_held3 (fun W=>W.cell? ⟨B3,0,none⟩=some (.bool n5)∧W.cell? ⟨B3,1,none⟩=some (.slice A5 l5.length c5)∧W.cell? ⟨B4,0,none⟩=some (.bool n7)∧W.cell? ⟨B4,1,none⟩=some (.slice A7 l7.length c7))
       (((try dsimp only);refine⟨?_,?_,?_,?_⟩<;>first|assumption|(go_simp;done)))
       (first
         | (go_at_call_of 175 [Value.agg #[Value.bool n5,Value.slice A5 l5.length c5]];refine (HW1.out _ hg).mono ?_;clear hg g0 g1 g2 g3;rintro e wn ⟨rfl,hg,g0,g1,g2,g3⟩)
         | (go_at_call_of 175 [Value.agg #[Value.bool n7,Value.slice A7 l7.length c7]];refine (HW2.out _ hg).mono ?_;clear hg g0 g1 g2 g3;rintro e wn ⟨rfl,hg,g0,g1,g2,g3⟩))
      all_goals (first|go_wp2_with fail|skip)
      all_goals go_ret3
      all_goals exact⟨rfl,hg.bel⟩
theorem rDiv_any(a b:ByteArray)(ha:a.size≤80000)(hb:b.size≤80000)(hp:0<vl b)(w:World):
 Calls Tryz.prog 255 #[.string a,.string b] w fun e w'=>e=.returned (.tuple #[.string (I (vl a / vl b)),.string (I (vl a % vl b)),.int .i64 0])∧Below w.heap.size w w':=by
 by_cases h:(digits (vl a).natAbs).length≤17∧(digits (vl b).natAbs).length≤17
 ·exact Ad7 a b (by omega) (by omega) (Ahi h.1) (Ahi h.2) hp w
 ·exact rDiv_long a b ha hb hp h w
end Go.Proofs.YteennkgpeiafaaaGreatDoor
