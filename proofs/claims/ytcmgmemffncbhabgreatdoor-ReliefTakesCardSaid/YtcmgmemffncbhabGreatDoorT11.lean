/-
  The walks of integer.Of and integer.Div.
-/
import Derived.Test.YtcmgmemffncbhabGreatDoorT09
import Derived.Test.YtcmgmemffncbhabGreatDoorT10
set_option linter.unusedVariables false
set_option linter.unusedSimpArgs false
set_option maxHeartbeats 16000000
set_option maxRecDepth 100000
namespace Go.Proofs.YtcmgmemffncbhabGreatDoor
open Go.RowKit Tr Go.Shelf
theorem below_grow{w:World}(os:Array Obj)(k:Nat):Below w.heap.size w (Sort.grow (w.drewN k) os):=by
 refine⟨rfl,rfl,rfl,by simp[Sort.grow,World.drewN],fun i hi=>?_⟩
 show (w.heap++os)[i]?=w.heap[i]?
 exact Array.getElem?_append_left hi
def dq(a b:Int):Int:=if 0<b then a / b else (-a) / (-b)
def dr(a b:Int):Int:=a-b*dq a b
theorem dq_unique{a b q r:Int}(h:a=b*q+r)(hr:(0≤r∧r<b)∨(b<r∧r≤0)):q=dq a b∧r=dr a b:=by
 have hq:q=dq a b:=by
  unfold dq
  rcases hr with⟨h1,h2⟩|⟨h1,h2⟩
  ·rw[if_pos (by omega)]
   exact ((Int.ediv_emod_unique (by omega)).2 ⟨by omega,h1,h2⟩).1.symm
  ·rw[if_neg (by omega)]
   refine ((Int.ediv_emod_unique (r:=-r) (by omega)).2 ⟨?_,by omega,by omega⟩).1.symm
   rw[h,Int.neg_mul];omega
 exact⟨hq,by unfold dr;rw[←hq];omega⟩
theorem div_same{nb:Bool}{l n Q R:Nat}(h:l=n*Q+R)(hR:R<n):sg false Q=dq (sg nb l) (sg nb n)∧sg nb R=dr (sg nb l) (sg nb n):=by
 apply dq_unique
 ·rw[h]
  cases nb
  ·simp[sg]
  ·simp only[sg,if_true,Bool.false_eq_true,if_false]
   rw[Int.natCast_add,Int.natCast_mul,Int.neg_mul];omega
 ·cases nb
  ·left;simp[sg];exact hR
  ·right;simp[sg];exact hR
theorem div_other{nb:Bool}{l n Q:Nat}(h:l=n*Q)(hn:0<n):sg true Q=dq (sg (!nb) l) (sg nb n)∧sg nb 0=dr (sg (!nb) l) (sg nb n):=by
 apply dq_unique
 ·rw[h]
  cases nb
  ·simp only[sg,Bool.not_false,if_true,Bool.false_eq_true,if_false]
   rw[Int.natCast_mul,Int.mul_neg];omega
  ·simp only[sg,Bool.not_true,if_true,Bool.false_eq_true,if_false]
   rw[Int.natCast_mul,Int.neg_mul_neg];omega
 ·cases nb
  ·left;simp[sg];exact hn
  ·right;simp[sg];exact hn
theorem div_other'{nb:Bool}{l n Q R:Nat}(h:l=n*Q+R)(hR:R<n)(hp:0<R):sg true (Q+1)=dq (sg (!nb) l) (sg nb n)∧sg nb (n-R)=dr (sg (!nb) l) (sg nb n):=by
 apply dq_unique
 ·rw[h]
  have e:((n-R:Nat):Int)=(n:Int)-R:=by omega
  have e2:(n:Int)*((Q+1:Nat):Int)=n*Q+n:=by rw[Int.natCast_add,Int.mul_add];simp
  cases nb
  ·simp only[sg,Bool.not_false,if_true,Bool.false_eq_true,if_false]
   rw[Int.natCast_add,Int.natCast_mul,Int.mul_neg,e2,e];omega
  ·simp only[sg,Bool.not_true,if_true,Bool.false_eq_true,if_false]
   rw[Int.natCast_add,Int.natCast_mul,Int.neg_mul_neg,e2,e];omega
 ·cases nb
  ·left;simp[sg];omega
  ·right;simp[sg];omega
theorem Div_any(a b:ByteArray)(w:World)(ha:a.size≤4000000)(hb:b.size≤4000000)(h0:vl b≠0)(ht:Tabs w):
 Calls Tryz.prog 127 #[.string a,.string b] w fun e w'=>e=.returned (.tuple #[.string (I (dq (vl a) (vl b))),.string (I (dr (vl a) (vl b))),.int .i64 0])∧Below w.heap.size w w':=by
 have H0:=Aac h0
 have HT:=Aac ht
 have HLA:=Aac (vl_lt a)
 have HLB:=Aac (vl_lt b)
 clear h0 ht
 go_enter Tryz.func127,Tryz.ntmps127
 go_wp2_with fail
 refine (read_any a _ (by omega)).mono ?_
 rintro e w1 hr1
 obtain⟨n1,A1,l1,c1,rfl,h1,hb1⟩:=hr1.num
 clear hr1
 go_wp2_with fail
 refine (read_any b _ (by omega)).mono ?_
 rintro e w2 hr2
 obtain⟨n2,A2,l2,c2,rfl,h2,hb2⟩:=hr2.num
 clear hr2
 have h1':=h1.below hb2
 have hb12:=hb1.trans (hb2.mono hb1.size)
 have hpos:0<mval l2:=by rw[h2.mval];have:=H0.out;omega
 have hl2:((l2.length:Int)==0)=false:=by
  rw[Aaj]
  intro e
  have:l2=[]:=Aag (by omega)
  rw[this] at hpos;simp[Tr.mval] at hpos
 obtain⟨W2,hW2,hBW,hz,k0,k1⟩:=box2 w2 (.cells #[.bool n1,.slice A1 l1.length c1] 82) (.cells #[.bool n2,.slice A2 l2.length c2] 82)
 have H1:=Aac (h1'.below hBW)
 have H2:=Aac (h2.below hBW)
 have HB2:=Aac (hb12.trans (hBW.mono hb12.size))
 have HZ:=Aac hz
 have K0:=Aac k0
 have K1:=Aac k1
 have a0:=Aaa K0.out 0
 have a1:=Aaa K0.out 1
 have b0:=Aaa K1.out 0
 have b1:=Aaa K1.out 1
 simp at a0 a1 b0 b1
 have q1:=H1.out.len HLA.out
 have q2:=H2.out.len HLB.out
 have HP:=Aac hpos
 clear h1 hb1 h2 hb2 h1' hb12 hBW hz k0 k1 hpos
 go_wp2_with fail
 rw[←hW2]
 clear hW2
 refine (Agx A1 A2 l1 l2 c1 c2 W2 (by omega) (by omega) H1.out.1 H2.out.1 H1.out.2.1 H2.out.2.1 H1.out.2.2.2 H2.out.2.2.2 HP.out).mono ?_
 rintro e w3 ⟨A3,Q,c3,A4,R,c4,rfl,hQ,g3,g4,hb3⟩
 have d0:w3.cell? ⟨w2.heap.size,0,none⟩=some (.bool n1):=(hb3.cell (by simp[HZ.out])).trans a0
 have d1:w3.cell? ⟨w2.heap.size,1,none⟩=some (.slice A1 l1.length c1):=(hb3.cell (by simp[HZ.out])).trans a1
 have d2:w3.cell? ⟨w2.heap.size+1,0,none⟩=some (.bool n2):=(hb3.cell (by simp[HZ.out])).trans b0
 have d3:w3.cell? ⟨w2.heap.size+1,1,none⟩=some (.slice A2 l2.length c2):=(hb3.cell (by simp[HZ.out])).trans b1
 have HQ:=Aac hQ
 have G3:=Aac g3
 have G4:=Aac g4
 have HB3:=Aac (HB2.out.trans (hb3.mono HB2.out.size))
 have H23:=Aac (H2.out.below hb3)
 have hw3:w2.heap.size+1<w3.heap.size:=by have:=hb3.size;have:=HZ.out;omega
 have E1:Hid (vl a=sg n1 (Tr.mval l1)):=H1.out.2.2.1.symm
 have E2:Hid (vl b=sg n2 (Tr.mval l2)):=H2.out.2.2.1.symm
 have hQl:Q.length≤4000000:=by
  have e1:Tr.mval Q≤Tr.mval l1:=by
   rw[hQ.2.2.2.2.1]
   have:1*Tr.mval Q≤Tr.mval l2*Tr.mval Q:=Nat.mul_le_mul_right _ HP.out
   omega
  have e2:=Agc H1.out.1 hQ.2.1 e1
  omega
 have hRl:R.length≤l2.length:=Agc H2.out.1 hQ.2.2.2.1 (Nat.le_of_lt hQ.2.2.2.2.2)
 clear hQ g3 g4 hb3 a0 a1 b0 b1 H1 H2 HB2 K0 K1 HZ
 by_cases hsame:n1=n2
 ·subst hsame
  have hxx:(n1 != n1)=false:=by simp
  have HV:=Aac (div_same (nb:=n1) HQ.out.2.2.2.2.1 HQ.out.2.2.2.2.2)
  rw[←E1.out,←E2.out] at HV
  have N3:Hid (Nm w3 false A3 Q c3 (dq (vl a) (vl b))):=⟨HQ.out.1,HQ.out.2.1,HV.out.1,G3.out⟩
  have N4:Hid (Nm w3 n1 A4 R c4 (dr (vl a) (vl b))):=⟨HQ.out.2.2.1,HQ.out.2.2.2.1,HV.out.2,G4.out⟩
  clear hl2
  go_wp2_with fail
  go_region_held3 (fun W=>W.cell? ⟨w2.heap.size,0,none⟩=some (.bool n1)∧W.cell? ⟨w2.heap.size,1,none⟩=some (.slice A1 l1.length c1)∧W.cell? ⟨w2.heap.size+1,0,none⟩=some (.bool n1)∧W.cell? ⟨w2.heap.size+1,1,none⟩=some (.slice A2 l2.length c2))
   (refine⟨?_,?_,?_,?_⟩<;>first|assumption|(go_simp;done))
   (first
     | (go_at_call_of 61 (Value.agg #[Value.bool false,Value.slice A3 Q.length c3]);refine (Agi false A3 Q c3 _ _ (show Nm w3.drew _ _ _ _ _ from N3.out) (by omega) (HT.out.below HB3.out.drew)).mono ?_;rintro e w5 ⟨rfl,hb5⟩;have g0:=keepc d0 hb5;have g1:=keepc d1 hb5;have g2:=keepc d2 hb5;have g3:=keepc d3 hb5;have hB5:=HB3.out.drew.trans (hb5.mono (by have:=HB3.out.size;simpa using this));have n5:=(show Nm w3.drew _ _ _ _ _ from N4.out).below hb5)
     | (go_at_call_of 61 (Value.agg #[Value.bool n1,Value.slice A4 R.length c4]);refine (Agi n1 A4 R c4 _ _ n5 (by omega) (HT.out.below hB5)).mono ?_;rintro e w6 ⟨rfl,hb6⟩;have i0:=keepc g0 hb6;have i1:=keepc g1 hb6;have i2:=keepc g2 hb6;have i3:=keepc g3 hb6))
  go_wp2_with fail
  go_ret3
  exact⟨rfl,hB5.trans (hb6.mono hB5.size)⟩
 ·obtain rfl:n1=!n2:=by cases n1<;>cases n2<;>simp_all
  have hxx:((!n2) != n2)=true:=by cases n2<;>rfl
  clear hsame hl2
  rcases Aaq R.length with hR0|hR0
  ·obtain rfl:R=[]:=Aag hR0
   have HV:=Aac (div_other (nb:=n2) (show Tr.mval l1=Tr.mval l2*Tr.mval Q by have:=HQ.out.2.2.2.2.1;simpa[Tr.mval] using this) HP.out)
   rw[←E1.out,←E2.out] at HV
   have N3:Hid (Nm w3 true A3 Q c3 (dq (vl a) (vl b))):=⟨HQ.out.1,HQ.out.2.1,HV.out.1,G3.out⟩
   have N4:Hid (Nm w3 n2 A4 [] c4 (dr (vl a) (vl b))):=⟨HQ.out.2.2.1,HQ.out.2.2.2.1,HV.out.2,G4.out⟩
   clear hRl hR0
   go_wp2_with fail
   go_region_held3 (fun W=>W.cell? ⟨w2.heap.size,0,none⟩=some (.bool (!n2))∧W.cell? ⟨w2.heap.size,1,none⟩=some (.slice A1 l1.length c1)∧W.cell? ⟨w2.heap.size+1,0,none⟩=some (.bool n2)∧W.cell? ⟨w2.heap.size+1,1,none⟩=some (.slice A2 l2.length c2))
    (refine⟨?_,?_,?_,?_⟩<;>first|assumption|(go_simp;done))
    (first
      | (go_at_call_of 61 (Value.agg #[Value.bool true,Value.slice A3 Q.length c3]);refine (Agi true A3 Q c3 _ _ (show Nm w3.drew _ _ _ _ _ from N3.out) (by omega) (HT.out.below HB3.out.drew)).mono ?_;rintro e w5 ⟨rfl,hb5⟩;have g0:w5.cell? ⟨w2.heap.size,0,none⟩=some (.bool (!n2)):=(hb5.cell (Afv d0)).trans d0;have g1:=keepc d1 hb5;have g2:=keepc d2 hb5;have g3:=keepc d3 hb5;have hB5:=HB3.out.drew.trans (hb5.mono (by have:=HB3.out.size;simpa using this));have n5:=(show Nm w3.drew _ _ _ _ _ from N4.out).below hb5)
      | (go_at_call_of 61 (Value.agg #[Value.bool n2,Value.slice A4 0 c4]);refine (Agi n2 A4 [] c4 _ _ n5 (by simp) (HT.out.below hB5)).mono ?_;rintro e w6 ⟨rfl,hb6⟩;have i0:w6.cell? ⟨w2.heap.size,0,none⟩=some (.bool (!n2)):=(hb6.cell (Afv g0)).trans g0;have i1:=keepc g1 hb6;have i2:=keepc g2 hb6;have i3:=keepc g3 hb6))
   go_wp2_with fail
   go_ret3
   exact⟨rfl,hB5.trans (hb6.mono hB5.size)⟩
  ·have hr1:decide ((0:Int)<(R.length:Int))=true:=by simp only[decide_eq_true_eq];omega
   have hRp:0<Tr.mval R:=by
    rcases Aaq (Tr.mval R) with hz|hz
    ·have:=(Abq HQ.out.2.2.2.1).1 hz;rw[this] at hR0;simp at hR0
    ·exact hz
   have HV:=Aac (div_other' (nb:=n2) HQ.out.2.2.2.2.1 HQ.out.2.2.2.2.2 hRp)
   rw[←E1.out,←E2.out] at HV
   go_wp2_with fail
   have hw3l:w.heap.size≤w3.heap.size:=HB3.out.size
   go_region_held3 (fun W=>W.cell? ⟨w2.heap.size,0,none⟩=some (.bool (!n2))∧W.cell? ⟨w2.heap.size,1,none⟩=some (.slice A1 l1.length c1)∧W.cell? ⟨w2.heap.size+1,0,none⟩=some (.bool n2)∧W.cell? ⟨w2.heap.size+1,1,none⟩=some (.slice A2 l2.length c2))
    (refine⟨?_,?_,?_,?_⟩<;>first|assumption|(go_simp;done)|exact (World.cell?_alloc_lt _ _ _ (by simp;omega)).trans (by assumption))
    (first
      | (go_at_call 98;refine (Ae3 A3 (some ⟨w3.heap.size,0,none⟩) Q [1] c3 1 ((w3.alloc (.cells #[.int .u64 1] 117)).drew) (by omega) (by simp) HQ.out.1 (by intro x hx;simp at hx;omega) (show RdM (w3.alloc _) _ _ from (G3.out.below ((Below.refl _ _).alloc (Aad _) _)).2.2) (show RdM (w3.alloc _) _ _ from OwnM.rd (sp:=[]) (Aa5 w3 _))).mono ?_;rintro e w7 ⟨A7,Q7,c7,rfl,hc7,hS7,hA7,hR7,hb7⟩;have g0:w7.cell? ⟨w2.heap.size,0,none⟩=some (.bool (!n2)):=(hb7.cell (by simp;omega)).trans ((World.cell?_alloc_lt w3 _ _ (by simp;omega)).trans d0);have g1:w7.cell? ⟨w2.heap.size,1,none⟩=some (.slice A1 l1.length c1):=(hb7.cell (by simp;omega)).trans ((World.cell?_alloc_lt w3 _ _ (by simp;omega)).trans d1);have g2:w7.cell? ⟨w2.heap.size+1,0,none⟩=some (.bool n2):=(hb7.cell (by simp;omega)).trans ((World.cell?_alloc_lt w3 _ _ (by simp;omega)).trans d2);have g3:w7.cell? ⟨w2.heap.size+1,1,none⟩=some (.slice A2 l2.length c2):=(hb7.cell (by simp;omega)).trans ((World.cell?_alloc_lt w3 _ _ (by simp;omega)).trans d3);have hb37:Below w3.heap.size w3 w7:=((Below.refl _ _).alloc (Aad _) _).drew.trans (hb7.mono (by simp));have hB7:=HB3.out.trans (hb37.mono HB3.out.size);have H27:=H23.out.below hb37;have G47:=G4.out.below hb37;have hn7:Norm Q7:=hS7.2.1 HQ.out.2.1 (Abh (l:=[]) (by omega)))
      | (go_at_call 99;refine (Ae6 A2 A4 l2 R c2 c4 w7 (by omega) hRl H27.1 HQ.out.2.2.1 (Nat.le_of_lt HQ.out.2.2.2.2.2) H27.2.2.2.2.2 G47.2.2 H27.2.2.2.2.1).mono ?_;rintro e w8 ⟨A8,R8,c8,rfl,hc8,hS8,hA8,hR8,hb8⟩;have p0:w8.cell? ⟨w2.heap.size,0,none⟩=some (.bool (!n2)):=(hb8.cell (Afv g0)).trans g0;have p1:=keepc g1 hb8;have p2:=keepc g2 hb8;have p3:=keepc g3 hb8))
   have N7:Hid (Nm w8 true A7 Q7 c7 (dq (vl a) (vl b))):=⟨hS7.1,hn7,by rw[hS7.2.2,Abc];exact HV.out.1,hc7,hA7.1,hR7.below hb8⟩
   have N8:Hid (Nm w8 n2 A8 R8 c8 (dr (vl a) (vl b))):=⟨hS8.1,hS8.2.1,by rw[hS8.2.2];exact HV.out.2,hc8,hA8.1,hR8⟩
   have HB8:Hid (Below w.heap.size w w8):=hB7.trans (hb8.mono hB7.size)
   have hQ7:Q7.length≤Q.length+1:=by
    refine Abu hn7 ?_
    rw[hS7.2.2,Abc,Nat.pow_succ]
    have:=Abd HQ.out.1
    omega
   have hR8l:R8.length≤l2.length:=Agc H27.1 hS8.2.1 (by rw[hS8.2.2];exact Nat.sub_le _ _)
   clear d0 d1 d2 d3 g0 g1 g2 g3 hS7 hS8 hb37 hb7 hb8 hB7 H27 G47 hA7 hA8 hR7 hR8
   go_wp2_with fail
   go_region_held3 (fun W=>W.cell? ⟨w2.heap.size,0,none⟩=some (.bool (!n2))∧W.cell? ⟨w2.heap.size,1,none⟩=some (.slice A1 l1.length c1)∧W.cell? ⟨w2.heap.size+1,0,none⟩=some (.bool n2)∧W.cell? ⟨w2.heap.size+1,1,none⟩=some (.slice A2 l2.length c2))
    (refine⟨?_,?_,?_,?_⟩<;>first|assumption|(go_simp;done))
    (first
      | (go_at_call_of 61 (Value.agg #[Value.bool true,Value.slice A7 Q7.length c7]);refine (Agi true A7 Q7 c7 _ _ (show Nm w8.drew _ _ _ _ _ from N7.out) (by omega) (HT.out.below HB8.out.drew)).mono ?_;rintro e w5 ⟨rfl,hb5⟩;have g0:w5.cell? ⟨w2.heap.size,0,none⟩=some (.bool (!n2)):=(hb5.cell (Afv p0)).trans p0;have g1:=keepc p1 hb5;have g2:=keepc p2 hb5;have g3:=keepc p3 hb5;have hB5:=HB8.out.drew.trans (hb5.mono (by have:=HB8.out.size;simpa using this));have n5:=(show Nm w8.drew _ _ _ _ _ from N8.out).below hb5)
      | (go_at_call_of 61 (Value.agg #[Value.bool n2,Value.slice A8 R8.length c8]);refine (Agi n2 A8 R8 c8 _ _ n5 (by omega) (HT.out.below hB5)).mono ?_;rintro e w6 ⟨rfl,hb6⟩;have i0:w6.cell? ⟨w2.heap.size,0,none⟩=some (.bool (!n2)):=(hb6.cell (Afv g0)).trans g0;have i1:=keepc g1 hb6;have i2:=keepc g2 hb6;have i3:=keepc g3 hb6))
   go_wp2_with fail
   go_ret3
   exact⟨rfl,hB5.trans (hb6.mono hB5.size)⟩
end Go.Proofs.YtcmgmemffncbhabGreatDoor
