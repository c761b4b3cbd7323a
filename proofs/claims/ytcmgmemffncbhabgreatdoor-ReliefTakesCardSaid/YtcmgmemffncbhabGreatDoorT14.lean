/-
  The walk of trancheref01.Mul.
-/
import Derived.Test.YtcmgmemffncbhabGreatDoorT13
import Derived.Test.YtcmgmemffncbhabGreatDoorT09
set_option linter.unusedVariables false
set_option linter.unusedSimpArgs false
set_option maxHeartbeats 16000000
set_option maxRecDepth 100000
namespace Go.Proofs.YtcmgmemffncbhabGreatDoor
open Go.RowKit Tr Go.Shelf
theorem rshort_two(a:ByteArray)(ha:a.size≤1000000):∃(m:Int) (is:Bool),Hid (∀w,Calls Tryz.prog 62 #[.string a] w fun e w'=>e=.returned (.tuple #[.int .i64 m,.bool is])∧w=w')∧Hid (is=true→m=vl a):=by
 rcases Aam 17 (digits (vl a).natAbs).length with h|h
 ·exact⟨0,false,Ahd a ha h,fun e=>by cases e⟩
 ·exact⟨vl a,true,Ahc a ha h,fun _=>rfl⟩
theorem natAbs_mul_lt{m n:Int}(h1:m<1000000000)(h2:-1000000000<m)(h3:n<1000000000)(h4:-1000000000<n):(m*n).natAbs<4000000000000000000:=by
 rw[Int.natAbs_mul]
 have:m.natAbs*n.natAbs≤1000000000*1000000000:=Nat.mul_le_mul (by omega) (by omega)
 omega
theorem sgn_mul(x y:Int)(a b:Nat)(ha:a=x.natAbs)(hb:b=y.natAbs):(if (decide (x<0) != decide (y<0))=true then -((a*b:Nat):Int) else ((a*b:Nat):Int))=x*y:=by
 subst ha hb
 have:=Agh (decide (x<0)) (decide (y<0)) x.natAbs y.natAbs
 have e:∀z:Int,sg (decide (z<0)) z.natAbs=z:=by
  intro z
  by_cases h:z<0
  ·rw[Aa3 h];simp[sg];omega
  ·rw[Aa4 h];simp[sg];omega
 rw[e,e] at this
 rw[←this]
 by_cases h:(decide (x<0) != decide (y<0))=true
 ·rw[if_pos h,h];rfl
 ·rw[if_neg h,Bool.not_eq_true _ |>.mp h];rfl
theorem rwrite_num(neg:Bool)(A:Option Addr)(l:List Nat)(c:Nat)(z:Int)(w:World)(hz:(if neg=true then -(mval l:Int) else (mval l:Int))=z)(hm:l.length≤100000)(hc:l.length≤c)(hd:Dig l)(hr:RdN w A l):
 Calls Tryz.prog 64 #[.agg #[.bool neg,.slice A l.length c]] w fun e w'=>e=.returned (.string (I z))∧Below w.heap.size w w':=by
 subst hz;exact Ahq neg A l c w hm hc hd hr
theorem rMul_any(a b:ByteArray)(ha:a.size≤100000)(hb:b.size≤100000)(w:World):
 Calls Tryz.prog 96 #[.string a,.string b] w fun e w'=>e=.returned (.string (I (vl a*vl b)))∧Below w.heap.size w w':=by
 obtain⟨m,is,HA,HM⟩:=rshort_two a (by omega)
 obtain⟨n,also,HB,HN⟩:=rshort_two b (by omega)
 obtain⟨bb,HBB⟩:∃bb:Bool,Hid (bb=true→is=true∧also=true∧m<1000000000∧-1000000000<m∧n<1000000000∧-1000000000<n)∧Hid (bb=(is&&also&&decide (m<1000000000)&&decide (-1000000000<m)&&decide (n<1000000000)&&decide (-1000000000<n))) :=
  ⟨_,(by intro h;simp at h;exact⟨h.1.1.1.1.1,h.1.1.1.1.2,h.1.1.1.2,h.1.1.2,h.1.2,h.2⟩),rfl⟩
 obtain⟨HB1,HB2⟩:=HBB
 have HR1:=Aac (fun W=>Ahw a W (by omega))
 have HR2:=Aac (fun W=>Ahw b W (by omega))
 have HSA:=Aac ha
 have HSB:=Aac hb
 clear ha hb
 go_enter Tryz.func96,Tryz.ntmps96
 go_wp2_with fail
 refine (HA.out _).mono ?_
 rintro e w1 ⟨rfl,rfl⟩
 go_wp2_with fail
 refine (HB.out _).mono ?_
 rintro e w1 ⟨rfl,rfl⟩
 go_upto_region 3 with fail
 go_cut [40] (fun v wx=>v=.bool bb∧w=wx)
 case first =>
  have hbb:=HB2.out
  clear HB1 HB2
  cases is
  ·simp at hbb
   subst hbb
   go_wp2_with fail
   go_meet
   exact⟨rfl,rfl⟩
  cases also
  ·simp at hbb
   subst hbb
   go_wp2_with fail
   go_meet
   exact⟨rfl,rfl⟩
  by_cases h0:m<1000000000
  case neg =>
   have t0:decide (m<1000000000)=false:=Aa4 h0
   rw[t0] at hbb
   simp at hbb
   subst hbb
   clear h0
   go_wp2_with fail
   go_meet
   exact⟨rfl,rfl⟩
  have t0:decide (m<1000000000)=true:=Aa3 h0
  clear h0
  by_cases h1:-1000000000<m
  case neg =>
   have t1:decide (-1000000000<m)=false:=Aa4 h1
   rw[t1] at hbb
   simp at hbb
   subst hbb
   clear h1
   go_wp2_with fail
   go_meet
   exact⟨rfl,rfl⟩
  have t1:decide (-1000000000<m)=true:=Aa3 h1
  clear h1
  by_cases h2:n<1000000000
  case neg =>
   have t2:decide (n<1000000000)=false:=Aa4 h2
   rw[t2] at hbb
   simp at hbb
   subst hbb
   clear h2
   go_wp2_with fail
   go_meet
   exact⟨rfl,rfl⟩
  have t2:decide (n<1000000000)=true:=Aa3 h2
  clear h2
  by_cases h3:-1000000000<n
  case neg =>
   have t3:decide (-1000000000<n)=false:=Aa4 h3
   rw[t3] at hbb
   simp at hbb
   subst hbb
   clear h3
   go_wp2_with fail
   go_meet
   exact⟨rfl,rfl⟩
  have t3:decide (-1000000000<n)=true:=Aa3 h3
  clear h3
  rw[t0,t1,t2,t3] at hbb
  simp at hbb
  subst hbb
  go_wp2_with fail
  go_meet
  exact⟨rfl,rfl⟩
 case rest =>
  obtain⟨rfl,rfl⟩:=hcut
  cases bb
  ·clear HA HB HM HN HB1 HB2
   go_wp2_with fail
   refine (HR1.out _).mono ?_
   rintro e w1 ⟨A1,l1,c1,rfl,h1,hc1,hr1,hb1⟩
   have H1:=Aac h1
   have R1:=Aac hr1
   have B1:=Aac hb1
   clear HR1 h1 hr1 hb1
   go_wp2_with fail
   refine (HR2.out _).mono ?_
   rintro e w2 ⟨A2,l2,c2,rfl,h2,hc2,hr2,hb2⟩
   obtain⟨W2,hW2,hBW,hz,k0,k1⟩:=box2 w2 (.cells #[.bool (decide (vl a<0)),.slice A1 l1.length c1] 91) (.cells #[.bool (decide (vl b<0)),.slice A2 l2.length c2] 91)
   have H2:=Aac h2
   have R1':=Aac ((R1.out.below hb2).below hBW)
   have R2':=Aac (hr2.below hBW)
   have B2:=Aac ((B1.out.trans (hb2.mono B1.out.size)).trans (hBW.mono (B1.out.trans (hb2.mono B1.out.size)).size))
   have HZ:=Aac hz
   have K0:=Aac k0
   have K1:=Aac k1
   clear HR2 h2 hr2 hb2 hBW hz k0 k1 R1 B1
   go_wp2_with fail
   rw[←hW2]
   clear hW2
   have a0:=Aaa K0.out 0
   have a1:=Aaa K0.out 1
   have b0:=Aaa K1.out 0
   have b1:=Aaa K1.out 1
   simp at a0 a1 b0 b1
   generalize hn1:decide (vl a<0)=n1 at *
   generalize hn2:decide (vl b<0)=n2 at *
   have HN1:=Aac hn1
   have HN2:=Aac hn2
   clear hn1 hn2
   go_region_held3 (fun W=>W.cell? ⟨w2.heap.size,0,none⟩=some (.bool n1)∧W.cell? ⟨w2.heap.size,1,none⟩=some (.slice A1 l1.length c1)∧W.cell? ⟨w2.heap.size+1,0,none⟩=some (.bool n2)∧W.cell? ⟨w2.heap.size+1,1,none⟩=some (.slice A2 l2.length c2))
    (refine⟨?_,?_,?_,?_⟩<;>first|assumption|(go_simp;done))
    (first
      | (go_at_call 132;refine (Afu A1 A2 l1 l2 c1 c2 W2.drew (by have:=H1.out.2.2.2;have:=HSA.out;omega) (by have:=H2.out.2.2.2;have:=HSB.out;omega) hc1 hc2 H1.out.1 H2.out.1 (show RdN W2 _ _ from R1'.out) (show RdN W2 _ _ from R2'.out)).mono ?_;rintro e w3 ⟨A3,r3,c3,rfl,hc3,hS3,hR3,hb3⟩;have j0:w3.cell? ⟨w2.heap.size,0,none⟩=some (.bool n1):=(hb3.cell (by simp[HZ.out])).trans a0;have j1:w3.cell? ⟨w2.heap.size,1,none⟩=some (.slice A1 l1.length c1):=(hb3.cell (by simp[HZ.out])).trans a1;have j2:w3.cell? ⟨w2.heap.size+1,0,none⟩=some (.bool n2):=(hb3.cell (by simp[HZ.out])).trans b0;have j3:w3.cell? ⟨w2.heap.size+1,1,none⟩=some (.slice A2 l2.length c2):=(hb3.cell (by simp[HZ.out])).trans b1;have hB3:=B2.out.drew.trans (hb3.mono (by have:=B2.out.size;simpa using this)))
      | (go_at_call 64;refine (rwrite_num (n1 != n2) A3 r3 c3 (vl a*vl b) w3 (by rw[hS3.2.2.2,←HN1.out,←HN2.out];exact sgn_mul _ _ _ _ H1.out.2.2.1 H2.out.2.2.1) (by have:=H1.out.2.2.2;have:=HSA.out;have:=H2.out.2.2.2;have:=HSB.out;have:=hS3.1;omega) hc3 hS3.2.1 hR3).mono ?_;rintro e w5 ⟨rfl,hb5⟩;have g0:=keepc j0 hb5;have g1:=keepc j1 hb5;have g2:=keepc j2 hb5;have g3:=keepc j3 hb5))
   go_wp2_with fail
   go_ret
   exact⟨rfl,hB3.trans (hb5.mono hB3.size)⟩
  ·obtain⟨i1,i2,i3,i4,i5,i6⟩:=HB1.out rfl
   have hmn:=natAbs_mul_lt i3 i4 i5 i6
   have em:=HM.out i1
   have en:=HN.out i2
   subst em en
   generalize hp:vl a*vl b=p at hmn ⊢
   clear i1 i2 i3 i4 i5 i6
   have HO:=Aac (Ahk p hmn)
   go_wp2_with fail
   refine (HO.out _).mono ?_
   rintro e w1 ⟨rfl,rfl⟩
   go_wp2_with fail
   go_ret
   exact⟨by rw[hp];rfl,Below.refl _ _⟩
end Go.Proofs.YtcmgmemffncbhabGreatDoor
