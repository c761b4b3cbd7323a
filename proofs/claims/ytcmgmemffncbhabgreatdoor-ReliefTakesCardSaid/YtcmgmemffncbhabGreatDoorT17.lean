/-
  Fractions: Of,Parts,Check.
-/
import Derived.Test.YtcmgmemffncbhabGreatDoorT16
set_option linter.unusedVariables false
set_option linter.unusedSimpArgs false
set_option maxHeartbeats 16000000
set_option maxRecDepth 100000
namespace Go.Proofs.YtcmgmemffncbhabGreatDoor
open Go.RowKit Tr Go.Shelf
theorem Ajc(n d:ByteArray)(w:World)(s1:n.size≤2000000)(s2:d.size≤2000000)(ht:Tabs w):
 Calls Tryz.prog 126 #[.agg #[.string n,.string d]] w fun e w'=>e=.returned (.tuple #[.string (I (fv n d).num),.string (I ((fv n d).den:Int))])∧Below w.heap.size w w':=by
 have HB:=Aac ((Below.refl _ w).alloc (Aad _) (Obj.cells #[.string n,.string d] 112))
 have HP:=Aac (Aik n d (w.alloc (Obj.cells #[.string n,.string d] 112)) (by omega))
 obtain⟨W0,hW0⟩:∃W0,w.alloc (Obj.cells #[.string n,.string d] 112)=W0:=⟨_,rfl⟩
 have hk:W0.heap[w.heap.size]?=some (Obj.cells #[.string n,.string d] 112):=by rw[←hW0];exact Aa5 w _
 rw[hW0] at HB HP
 have b0:=Aaa hk 0
 have b1:=Aaa hk 1
 simp at b0 b1
 have HT:=Aac ht
 have hdd:=Aic d
 clear ht
 go_enter Tryz.func126,Tryz.ntmps126
 go_wp2_with fail
 refine HP.out.mono ?_
 rintro e w1 ⟨rfl,B1⟩
 have HB1:=Aac (HB.out.trans (B1.mono HB.out.size))
 clear B1 HB hk b0 b1 HP
 go_wp2_with fail
 refine (Aih n (dd d) w1 (by omega) (by omega) (dd_ne d) (HT.out.below HB1.out)).mono ?_
 rintro e w2 ⟨rfl,B2⟩
 go_wp2_with fail
 go_ret2
 exact⟨rfl,HB1.out.trans (B2.mono HB1.out.size)⟩
def CanQ(n d:ByteArray):Prop:=n=I (fv n d).num∧d=dn (fv n d)
theorem Ajd(z:Int):((I z).toList==[])=decide (z=0):=by
 rw[show ([]:List UInt8)=(I 0).toList from by rw[Lib.toList_data];rfl]
 by_cases h:z=0
 ·subst h;simp
 ·rw[Aes (fun e=>h (I_inj e))];simp[h]
theorem Aje{a b:Int}(h:0<b):dr a b=a % b:=by
 unfold dr;rw[Aie h];have:=Int.emod_add_mul_ediv a b;omega
theorem Ajf(a:ByteArray)(w:World)(s1:a.size≤3000000)(ht:Tabs w):
 Calls Tryz.prog 128 #[.string a] w fun e w'=>e=.returned (.bool (decide (vl a % 2=0)))∧Below w.heap.size w w':=by
 have HD:=Aac (Div_any a ⟨#[50]⟩ w (by omega) (by show 1≤_;omega) (by rw[show (⟨#[50]⟩:ByteArray)=I 2 from rfl,vl_I];omega) ht)
 rw[show vl (⟨#[50]⟩:ByteArray)=2 from by rw[show (⟨#[50]⟩:ByteArray)=I 2 from rfl,vl_I],Aje (by omega)] at HD
 have hl:=Ajd (vl a % 2)
 clear ht
 go_enter Tryz.func128,Tryz.ntmps128
 go_wp2_with fail
 refine HD.out.mono ?_
 rintro e w1 ⟨rfl,B1⟩
 clear HD
 go_wp2_with fail
 go_ret
 exact⟨rfl,B1⟩
def rnd(q:Rat):Int:=if (q.den:Int)<2*(q.num % q.den)∨((q.den:Int)=2*(q.num % q.den)∧q.num / q.den % 2≠0) then q.num / q.den+1 else q.num / q.den
theorem Ajg(n d:ByteArray)(w:World)(s1:n.size≤1000000)(s2:d.size≤1000000)(ht:Tabs w):
 Calls Tryz.prog 88 #[.agg #[.string n,.string d],.int .i64 1] w fun e w'=>e=.returned (.tuple #[.string (I (rnd (fv n d))),.int .i64 0])∧Below w.heap.size w w':=by
 have HB:=Aac ((Below.refl _ w).alloc (Aad _) (Obj.cells #[.string n,.string d] 112))
 have HP:=Aac (Ajc n d (w.alloc (Obj.cells #[.string n,.string d] 112)) (by omega) (by omega) (ht.below HB.out))
 obtain⟨W0,hW0⟩:∃W0,w.alloc (Obj.cells #[.string n,.string d] 112)=W0:=⟨_,rfl⟩
 have hk:W0.heap[w.heap.size]?=some (Obj.cells #[.string n,.string d] 112):=by rw[←hW0];exact Aa5 w _
 rw[hW0] at HB HP
 have b0:=Aaa hk 0
 have b1:=Aaa hk 1
 simp at b0 b1
 have HT:=Aac ht
 obtain⟨K,hK⟩:∃K,K=1000001:=⟨_,rfl⟩
 have hbd:=fv_bd n d (k:=K) (by omega) (by omega)
 have zn:=hbd.num
 have zd:=hbd.den
 have hdp:=(fv n d).den_pos
 generalize hq:fv n d=q at *
 have HQ:=Aac hq
 have zl:(I (q.num / q.den)).size≤K+1:=Aen (k:=K) (Nat.lt_of_le_of_lt (Int.natAbs_ediv_le_natAbs _ _) hbd.1)
 have zr:(I (q.num % q.den)).size≤K+1:=Aen (k:=K) (Nat.lt_trans (by
  have h1:=Int.emod_nonneg q.num (b:=(q.den:Int)) (by omega);have h2:=Int.emod_lt_of_pos q.num (b:=(q.den:Int)) (by omega);omega) hbd.2)
 have r1:=Int.emod_nonneg q.num (b:=(q.den:Int)) (by omega)
 have r2:=Int.emod_lt_of_pos q.num (b:=(q.den:Int)) (by omega)
 clear ht hk hbd hq
 have hone:(⟨#[49]⟩:ByteArray)=I 1:=rfl
 go_enter Tryz.func88,Tryz.ntmps88
 go_wp2_with fail
 refine HP.out.mono ?_
 rintro e w1 ⟨rfl,B1⟩
 have B1:=HB.out.trans (B1.mono HB.out.size)
 clear HP HB b0 b1
 go_wp2_with fail
 refine (Div_any (I q.num) (I q.den) w1 (by omega) (by omega) (by rw[vl_I];omega) (HT.out.below B1)).mono ?_
 rintro e w2 ⟨rfl,B2⟩
 have B2:=B1.trans (B2.mono B1.size)
 rw[vl_I,vl_I,Aie (by omega),Aje (by omega)]
 clear B1
 have HL:=Ajd (q.num % q.den)
 have hm:((1:Int)==1)=true:=rfl
 obtain⟨lo,hlo⟩:∃lo,lo=q.num / q.den:=⟨_,rfl⟩
 obtain⟨re,hre⟩:∃re,re=q.num % q.den:=⟨_,rfl⟩
 rw[←hlo] at zl
 rw[←hre] at zr HL r1 r2
 rw[←hlo,←hre]
 have HLO:=Aac hlo
 have HRE:=Aac hre
 clear hlo hre
 by_cases h0:re=0
 ·rw[Aa3 h0] at HL
  have H0:=Aac h0
  clear h0
  go_wp2_with fail
  refine (Agu (I q.num) ⟨#[]⟩ w2 (by omega) (by show 0≤_;omega)).mono ?_
  rintro e w4 ⟨rfl,B4⟩
  have B4:=B2.trans (B4.mono B2.size)
  rw[vl_I,show vl (⟨#[]⟩:ByteArray)=0 from by rw[zero_eq,vl_I]]
  clear B2
  go_wp2_with fail
  refine (Agj (I re) (I re) w4 (by omega) (by omega) (HT.out.below B4)).mono ?_
  rintro e w5 ⟨rfl,B5⟩
  have B5:=B4.trans (B5.mono B4.size)
  rw[vl_I]
  clear B4
  have zz:(I (re+re)).size≤K+K+10:=(by
   refine Aap (Aen (k:=(I re).size+1) (two_lt _ ?_)) (by omega)
   have:=vl_lt (I re)
   rw[vl_I] at this
   omega)
  go_wp2_with fail
  refine (Agu (I (re+re)) (I q.den) w5 (by omega) (by omega)).mono ?_
  rintro e w6 ⟨rfl,B6⟩
  have B6:=B5.trans (B6.mono B5.size)
  rw[vl_I,vl_I]
  clear B5
  have hc:cmpI (re+re) q.den<0:=cmpI_lt.2 (by have:=H0.out;omega)
  have HC:=Aac hc
  have h1:decide (0<cmpI (re+re) q.den)=false:=Aa4 (by omega)
  have h2:(cmpI (re+re) q.den==0)=false:=Aaj.2 (by omega)
  clear hc
  go_wp2_with fail
  go_ret2
  refine⟨?_,B6⟩
  have h0:=H0.out
  have hc:=HC.out
  unfold rnd
  rw[←HLO.out,←HRE.out]
  rw[if_neg (by omega)];rfl
 ·rw[Aa4 h0] at HL
  have H0:=Aac h0
  clear h0
  go_wp2_with fail
  refine (Agj (I lo) (I 1) w2 (by omega) (by show 1≤_;omega) (HT.out.below B2)).mono ?_
  rintro e w3 ⟨rfl,B3⟩
  have B3:=B2.trans (B3.mono B2.size)
  rw[vl_I,vl_I]
  clear B2
  go_wp2_with fail
  refine (Agu (I q.num) ⟨#[]⟩ w3 (by omega) (by show 0≤_;omega)).mono ?_
  rintro e w4 ⟨rfl,B4⟩
  have B4:=B3.trans (B4.mono B3.size)
  rw[vl_I,show vl (⟨#[]⟩:ByteArray)=0 from by rw[zero_eq,vl_I]]
  clear B3
  go_wp2_with fail
  refine (Agj (I re) (I re) w4 (by omega) (by omega) (HT.out.below B4)).mono ?_
  rintro e w5 ⟨rfl,B5⟩
  have B5:=B4.trans (B5.mono B4.size)
  rw[vl_I]
  clear B4
  have zz:(I (re+re)).size≤K+K+10:=(by
   refine Aap (Aen (k:=(I re).size+1) (two_lt _ ?_)) (by omega)
   have:=vl_lt (I re)
   rw[vl_I] at this
   omega)
  go_wp2_with fail
  refine (Agu (I (re+re)) (I q.den) w5 (by omega) (by omega)).mono ?_
  rintro e w6 ⟨rfl,B6⟩
  have B6:=B5.trans (B6.mono B5.size)
  rw[vl_I,vl_I]
  clear B5
  rcases Int.lt_trichotomy (re+re) q.den with hc|hc|hc
  ·have HC:=Aac hc
   have h1:decide (0<cmpI (re+re) q.den)=false:=Aa4 (by rw[cmpI_gt];omega)
   have h2:(cmpI (re+re) q.den==0)=false:=Aaj.2 (by rw[Ne,cmpI_eq];omega)
   clear hc
   go_wp2_with fail
   go_ret2
   refine⟨?_,B6⟩
   have h0:=H0.out
   have hc:=HC.out
   unfold rnd
   rw[←HLO.out,←HRE.out]
   rw[if_neg (by omega)];rfl
  ·have HC:=Aac hc
   have h1:decide (0<cmpI (re+re) q.den)=false:=Aa4 (by rw[cmpI_gt];omega)
   have h2:(cmpI (re+re) q.den==0)=true:=beq_iff_eq.2 (cmpI_eq.2 hc)
   clear hc
   go_wp2_with fail
   refine (Ajf (I lo) w6 (by omega) (HT.out.below B6)).mono ?_
   rintro e w7 ⟨rfl,B7⟩
   have B7:=B6.trans (B7.mono B6.size)
   rw[vl_I]
   by_cases he:lo % 2=0
   ·have he':decide (lo % 2=0)=true:=Aa3 he
    have HE:=Aac he
    clear he
    go_wp2_with fail
    go_ret2
    refine⟨?_,B7⟩
    have h0:=H0.out
    have hc:=HC.out
    unfold rnd
    rw[←HLO.out,←HRE.out]
    rw[if_neg (by have:=HE.out;omega)];rfl
   ·have he':decide (lo % 2=0)=false:=Aa4 he
    have HE:=Aac he
    clear he
    go_wp2_with fail
    go_ret2
    refine⟨?_,B7⟩
    have h0:=H0.out
    have hc:=HC.out
    unfold rnd
    rw[←HLO.out,←HRE.out]
    rw[if_pos (by have:=HE.out;omega)];rfl
  ·have HC:=Aac hc
   have h1:decide (0<cmpI (re+re) q.den)=true:=Aa3 (by rw[cmpI_gt];omega)
   clear hc
   go_wp2_with fail
   go_ret2
   refine⟨?_,B6⟩
   have h0:=H0.out
   have hc:=HC.out
   unfold rnd
   rw[←HLO.out,←HRE.out]
   rw[if_pos (by omega)];rfl
def okDay(d:Int):Prop:=-25567≤d∧d≤84005
instance (d:Int):Decidable (okDay d):=by unfold okDay;infer_instance
theorem Ajh(n:Int)(h0:-9223372036854775808≤n)(h1:n≤9223372036854775807)(w:World)(ht:Tabs w):
 Calls Tryz.prog 123 #[.int .i64 n] w fun e w'=>e=.returned (.string (bs (Lib.itoa n)))∧Below w.heap.size w w':=by
 refine (Tryz.strconv_Itoa n h0 h1 w ht.pow10).mono ?_
 rintro e w1 ⟨rfl,k,os,rfl⟩
 exact⟨rfl,below_grow os k⟩
end Go.Proofs.YtcmgmemffncbhabGreatDoor
namespace Go.Proofs.YtcmgmemffncbhabGreatDoor
theorem Aji(q:Rat):2*(rnd q*q.den-q.num).natAbs≤q.den:=by
 have hp:(0:Int)<q.den:=by have:=q.den_pos;omega
 have h1:=Int.emod_nonneg q.num (b:=(q.den:Int)) (by omega)
 have h2:=Int.emod_lt_of_pos q.num hp
 have h3:=Int.emod_add_mul_ediv q.num q.den
 have h4:(q.num / q.den+1)*(q.den:Int)=q.den*(q.num / q.den)+q.den:=by
  rw[Int.add_mul,Int.one_mul,Int.mul_comm]
 have h5:(q.num / q.den)*(q.den:Int)=q.den*(q.num / q.den):=Int.mul_comm _ _
 unfold rnd
 split
 ·rw[h4];omega
 ·rw[h5];omega
end Go.Proofs.YtcmgmemffncbhabGreatDoor
namespace Go.Proofs.YtcmgmemffncbhabGreatDoor
open Go.RowKit Tr Go.Shelf
theorem Ajj(a b:ByteArray)(K:Nat)(hK:K≤70000)(ha:a.size≤1000000)(hb:b.size≤1000000)(hx:(vl a).natAbs<10^K)(hy:(vl b).natAbs<10^K)(w:World):
 Calls Tryz.prog 196 #[.string a,.string b] w fun e w'=>e=.returned (.string (I (Nat.gcd (vl a).natAbs (vl b).natAbs:Nat)))∧Below w.heap.size w w':=by
 have HA:=Ag4 a ha
 have HB:=Ag4 b hb
 generalize vl a=x at *
 generalize vl b=y at *
 have e1:∀z:Int,bs (digits z.natAbs)=I (z.natAbs:Int):=fun z=>by unfold I;rw[Ack]
 rw[e1] at HA HB
 have HA:=Aac HA
 have HB:=Aac HB
 generalize x.natAbs=m at *
 generalize y.natAbs=n at *
 clear ha hb e1
 go_enter Tryz.func196,Tryz.ntmps196
 go_wp2_with fail
 refine (HA.out _).mono ?_
 rintro e w1 ⟨rfl,rfl⟩
 go_wp2_with fail
 refine (HB.out _).mono ?_
 rintro e w1 ⟨rfl,rfl⟩
 go_wp2_with fail
 clear HA HB
 go_loopw [9,10] (fun v9 v10 w1=>∃(p q:Nat),v9=.string (I (p:Int))∧v10=.string (I (q:Int))∧p<10^K∧q<10^K∧Nat.gcd p q=Nat.gcd m n∧Below w.heap.size w w1) (fun _ v10 _=>(vl (match v10 with|.string s=>s|_=>⟨#[]⟩)).natAbs)
 case atStart=>exact⟨m,n,rfl,rfl,hx,hy,rfl,Below.refl _ _⟩
 case round =>
  obtain⟨p,q,rfl,rfl,hp,hq,hg,hB⟩:=hrel
  have HPB:=Aac hp
  have HQB:=Aac hq
  have HB:=Aac hB
  have HG:=Aac hg
  clear hB hg
  rcases Aaq q with h0|h0
  ·subst h0
   clear hp hq
   have e0:((I ((0:Nat):Int)).toList==[])=true:=by rw[Lib.toList_data];rfl
   have e1:((I 0).toList==[])=true:=by rw[Lib.toList_data];rfl
   have HR:Hid ((p:Nat)=Nat.gcd m n):=by rw[Hid,←HG.out];simp
   go_wp2_with fail
   go_ret
   exact⟨by rw[←HR.out];rfl,HB.out⟩
  ·have e0:((I (q:Int)).toList==[])=false:=by
    rw[Lib.toList_data]
    rw[Aaj]
    intro e
    have:=can_eq_nil.1 (show can (q:Int)=[] from e)
    omega
   have z1:(I (p:Int)).size≤80000:=by have:=Aen (k:=K) (z:=(p:Int)) (by rw[Int.natAbs_natCast];exact hp);omega
   have z2:(I (q:Int)).size≤80000:=by have:=Aen (k:=K) (z:=(q:Int)) (by rw[Int.natAbs_natCast];exact hq);omega
   have HD:=fun W=>Ajb (I (p:Int)) (I (q:Int)) z1 z2 (by rw[vl_I];omega) W
   rw[vl_I,vl_I] at HD
   have e2:((p:Int) % (q:Int))=((p % q:Nat):Int):=by simp
   rw[e2] at HD
   have HD:=Aac HD
   clear e2 z1 z2 hp hq
   go_wp2_with fail
   refine (HD.out _).mono ?_
   rintro e w2 ⟨rfl,b2⟩
   have HB2:=Aac b2
   clear b2
   go_wp2_with fail
   refine⟨⟨q,p % q,rfl,rfl,HQB.out,?_,?_,HB.out.trans (HB2.out.mono HB.out.size)⟩,?_⟩
   ·exact Nat.lt_trans (Nat.mod_lt _ h0) HQB.out
   ·rw[←HG.out,Nat.gcd_comm p q,Nat.gcd_rec q p,Nat.gcd_comm]
   ·show (vl (I ((p % q:Nat):Int))).natAbs<(vl (I (q:Int))).natAbs
    rw[vl_I,vl_I,Int.natAbs_natCast,Int.natAbs_natCast];exact Nat.mod_lt _ h0
theorem Ajk(a b:ByteArray)(ha:a.size≤80000)(hb:b.size≤80000)(hp:0<vl b)(w:World):
 Calls Tryz.prog 197 #[.string a,.string b] w fun e w'=>e=.returned (.string (I (vl a / vl b)))∧Below w.heap.size w w':=by
 have HC:=Aac (Ajb a b ha hb hp w)
 clear ha hb hp
 go_enter Tryz.func197,Tryz.ntmps197
 go_wp2_with fail
 refine HC.out.mono ?_
 rintro e w1 ⟨rfl,b1⟩
 have HB:=Aac b1
 clear b1
 go_wp2_with fail
 go_ret
 exact⟨rfl,HB.out⟩
theorem Ajm(n d:ByteArray)(K:Nat)(hK:K≤70000)(ha:n.size≤80000)(hb:d.size≤80000)(hx:(vl n).natAbs<10^K)(hy:(vl d).natAbs<10^K)(hp:0<vl d)(w:World):
 Calls Tryz.prog 159 #[.string n,.string d] w fun e w'=>e=.returned (fenc (Rat.divInt (vl n) (vl d)))∧Below w.heap.size w w':=by
 have HZ:=Aac (Aiq n (by omega))
 have HB:=Aac ((Below.refl _ w).alloc (Aad _) (Obj.cells #[.string ⟨#[]⟩,.string ⟨#[]⟩] 112))
 by_cases h0:vl n=0
 ·rw[h0] at HZ
  have HR:Hid (fenc (Rat.divInt (vl n) (vl d))=.agg #[.string ⟨#[]⟩,.string ⟨#[]⟩]):=by
   show _=_
   rw[h0,Rat.zero_divInt];kernel_rfl
  clear h0 ha hb hx hy hp
  obtain⟨W0,hW0⟩:∃W0,w.alloc (Obj.cells #[.string ⟨#[]⟩,.string ⟨#[]⟩] 112)=W0:=⟨_,rfl⟩
  have k1:W0.heap[w.heap.size]?=some (Obj.cells #[.string ⟨#[]⟩,.string ⟨#[]⟩] 112):=by rw[←hW0];exact Aa5 w _
  have a0:=Aaa k1 0
  have a1:=Aaa k1 1
  simp at a0 a1
  have f0:=Aaf k1 0
  have f1:=Aaf k1 1
  have K1:=Aac k1
  rw[hW0] at HB
  clear k1
  go_enter Tryz.func159,Tryz.ntmps159
  go_wp2_with fail
  try rw[hW0]
  refine (HZ.out _).mono ?_
  rintro e w1 ⟨rfl,rfl⟩
  go_wp2_with fail
  have k2:=set2 K1.out (.string ⟨#[]⟩) (.string ⟨#[]⟩)
  have m0:=Aaa k2 0
  have m1:=Aaa k2 1
  simp at m0 m1
  refine bodyPost_ret (v:=.agg #[.string ⟨#[]⟩,.string ⟨#[]⟩]) (by simp[results,Tryz.results159,go_sem,m0,m1]) rfl ?_
  exact⟨by rw[HR.out],(HB.out.setCell (p:=⟨w.heap.size,0,none⟩) (Aad _) _).setCell (p:=⟨w.heap.size,1,none⟩) (Aad _) _⟩
 have hz:(vl n==0)=false:=by rw[Aaj];exact h0
 have HG:=Aac (Ajj n d K hK (by omega) (by omega) hx hy)
 have hgp:0<Int.gcd (vl n) (vl d):=Int.gcd_pos_of_ne_zero_right _ (by omega)
 have hgl:Int.gcd (vl n) (vl d)≤(vl d).natAbs:=Nat.le_of_dvd (by omega) (Int.gcd_dvd_natAbs_right _ _)
 have gs:(I ((Int.gcd (vl n) (vl d):Nat):Int)).size≤80000:=by have:=Aen (k:=K) (z:=((Int.gcd (vl n) (vl d):Nat):Int)) (by rw[Int.natAbs_natCast];exact Nat.lt_of_le_of_lt hgl hy);omega
 have e1:vl n / ((Int.gcd (vl n) (vl d):Nat):Int)=(Rat.divInt (vl n) (vl d)).num:=by rw[←Aif hp,Aie (by omega)]
 have e2:vl d / ((Int.gcd (vl n) (vl d):Nat):Int)=((Rat.divInt (vl n) (vl d)).den:Int):=by rw[←Aig hp,Aie (by omega)]
 have HE1:=fun W=>Ajk n (I ((Int.gcd (vl n) (vl d):Nat):Int)) ha gs (by rw[vl_I];omega) W
 have HE2:=fun W=>Ajk d (I ((Int.gcd (vl n) (vl d):Nat):Int)) hb gs (by rw[vl_I];omega) W
 rw[vl_I,e1] at HE1
 rw[vl_I,e2] at HE2
 have hdl:((Rat.divInt (vl n) (vl d)).den:Int).natAbs<10^K:=by
  rw[←e2,Int.natAbs_ediv_of_nonneg (by omega)]
  exact Nat.lt_of_le_of_lt (Nat.div_le_self _ _) hy
 have HE1:=Aac HE1
 have HE2:=Aac HE2
 change Hid (∀w,Calls Tryz.prog 196 #[.string n,.string d] w fun e w'=>e=.returned (.string (I ((Int.gcd (vl n) (vl d):Nat):Int)))∧Below w.heap.size w w') at HG
 clear ha hb hx hy hp h0 hgp hgl gs e1 e2
 generalize Int.gcd (vl n) (vl d)=g at *
 generalize Rat.divInt (vl n) (vl d)=q at *
 have zd:(I (q.den:Int)).size≤1000000:=by have:=Aen hdl;omega
 have HC:=fun W=>Ahh (I (q.den:Int)) one1 zd (by decide) W
 rw[vl_I,show vl one1=1 from by rw[one1_eq,vl_I]] at HC
 clear hdl zd hK
 obtain⟨W0,hW0⟩:∃W0,w.alloc (Obj.cells #[.string ⟨#[]⟩,.string ⟨#[]⟩] 112)=W0:=⟨_,rfl⟩
 have hk:W0.heap[w.heap.size]?=some (Obj.cells #[.string ⟨#[]⟩,.string ⟨#[]⟩] 112):=by rw[←hW0];exact Aa5 w _
 rw[hW0] at HB
 have HK:=Aac hk
 clear hk
 go_enter Tryz.func159,Tryz.ntmps159
 go_wp2_with fail
 try rw[hW0]
 refine (HZ.out _).mono ?_
 rintro e w1 ⟨rfl,rfl⟩
 go_wp2_with fail
 refine (HG.out _).mono ?_
 rintro e w1 ⟨rfl,b1⟩
 have HB1:=Aac b1
 clear b1
 go_wp2_with fail
 refine (HE1.out _).mono ?_
 rintro e w2 ⟨rfl,b2⟩
 have HB2:=Aac b2
 clear b2
 go_wp2_with fail
 refine (HE2.out _).mono ?_
 rintro e w3 ⟨rfl,b3⟩
 have b13:=(HB1.out.trans (HB2.out.mono HB1.out.size)).trans (b3.mono (Aap HB1.out.size HB2.out.size))
 have k3:=(b13.block _ (Aab.1 HK.out).1).trans HK.out
 have hlt:=(Aab.1 k3).1
 have ne3:w3.heap.size≠w.heap.size:=by omega
 have ne4:w.heap.size≠w3.heap.size:=by omega
 have HB3:=Aac (HB.out.trans (b13.mono HB.out.size))
 have HW4:=Aac ((Below.refl _ w3).alloc (Aad _) (Obj.cells #[.string (I q.num),.string (I (q.den:Int))] 112))
 obtain⟨W4,hW4⟩:∃W4,w3.alloc (Obj.cells #[.string (I q.num),.string (I (q.den:Int))] 112)=W4:=⟨_,rfl⟩
 have k4:W4.heap[w3.heap.size]?=some (Obj.cells #[.string (I q.num),.string (I (q.den:Int))] 112):=by rw[←hW4];exact Aa5 w3 _
 rw[hW4] at HW4
 have k5:=(HW4.out.block _ hlt).trans k3
 have c0:=Aaa k4 0
 have c1:=Aaa k4 1
 have g1:=Aaf k4 1
 have a0:=Aaa k5 0
 have a1:=Aaa k5 1
 have f0:=Aaf k5 0
 have f1:=Aaf k5 1
 simp at c0 c1 a0 a1
 have HB4:=Aac (HB3.out.trans (HW4.out.mono (Nat.le_of_lt hlt)))
 have K4:=Aac k4
 have K5:=Aac k5
 clear b3 b13 k3 k4 k5 HB HB1 HB2 HB3 HW4 HK HE1 HE2 HG HZ
 by_cases hq:q.den=1
 ·rw[show cmpI (q.den:Int) 1=0 from cmpI_eq.2 (by omega)] at HC
  have HC:=Aac HC
  have HQ:=Aac hq
  clear hq
  go_wp2_with fail
  try rw[hW4]
  go_quiet ((first|(go_at_call 195;exact Ain (Aip _))|(go_at_call 33;exact Ain (HC.out _))))
  go_wp2_with fail
  have k6:((W4.drewN nq).setCell ⟨w3.heap.size,1,none⟩ (.string ⟨#[]⟩)).heap[w.heap.size]?=some (Obj.cells #[.string ⟨#[]⟩,.string ⟨#[]⟩] 112):=(Below.heap_setCell _ _ _ _ (by simp;omega)).trans (by simpa using K5.out)
  have k2:=set2 k6 (.string (I q.num)) (.string ⟨#[]⟩)
  have m0:=Aaa k2 0
  have m1:=Aaa k2 1
  simp at m0 m1
  refine bodyPost_ret (v:=.agg #[.string (I q.num),.string ⟨#[]⟩]) (by simp[results,Tryz.results159,go_sem,m0,m1]) rfl ?_
  refine⟨?_,(Below.setCell (p:=⟨w.heap.size,0,none⟩) ((Acz HB4.out nq).setCell (p:=⟨w3.heap.size,1,none⟩) (by simp;omega) _) (Aad _) _).setCell (p:=⟨w.heap.size,1,none⟩) (Aad _) _⟩
  unfold fenc dn
  rw[if_pos HQ.out]
 ·have hc1:(cmpI (q.den:Int) 1==0)=false:=by rw[Aaj,Ne,cmpI_eq];omega
  have HC:=Aac HC
  have HQ:=Aac hq
  clear hq
  go_wp2_with fail
  try rw[hW4]
  go_quiet ((first|(go_at_call 195;exact Ain (Aip _))|(go_at_call 33;exact Ain (HC.out _))))
  go_wp2_with fail
  have k6:(W4.drewN nq).heap[w.heap.size]?=some (Obj.cells #[.string ⟨#[]⟩,.string ⟨#[]⟩] 112):=by simpa using K5.out
  have k2:=set2 k6 (.string (I q.num)) (.string (I (q.den:Int)))
  have m0:=Aaa k2 0
  have m1:=Aaa k2 1
  simp at m0 m1
  refine bodyPost_ret (v:=.agg #[.string (I q.num),.string (I (q.den:Int))]) (by simp[results,Tryz.results159,go_sem,m0,m1]) rfl ?_
  refine⟨?_,(Below.setCell (p:=⟨w.heap.size,0,none⟩) (Acz HB4.out nq) (Aad _) _).setCell (p:=⟨w.heap.size,1,none⟩) (Aad _) _⟩
  unfold fenc dn
  rw[if_neg HQ.out]
end Go.Proofs.YtcmgmemffncbhabGreatDoor
