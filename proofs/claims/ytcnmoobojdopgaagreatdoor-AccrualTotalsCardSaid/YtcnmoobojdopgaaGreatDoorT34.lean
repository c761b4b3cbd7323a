/-
  The walks of trancheref06.Of,AddMonths.
-/
import Derived.Test.YtcnmoobojdopgaaGreatDoorT33
import Derived.Test.YtcnmoobojdopgaaGreatDoorT29
set_option linter.unusedVariables false
set_option linter.unusedSimpArgs false
set_option maxHeartbeats 16000000
set_option maxRecDepth 100000
namespace Go.Proofs.YtcnmoobojdopgaaGreatDoor
open Go.RowKit Tr Go.Shelf
theorem Av7(y:Int)(m:Nat)(d:Int)(hv:VDate y m d)(w:World):
 Calls Tryz.prog 287 #[.int .i64 y,.int .i64 (m:Int),.int .i64 d] w fun e w'=>e=.returned (.tuple #[.int .i64 (dayOf y m d),.int .i64 0])∧w=w':=by
 obtain⟨y0,y1,m0,m1,d0,d1⟩:=hv
 have HLN:=hI (fun (k:Nat) (k0:1≤k) (k1:k≤12) W=>Av4 y k (by omega) (by omega) k0 k1 W)
 have HLP:=hI (fun (z:Int) (h0:1900≤z) (h1:z≤2200) W=>Av3 z (by omega) (by omega) W)
 have c1:decide (y<1900)=false:=Aay (by omega)
 have c2:decide (y > 2199)=false:=Aay (by omega)
 have c3:decide ((m:Int)<1)=false:=Aay (by omega)
 have c4:decide ((m:Int) > 12)=false:=Aay (by omega)
 have c5:decide (d<1)=false:=Aay (by omega)
 have c2':decide (2199<y)=false:=Aay (by omega)
 have c4':decide (12<(m:Int))=false:=Aay (by omega)
 have c6:decide (d > lenB (leapB y) m)=false:=Aay (by omega)
 have c6':decide (lenB (leapB y) m<d)=false:=Aay (by omega)
 have hll:=(Ai4 (leapB y) m).2
 have hd31:d≤31:=by omega
 go_enter Tryz.func287,Tryz.ntmps287
 go_wp2_with fail
 refine (HLN.out m m0 m1 _).mono ?_
 rintro e w1 ⟨rfl,rfl⟩
 go_wp2_with fail
 clear c1 c2 c3 c4 c5 c2' c4' c6 c6'
 go_loop [8,9] (fun v8 v9=>∃z:Int,v9=.int .i64 z∧v8=.int .i64 (-25567+d-1+bg z)∧1900≤z∧z≤y) (fun _ v9=>2200-(intOf v9).toNat)
 case atStart=>exact⟨1900,rfl,by rw[show bg 1900=0 from by decide,Int.add_zero],by omega,y0⟩
 case round =>
  obtain⟨z,rfl,rfl,z0,z1⟩:=hrel
  have hbg:=bg_bd z0 (by omega)
  have hsu:=Ai2 z
  have hbg2:=bg_bd (y:=z+1) (by omega) (by omega)
  rcases Int.lt_or_le z y with hlt|hge
  ·have hcx:decide (z<y)=true:=Aax hlt
   clear hll
   go_wp2_with fail
   refine (HLP.out z z0 (by omega) _).mono ?_
   rintro e w2 ⟨rfl,rfl⟩
   cases hl:leapB z
   ·rw[hl] at hsu
    replace hsu:bg (z+1)=bg z+365:=hsu
    clear hl
    go_wp2_with fail
    refine⟨⟨z+1,rfl,by congr 1;omega,by omega,by omega⟩,by simp[intOf];omega⟩
   ·rw[hl] at hsu
    replace hsu:bg (z+1)=bg z+366:=hsu
    clear hl
    go_wp2_with fail
    refine⟨⟨z+1,rfl,by congr 1;omega,by omega,by omega⟩,by simp[intOf];omega⟩
  ·have hzy:z=y:=by omega
   subst hzy
   have hcx:decide (z<z)=false:=Aay (by omega)
   clear hsu hbg2 hge
   go_wp2_with fail
   clear hcx
   go_loop [8,10] (fun v8 v10=>∃k:Nat,v10=.int .i64 (k:Int)∧v8=.int .i64 (-25567+d-1+bg z+cumB (leapB z) (k-1))∧1≤k∧k≤m) (fun _ v10=>13-(intOf v10).toNat)
   case atStart=>exact⟨1,rfl,by simp[cumB],by omega,m0⟩
   case round =>
    obtain⟨k,rfl,rfl,k0,k1⟩:=hrel
    have hcb:=Ajd (leapB z) (m:=k-1) (by omega)
    have hst:=Ajc (leapB z) k0
    have hlk:=Ai4 (leapB z) k
    rcases Aam k m with hlt|hge
    ·have hcx:decide ((k:Int)<(m:Int))=true:=by simp;omega
     clear hll
     go_wp2_with fail
     refine (HLN.out k k0 (by omega) _).mono ?_
     rintro e w2 ⟨rfl,rfl⟩
     go_wp2_with fail
     refine⟨⟨k+1,by simp,?_,by omega,by omega⟩,by simp[intOf];omega⟩
     rw[show k+1-1=k from rfl,hst];congr 1;omega
    ·have hkm:k=m:=by omega
     subst hkm
     have hcx:decide ((k:Int)<(k:Int))=false:=by simp
     clear hge hst
     go_wp2_with fail
     refine bodyPost_ret (v:=.tuple #[.int .i64 (-25567+d-1+bg z+cumB (leapB z) (k-1)),.int .i64 0]) (by simp[results,Tryz.results287,go_sem]) rfl ?_
     exact⟨by unfold dayOf;congr 3;congr 2;omega,rfl⟩
theorem Av8(w:World):Calls Tryz.prog 287 #[.int .i64 2200,.int .i64 1,.int .i64 1] w fun e w'=>e=.returned (.tuple #[.int .i64 0,.int .i64 13])∧w=w':=by
 go_enter Tryz.func287,Tryz.ntmps287
 go_wp2_with fail
 refine bodyPost_ret (v:=.tuple #[.int .i64 0,.int .i64 13]) (by simp[results,Tryz.results287,go_sem]) rfl ?_
 exact⟨rfl,rfl⟩
theorem Av9(d n:Int)(hd:okDay d)(hn0:-100000000≤n)(hn1:n≤100000000)(w:World):
 Calls Tryz.prog 235 #[.int .i64 d,.int .i64 n] w fun e w'=>e=.returned (.tuple #[.int .i64 (addX d n),.int .i64 (addC d n)])∧w=w':=by
 have HP:=hI (Av6 d hd w)
 have HLN:=hI (fun (K:Int) (h0:22800≤K) (h1:K<26400) W=>Av4 (kY K) (kM K) (by unfold kY;omega) (by unfold kY;omega) (kM_bd K).1 (kM_bd K).2 W)
 have HOF:=hI (fun (K dd:Int) (hv:VDate (kY K) (kM K) (min dd (kL K))) W=>Av7 (kY K) (kM K) (min dd (kL K)) hv W)
 clear hd
 go_enter Tryz.func235,Tryz.ntmps235
 go_wp2_with fail
 refine HP.out.mono ?_
 rintro e w1 ⟨y,m,dd,rfl,hv,hdy,rfl⟩
 by_cases hr:-4800≤n∧n≤4800
 case neg =>
  have HE:Hid (addX d n=0∧addC d n=2):=by
   have h:=Auc (d:=d) hr
   unfold addX addC
   rw[h]
   simp only
   rw[if_neg hr]
   exact⟨rfl,rfl⟩
  rcases Int.lt_or_le n (-4800) with h|h
  ·have c1:decide (n < -4800)=true:=Aax h
   clear hr h hv hdy
   go_wp2_with fail
   refine bodyPost_ret (v:=.tuple #[.int .i64 0,.int .i64 2]) (by simp[results,Tryz.results235,go_sem]) rfl ?_
   exact⟨by rw[HE.out.1,HE.out.2],rfl⟩
  ·have c1:decide (n < -4800)=false:=Aay (by omega)
   have c2:decide (n > 4800)=true:=Aax (by omega)
   have c2':decide (4800<n)=true:=Aax (by omega)
   clear hr h hv hdy
   go_wp2_with fail
   refine bodyPost_ret (v:=.tuple #[.int .i64 0,.int .i64 2]) (by simp[results,Tryz.results235,go_sem]) rfl ?_
   exact⟨by rw[HE.out.1,HE.out.2],rfl⟩
 obtain⟨h0,h1⟩:=hr
 have c1:decide (n < -4800)=false:=Aay (by omega)
 have c2:decide (n > 4800)=false:=Aay (by omega)
 have c2':decide (4800<n)=false:=Aay (by omega)
 obtain⟨K,hK⟩:∃K,12*y+(m:Int)-1+n=K:=⟨_,rfl⟩
 have HE:=hI (Akp hv hdy h0 h1 hK)
 have HR:=hI (And.intro h0 h1)
 obtain⟨v1,v2,v3,v4,v5,v6⟩:=hv
 have hkp:18000≤K:=by omega
 have hku:K≤40000:=by omega
 have hq:K.tdiv 12=kY K:=by rw[Int.tdiv_eq_ediv_of_nonneg (by omega)];rfl
 have hq2:K.tmod 12=K % 12:=Int.tmod_eq_emod_of_nonneg (by omega)
 have hrr:K % 12+1=(kM K:Int):=by unfold kM;omega
 have hy0:1500≤kY K:=by unfold kY;omega
 have hy9:kY K≤3400:=by unfold kY;omega
 by_cases hc:22800≤K∧K<26400
 ·have hy1:decide (K<22800)=false:=Aay (by omega)
  have hy2:decide (K≥26400)=false:=Aay (by omega)
  have hy3:decide (26400≤K)=false:=Aay (by omega)
  have HV:=hI (Aj5 (k:=K) v5 hc.1 hc.2)
  have HD:=hI (Ajy K dd)
  have HLL:=hI (HLN.out K hc.1 hc.2)
  have HO:=hI (HOF.out K dd HV.out)
  rw[if_pos hc] at HE
  clear hc HOF HLN HV
  go_wp2_with fail
  refine (HLL.out _).mono ?_
  rintro e w2 ⟨rfl,rfl⟩
  go_wp2_with fail
  refine (HO.out _).mono ?_
  rintro e w3 ⟨rfl,rfl⟩
  obtain⟨r,hr⟩:∃r,dayOf (kY K) (kM K) (min dd (kL K))=r:=⟨_,rfl⟩
  have HRR:Hid (addX d n=r∧addC d n=0):=by rw[←hr,←HD.out];exact Aua HE.out
  rw[hr]
  clear hr
  go_wp2_with fail
  refine bodyPost_ret (v:=.tuple #[.int .i64 r,.int .i64 0]) (by simp[results,Tryz.results235,go_sem]) rfl ?_
  exact⟨by rw[HRR.out.1,HRR.out.2],rfl⟩
 ·have HN:Hid (addX d n=0∧addC d n=13):=by
   have h:=HE.out
   rw[if_neg hc] at h
   unfold addX addC
   rw[h]
   simp only
   rw[if_pos HR.out]
   exact⟨rfl,rfl⟩
  have hx:decide (K<22800)=true∨(decide (K<22800)=false∧decide (K≥26400)=true∧decide (26400≤K)=true):=by
   rcases Int.lt_or_le K 22800 with h|h
   ·exact .inl (Aax h)
   ·exact .inr ⟨Aay (by omega),Aax (by omega),Aax (by omega)⟩
  clear hc HOF HLN HE
  rcases hx with hx|⟨hx,hx2,hx3⟩
  all_goals
   go_wp2_with fail
   refine bodyPost_ret (v:=.tuple #[.int .i64 0,.int .i64 13]) (by simp[results,Tryz.results235,go_sem]) rfl ?_
   exact⟨by rw[HN.out.1,HN.out.2],rfl⟩
theorem Awa(d:Int)(h:okDay d)(w:World):Calls Tryz.prog 339 #[.int .i64 d] w fun e w'=>e=.returned (.bool true)∧w=w':=by
 unfold okDay at h
 have c1:decide (d≥-25567)=true:=Aax (by omega)
 have c2:decide (d≤84005)=true:=Aax (by omega)
 have c1':decide (-25567≤d)=true:=Aax (by omega)
 go_enter Tryz.func339,Tryz.ntmps339
 go_wp2_with fail
 all_goals first|(exfalso;omega)|(go_ret;exact⟨by first|rfl|simp[*],rfl⟩)
theorem Awb(c a b:Int)(c0:1≤c)(c5:c≤5)(ha:okDay a)(hb:okDay b)(hab:a≤b)(w:World):Calls Tryz.prog 334 #[.int .i64 c,.int .i64 a,.int .i64 b] w fun e w'=>e=.returned (.int .i64 0)∧w=w':=by
 have HA:=hI (fun W=>Awa a ha W)
 have HB:=hI (fun W=>Awa b hb W)
 have t1:decide (c<1)=false:=Aay (by omega)
 have t2:decide (c > 5)=false:=Aay (by omega)
 have t2':decide (5<c)=false:=Aay (by omega)
 have t3:decide (b<a)=false:=Aay (by omega)
 clear ha hb
 go_enter Tryz.func334,Tryz.ntmps334
 go_wp2_with fail
 refine (HA.out _).mono ?_
 rintro e w1 ⟨rfl,rfl⟩
 go_wp2_with fail
 refine (HB.out _).mono ?_
 rintro e w1 ⟨rfl,rfl⟩
 go_wp2_with fail
 go_ret
 exact⟨rfl,rfl⟩
open Classical in
noncomputable def rdays(c a b:Int):Int:=if c=3∨c=4 then Akv c a b else b-a
theorem Awc{c a b:Int}(ha:okDay a)(hb:okDay b):(rdays c a b).natAbs≤200000:=by
 unfold rdays
 split
 ·exact Akx ha.1 ha.2 hb.1 hb.2
 ·obtain⟨_,_⟩:=ha;obtain⟨_,_⟩:=hb;omega
theorem Awd(c a b:Int)(c0:1≤c)(c5:c≤5)(ha:okDay a)(hb:okDay b)(hab:a≤b)(w:World):
 Calls Tryz.prog 319 #[.int .i64 c,.int .i64 a,.int .i64 b] w fun e w'=>e=.returned (.tuple #[.int .i64 (rdays c a b),.int .i64 0])∧w=w':=by
 have HC:=hI (fun W=>Awb c a b c0 c5 ha hb hab W)
 have HA:=hI (fun W=>Av6 a ha W)
 have HB:=hI (fun W=>Av6 b hb W)
 have bab:-200000≤b-a∧b-a≤200000:=by obtain⟨_,_⟩:=ha;obtain⟨_,_⟩:=hb;omega
 by_cases h34:c=3∨c=4
 case neg =>
  have HR:Hid (rdays c a b=b-a):=by show _=_;unfold rdays;rw[if_neg h34]
  have t3:(c != 3)=true:=by rw[bne,Aaj.2 (fun h=>h34 (.inl h))];rfl
  have t4:(c != 4)=true:=by rw[bne,Aaj.2 (fun h=>h34 (.inr h))];rfl
  have t3':(c==3)=false:=Aaj.2 (fun h=>h34 (.inl h))
  have t4':(c==4)=false:=Aaj.2 (fun h=>h34 (.inr h))
  have hw:IntKind.i64.wrap (b-a)=b-a:=by rw[IntKind.wrap_i64];omega
  clear c0 c5 ha hb hab h34 HA HB
  go_enter Tryz.func319,Tryz.ntmps319
  go_wp2_with fail
  refine (HC.out _).mono ?_
  rintro e w1 ⟨rfl,rfl⟩
  go_wp2_with fail
  refine bodyPost_ret (v:=.tuple #[.int .i64 (b-a),.int .i64 0]) (by simp[results,Tryz.results319,go_sem]) rfl ?_
  exact⟨by rw[HR.out],rfl⟩
 have hcc:((c != 3)=false∨((c != 3)=true∧(c != 4)=false)):=by
  rcases h34 with rfl|rfl
  ·exact .inl rfl
  ·exact .inr ⟨rfl,rfl⟩
 have HRD:Hid (rdays c a b=Akv c a b):=by show _=_;unfold rdays;rw[if_pos h34]
 have HCC:=hI h34
 obtain⟨k4,hk4⟩:∃k4,(c==4)=k4:=⟨_,rfl⟩
 have HK4:=hI hk4
 clear c0 c5 ha hb hab h34 bab
 go_enter Tryz.func319,Tryz.ntmps319
 go_wp2_with fail
 refine (HC.out _).mono ?_
 rintro e w1 ⟨rfl,rfl⟩
 go_upto_region 4 with fail
 go_cut [29] (fun v29 wx=>v29=.bool false∧w=wx)
 case first =>
  rcases hcc with t|⟨t,t2⟩
  all_goals (go_wp2_with fail;go_meet;exact⟨rfl,rfl⟩)
 case rest =>
 obtain⟨rfl,rfl⟩:=hcut
 clear hcc
 go_wp2_with fail
 refine (HA.out _).mono ?_
 rintro e w1 ⟨y,m,d,rfl,hv,hda,rfl⟩
 have HVA:=hI (And.intro hv hda)
 obtain⟨v1,v2,v3,v4,v5,v6⟩:=hv
 have l1:=(Ai4 (leapB y) m).2
 have hd31:d≤31:=by omega
 clear HA hda v6 l1
 go_wp2_with fail
 refine (HB.out _).mono ?_
 rintro e w1 ⟨z,n,f,rfl,hv,hdb,rfl⟩
 have HVB:=hI (And.intro hv hdb)
 obtain⟨u1,u2,u3,u4,u5,u6⟩:=hv
 have l1:=(Ai4 (leapB z) n).2
 have hf31:f≤31:=by omega
 clear HB hdb u6 l1
 have HE:Hid (rdays c a b=d30 c y m d z n f):=by show _=_;rw[HRD.out];exact Akw HVA.out.1 HVA.out.2 HVB.out.1 HVB.out.2
 clear HVA HVB HRD
 have key:∀(d' f':Int),d'=min d 30→f'=(if c=4∨min d 30=30 then min f 30 else f)→d30 c y m d z n f=360*(z-y)+30*((n:Int)-m)+f'-d':=fun d' f' h1 h2=>by subst h1 h2;rfl
 have HKEY:=hI key
 clear key
 by_cases hd:d=31
 ·subst hd
  clear hd31
  by_cases hf:f=31
  ·subst hf
   clear hf31
   have HV:=hI (HKEY.out 30 30 (by omega) (by rw[if_pos (.inr rfl)];rfl))
   clear HKEY
   cases k4
   all_goals
    go_wp2_with fail
    refine bodyPost_ret (v:=.tuple #[.int .i64 (360*(z-y)+30*((n:Int)-m)+30-30),.int .i64 0]) (by simp[results,Tryz.results319,go_sem]) rfl ?_
    exact⟨by rw[HE.out,HV.out],rfl⟩
  ·have t:(f==31)=false:=Aaj.2 hf
   have HV:=hI (HKEY.out 30 f (by omega) (by split<;>omega))
   clear HKEY hf
   go_wp2_with fail
   refine bodyPost_ret (v:=.tuple #[.int .i64 (360*(z-y)+30*((n:Int)-m)+f-30),.int .i64 0]) (by simp[results,Tryz.results319,go_sem]) rfl ?_
   exact⟨by rw[HE.out,HV.out],rfl⟩
 ·have t1:(d==31)=false:=Aaj.2 hd
  by_cases hf:f=31
  ·subst hf
   clear hf31
   cases k4
   case true =>
    have h4:c=4:=beq_iff_eq.1 HK4.out
    have HV:=hI (HKEY.out d 30 (by omega) (by rw[if_pos (.inl h4)];rfl))
    clear HKEY hd h4
    go_wp2_with fail
    refine bodyPost_ret (v:=.tuple #[.int .i64 (360*(z-y)+30*((n:Int)-m)+30-d),.int .i64 0]) (by simp[results,Tryz.results319,go_sem]) rfl ?_
    exact⟨by rw[HE.out,HV.out],rfl⟩
   case false =>
    have h4:c≠4:=Aaj.1 HK4.out
    by_cases h30:d=30
    ·subst h30
     have HV:=hI (HKEY.out 30 30 (by omega) (by rw[if_pos (.inr rfl)];rfl))
     clear HKEY hd h4 hd31
     go_wp2_with fail
     refine bodyPost_ret (v:=.tuple #[.int .i64 (360*(z-y)+30*((n:Int)-m)+30-30),.int .i64 0]) (by simp[results,Tryz.results319,go_sem]) rfl ?_
     exact⟨by rw[HE.out,HV.out],rfl⟩
    ·have t2:(d==30)=false:=Aaj.2 h30
     have HV:=hI (HKEY.out d 31 (by omega) (by rw[if_neg (fun h=>h.elim h4 (fun h=>by omega))]))
     clear HKEY hd h4 h30
     go_wp2_with fail
     refine bodyPost_ret (v:=.tuple #[.int .i64 (360*(z-y)+30*((n:Int)-m)+31-d),.int .i64 0]) (by simp[results,Tryz.results319,go_sem]) rfl ?_
     exact⟨by rw[HE.out,HV.out],rfl⟩
  ·have t:(f==31)=false:=Aaj.2 hf
   have HV:=hI (HKEY.out d f (by omega) (by split<;>omega))
   clear HKEY hf hd
   go_wp2_with fail
   refine bodyPost_ret (v:=.tuple #[.int .i64 (360*(z-y)+30*((n:Int)-m)+f-d),.int .i64 0]) (by simp[results,Tryz.results319,go_sem]) rfl ?_
   exact⟨by rw[HE.out,HV.out],rfl⟩
theorem Awe(n d:Int)(h0:n.natAbs<1000000000000000000)(h1:d.natAbs<1000000000000000000)(hd:0<d)(w:World):
 Calls Tryz.prog 320 #[.int .i64 n,.int .i64 d] w fun e w'=>e=.returned (fenc (Rat.divInt n d))∧Below w.heap.size w w':=by
 have HO1:=hI (fun W=>Ad5 n (by omega) W)
 have HO2:=hI (fun W=>Ad5 d (by omega) W)
 have HNW:=hI (fun W=>Aq6 (a:=18) h0 h1 hd (by omega) W)
 obtain⟨q,hq⟩:∃q,Rat.divInt n d=q:=⟨_,rfl⟩
 rw[hq] at HNW ⊢
 clear hq h0 h1 hd
 obtain⟨W0,hW0⟩:∃W0,w.alloc fz=W0:=⟨_,rfl⟩
 have hg:BX w [(w.heap.size,fz)] W0:=by rw[←hW0];exact BX.push (W:=w) ⟨Below.refl _ _,fun _ h=>by cases h⟩ fz
 unfold fenc at HNW ⊢
 go_enter Tryz.func320,Tryz.ntmps320
 go_wp2_with fail
 refine (HO1.out _).mono ?_
 rintro e w1 ⟨rfl,rfl⟩
 go_wp2_with fail
 refine (HO2.out _).mono ?_
 rintro e w2 ⟨rfl,rfl⟩
 go_wp2_with fail
 refine (HNW.out _).mono ?_
 rintro e w3 ⟨rfl,b3⟩
 have hg3:=hg.below b3
 clear hg b3 hW0
 have k0:=hg3.get 0 rfl
 have l0:=hg3.lt 0 rfl
 have m0:=Aaa k0 0
 have m1:=Aaa k0 1
 have f0:=Aaf k0 0
 have f1:=Aaf k0 1
 simp at m0 m1 f0 f1
 have ne:w3.heap.size≠w.heap.size:=by omega
 have HB3:=hI hg3.1
 have HK0:=hI k0
 clear k0 hg3
 go_wp2_with fail
 have k2:=Arp (Go.Proofs.YtcnmoobojdopgaaGreatDoor.set2 HK0.out (.string (I q.num)) (.string (dn q))) (.cells #[.string (I q.num),.string (dn q)] 25)
 have j0:=Aaa k2 0
 have j1:=Aaa k2 1
 simp at j0 j1
 refine bodyPost_ret (v:=.agg #[.string (I q.num),.string (dn q)]) (by simp[results,Tryz.results320,go_sem,j0,j1]) rfl ?_
 have hb:=Ah0 (Aad _) HB3.out (.string (I q.num)) (.string (dn q))
 exact⟨rfl,hb.alloc hb.size _⟩
structure RCAV(w:World)(e x Ln:Int)(p rq sq:Rat)  (L:Array Bool) (W:World) (s66 s67 s68 s69 s70 s71 s72:Value):Prop where
 k0:L.getD 0 false=true→s66=.agg #[.string (I p.num),.string (dn p)]
 k1:L.getD 1 false=true→s67=.int .i64 x
 k2:L.getD 2 false=true→s68=.int .i64 e
 k3:L.getD 3 false=true→s69=.int .i64 (x-e)
 k4:L.getD 4 false=true→s70=.int .i64 Ln
 k5:L.getD 5 false=true→s71=.agg #[.string (I rq.num),.string (dn rq)]
 k6:L.getD 6 false=true→s72=.agg #[.string (I sq.num),.string (dn sq)]
 bx:BX w [(w.heap.size,fz)] W
 o7:L.getD 7 false=false→W.heap[w.heap.size+1]?=some (fobj p)
 n7:L.getD 7 false=true→W.heap[w.heap.size+1]?=some (fobj sq)
 d7_0:L.getD 7 false=true→L.getD 0 false=true
structure RCAJ(w:World)(e x Ln:Int)(p rq sq:Rat)(x0 x2 x3 x4 x5 x6 x7 x8 x9 x11 x12 x13 x14 x17 x18 x19 x20 x21 x22 x23 x24 x25 x26 x27 x28 x29 x30 x31 x32 x33 x34 x35 x36 x37 x38 x39 x40 x41 x42 x43 x44 x45 x46 x47 x48 x49 x50 x51 x52 x53 x54 x55 x56 x57 x58 x59 x60 x61 x62 x63 x64 x65 x73 x74:Value)(L:Array Bool)(a:Act)(W:World):Prop where
 sz:L.size=8
 fr:∃s66 s67 s68 s69 s70 s71 s72:Value,a={tmps:=#[x0,.int .i64 e,x2,x3,x4,x5,x6,x7,x8,x9,.pointer (some ⟨w.heap.size+1,0,none⟩),x11,x12,x13,x14,.int .i64 Ln,.int .i64 x,x17,x18,x19,x20,x21,x22,x23,x24,x25,x26,x27,x28,x29,x30,x31,x32,x33,x34,x35,x36,x37,x38,x39,x40,x41,x42,x43,x44,x45,x46,x47,x48,x49,x50,x51,x52,x53,x54,x55,x56,x57,x58,x59,x60,x61,x62,x63,x64,x65,s66,s67,s68,s69,s70,s71,s72,x73,x74],defers:=[]}∧RCAV w e x Ln p rq sq  L W s66 s67 s68 s69 s70 s71 s72
theorem Awf(c a b:Int)(c0:1≤c)(c5:c≤5)(ha:okDay a)(hb:okDay b)(hab:a≤b)(w:World):
 Calls Tryz.prog 289 #[.int .i64 c,.int .i64 a,.int .i64 b] w fun e w'=>e=.returned (.tuple #[fenc (dcF c a b),.int .i64 0])∧Below w.heap.size w w':=by
 have HC:=hI (fun W=>Awd c a b c0 c5 ha hb hab W)
 have hbd:=Awc (c:=c) ha hb
 obtain⟨W0,hW0⟩:∃W0,w.alloc fz=W0:=⟨_,rfl⟩
 have hg0:BX w [(w.heap.size,fz)] W0:=by rw[←hW0];exact BX.push (W:=w) ⟨Below.refl _ _,fun _ h=>by cases h⟩ fz
 have s0:W0.heap.size=w.heap.size+1:=by rw[←hW0];simp
 by_cases h5:c=5
 case neg =>
  have t5:(c==5)=false:=Aaj.2 h5
  have t5':(c != 5)=true:=by rw[bne,t5];rfl
  obtain⟨D,hD⟩:∃D:Int,(D=365∧(c==2)=true)∨(D=360∧(c==2)=false):=by
   by_cases h2:c=2
   ·exact⟨365,.inl ⟨rfl,beq_iff_eq.2 h2⟩⟩
   ·exact⟨360,.inr ⟨rfl,Aaj.2 h2⟩⟩
  have HRT:=hI (fun W=>Awe (rdays c a b) D (by omega) (by omega) (by omega) W)
  obtain⟨q,hq⟩:∃q,Rat.divInt (rdays c a b) D=q:=⟨_,rfl⟩
  have HQ:Hid (dcF c a b=q):=by
   show _=_
   rw[←hq]
   unfold dcF rdays
   rw[if_neg h5]
   rcases hD with⟨rfl,h2⟩|⟨rfl,h2⟩
   ·have h2':c=2:=beq_iff_eq.1 h2
    rw[if_pos h2',if_neg (by omega),Rat.divInt_eq_div];rfl
   ·have h2':c≠2:=Aaj.1 h2
    rw[if_neg h2']
    by_cases h1:c=1
    ·rw[if_pos h1,if_neg (by omega),Rat.divInt_eq_div];rfl
    ·rw[if_neg h1,if_pos (by omega),Rat.divInt_eq_div];rfl
  rw[hq] at HRT
  obtain⟨z,hz⟩:∃z,rdays c a b=z:=⟨_,rfl⟩
  rw[hz] at HC HRT
  unfold fenc at HRT ⊢
  have HG0:=hI hg0
  clear c0 c5 ha hb hab hbd h5 hq hz hg0 s0
  go_enter Tryz.func289,Tryz.ntmps289
  go_wp2_with fail
  refine (HC.out _).mono ?_
  rintro e w1 ⟨rfl,rfl⟩
  rcases hD with⟨rfl,t2⟩|⟨rfl,t2⟩
  all_goals
   go_wp2_with fail
   refine (HRT.out _).mono ?_
   rintro e w2 ⟨rfl,b2⟩
   have hg2:=HG0.out.below b2
   have k0:=hg2.get 0 rfl
   have m0:=Aaa k0 0
   have m1:=Aaa k0 1
   have f0:=Aaf k0 0
   have f1:=Aaf k0 1
   simp at m0 m1 f0 f1
   have HK2:=hI k0
   have HG2:=hI hg2
   clear hg2 k0 b2 hW0
   go_wp2_with fail
   refine bodyPost_ret (As6 rfl _ _ (w.heap.size) _ _ (0,0) _ rfl (Go.Proofs.YtcnmoobojdopgaaGreatDoor.set2 HK2.out _ _) Tryz.underlying25 rfl (by kernel_rfl)) rfl ?_
   exact⟨by rw[HQ.out];rfl,Ah0 (Aad _) HG2.out.1 _ _⟩
 subst h5
 have HQ:Hid (dcF 5 a b=yrs b-yrs a):=by show _=_;unfold dcF;rw[if_pos rfl]
 have HP:=hI (fun (e:Int) (h0:okDay e) W=>Av6 e h0 W)
 have HLP:=hI (fun (y:Int) (h0:1900≤y) (h1:y≤2199) W=>Av3 y (by omega) (by omega) W)
 have HOF:=hI (fun (y:Int) (h:VDate y 1 1) W=>Av7 y 1 1 h W)
 have HOL:=hI (fun W=>Av8 W)
 have hg1:BX w [(w.heap.size+1,fobj 0),(w.heap.size,fz)] (W0.alloc (.cells #[.string ⟨#[]⟩,.string ⟨#[]⟩] 25)):=by
  have:=hg0.push fz
  rw[s0] at this
  rw[fobj_zero];exact this
 have HG0:=hI hg1
 obtain⟨zz,hzz⟩:∃z,rdays 5 a b=z:=⟨_,rfl⟩
 rw[hzz] at HC
 clear hg0 hg1 hbd c0 c5 hzz
 go_enter Tryz.func289,Tryz.ntmps289
 go_wp2_with fail
 refine (HC.out _).mono ?_
 rintro e w1 ⟨rfl,rfl⟩
 go_wp2_with fail
 obtain⟨W1,hW1⟩:∃W1,W0.alloc (.cells #[.string ⟨#[]⟩,.string ⟨#[]⟩] 25)=W1:=⟨_,rfl⟩
 have HG1:=HG0
 rw[hW1] at HG1 ⊢
 clear hW0 hW1 HG0 HC
 try simp only[s0]
 clear s0
 go_loopw [1] (fun v1 wr=>∃(e:Int),v1=.int .i64 e∧a≤e∧e≤b∧Hid (BX w [(w.heap.size+1,fobj (yrs e-yrs a)),(w.heap.size,fz)] wr)) (fun v1 _=>(b-intOf v1).toNat)
 case atStart=>exact⟨a,rfl,Int.le_refl _,hab,by rw[show yrs a-yrs a=(0:Rat) from by grind];exact HG1.out⟩
 case round =>
  obtain⟨e,rfl,hae,heb,HG⟩:=hrel
  clear HG1
  have he:okDay e:=by obtain⟨_,_⟩:=ha;obtain⟨_,_⟩:=hb;exact⟨by omega,by omega⟩
  rcases Int.lt_or_le e b with hlt|hge
  ·have hc:decide (e<b)=true:=Aax hlt
   have HPE:=hI (fun W=>HP.out e he W)
   go_wp2_with fail
   refine (HPE.out _).mono ?_
   rintro r w2 ⟨y,m,d,rfl,hv,hd,rfl⟩
   have hvd:=hv
   obtain⟨y0,y1,_,_,_,_⟩:=hvd
   have HY:=hI (And.intro hv hd)
   clear hv hd
   go_wp2_with fail
   refine (HLP.out y y0 y1 _).mono ?_
   rintro r w3 ⟨rfl,rfl⟩
   go_upto_if 50 with fail
   go_cut [15] (fun v15 wx=>v15=.int .i64 (ylen (leapB y))∧wr=wx)
   case first =>
    cases hl:leapB y
    all_goals (go_wp2_with fail;go_meet;exact⟨by first|rfl|(rw[hl];rfl),rfl⟩)
   case rest =>
    obtain⟨rfl,rfl⟩:=hcut
    have hL:=Aky (leapB y)
    obtain⟨hvv,hde⟩:=HY.out
    have hiy:=Ai5 hvv
    rw[hde,Ai2] at hiy
    obtain⟨Ln,hLn⟩:∃Ln,ylen (leapB y)=Ln:=⟨_,rfl⟩
    have HST:=hI (fun (x:Int) (h1:e≤x) (h2:x+25567≤bg (y+1)) (h3:x≤84005)=>Ak0 y0 y1 hiy.1 h1 (by rw[Ai2];exact hiy.2) h2 h3)
    have hbs:=Ai2 y
    rw[hLn] at hbs
    rw[hLn] at HST
    rw[hLn] at hL hiy ⊢
    obtain⟨G,hG⟩:∃G,bg y=G:=⟨_,rfl⟩
    obtain⟨G1,hG1⟩:∃G1,bg (y+1)=G1:=⟨_,rfl⟩
    rw[hG1] at HST
    have hG1e:G1=G+Ln:=by rw[←hG1,hbs,hG]
    rw[hG] at hiy
    obtain⟨hL1,hL2,hL3⟩:=hL
    obtain⟨hi1,hi2⟩:=hiy
    have hbr:b≤84005:=hb.2
    have hbl:-25567≤b:=hb.1
    have hel:-25567≤e:=he.1
    obtain⟨x,hx⟩:∃x,min b (-25567+G1)=x:=⟨_,rfl⟩
    have x1:e<x:=by omega
    have x2:x≤b:=by omega
    have x3:x+25567≤G1:=by omega
    have HSX:=hI (HST.out x (by omega) x3 (by omega))
    have HOY:Hid (∀W,∃F k:Int,Calls Tryz.prog 287 #[.int .i64 (y+1),.int .i64 1,.int .i64 1] W (fun e w'=>e=.returned (.tuple #[.int .i64 F,.int .i64 k])∧W=w')∧((k=0∧F<b∧x=F)∨(k=0∧b≤F∧x=b)∨(k=13∧x=b))):=fun W=>by
     rcases Int.lt_or_le y 2199 with hyl|hyl
     ·have hV1:VDate (y+1) 1 1:=⟨by omega,by omega,by omega,by omega,by omega,by have:=(Ai4 (leapB (y+1)) 1).1;omega⟩
      have hFe:dayOf (y+1) 1 1=-25567+G1:=by unfold dayOf;rw[show cumB (leapB (y+1)) (1-1)=0 from rfl,hG1];omega
      refine⟨dayOf (y+1) 1 1,0,HOF.out _ hV1 W,?_⟩
      rw[hFe]
      rcases Int.lt_or_le (-25567+G1) b with h|h
      ·exact .inl ⟨rfl,h,by omega⟩
      ·exact .inr (.inl ⟨rfl,h,by omega⟩)
     ·obtain rfl:y=2199:=by omega
      refine⟨0,13,HOL.out W,.inr (.inr ⟨rfl,?_⟩)⟩
      have h9:bg (2199+1)=109573:=by decide
      omega
    have b1:=Art he ha
    have b2:BdQ (Rat.divInt (x-e) Ln) 9:=BdQ.divInt (by omega) (by omega) (by omega)
    clear hvv hde hLn HY hbs hG hG1 hx HST HOF HOL HP HLP HPE
    obtain⟨F,k,HOC,hFk⟩:=HOY.out wr
    have HOC:=hI HOC
    go_wp2_with fail
    refine HOC.out.mono ?_
    rintro r w3 ⟨rfl,rfl⟩
    obtain⟨xb,hxb⟩:∃xb:Bool,(xb=true∧k=0∧F<b∧x=F)∨(xb=false∧((k=0∧b≤F)∨k=13)∧x=b):=by
     rcases hFk with⟨h1,h2,h3⟩|⟨h1,h2,h3⟩|⟨h1,h2⟩
     ·exact⟨true,.inl ⟨rfl,h1,h2,h3⟩⟩
     ·exact⟨false,.inr ⟨rfl,.inl ⟨h1,h2⟩,h3⟩⟩
     ·exact⟨false,.inr ⟨rfl,.inr h1,h2⟩⟩
    go_upto_region 16 with fail
    go_cut [64] (fun v64 wx=>v64=.bool xb∧wr=wx)
    case first =>
     clear b1 b2 HSX HOY hi1 hi2 hG1e x1 x2 x3 hL1 hL2 hL3
     rcases hxb with⟨rfl,rfl,hf,rfl⟩|⟨rfl,⟨rfl,hf⟩|rfl,rfl⟩
     ·have t:decide (x<b)=true:=Aax hf
      go_wp2_with fail
      go_meet
      exact⟨rfl,rfl⟩
     ·have t:decide (F<x)=false:=Aay (by omega)
      go_wp2_with fail
      go_meet
      exact⟨rfl,rfl⟩
     ·go_wp2_with fail
      go_meet
      exact⟨rfl,rfl⟩
    case rest =>
    obtain⟨rfl,rfl⟩:=hcut
    go_upto_if 64 with fail
    go_cut [16] (fun v16 wx=>v16=.int .i64 x∧wr=wx)
    case first =>
     clear b1 b2 HSX HOY hi1 hi2 hG1e x1 x2 x3 hL1 hL2 hL3
     rcases hxb with⟨rfl,rfl,hf,rfl⟩|⟨rfl,_,rfl⟩
     all_goals
      go_wp2_with fail
      go_meet
      exact⟨rfl,rfl⟩
    case rest =>
    obtain⟨rfl,rfl⟩:=hcut
    obtain⟨p,hp⟩:∃p,yrs e-yrs a=p:=⟨_,rfl⟩
    have HPE2:Hid (yrs x-yrs a=p+Rat.divInt (x-e) Ln):=by
     show yrs x-yrs a=_
     rw[HSX.out,←hp,Rat.divInt_eq_div]
     grind
    rw[hp] at b1
    have HR:=hI (fun W (_:BX w [(w.heap.size,fz)] W)=>Awe (x-e) Ln (by omega) (by omega) (by omega) W)
    obtain⟨rq,hrq⟩:∃rq,Rat.divInt (x-e) Ln=rq:=⟨_,rfl⟩
    rw[hrq] at HR b2 HPE2
    have HA:=hI (fun W (_:BX w [(w.heap.size,fz)] W)=>Aq2 (k:=20) (b1.mono (by omega)) (b2.mono (by omega)) (by omega) W)
    obtain⟨sq,hsq⟩:∃sq,p+rq=sq:=⟨_,rfl⟩
    rw[hsq] at HA HPE2
    rw[hp] at HG
    have hg:BX w [(w.heap.size,fz)] wr.drew:=⟨HG.out.1.drew,fun z hz=>HG.out.2 z (Aav _ hz)⟩
    have hko7:wr.drew.heap[w.heap.size+1]?=some (fobj p):=HG.out.get 0 rfl
    unfold fenc at HR HA
    clear HG hp hrq hsq b1 b2 HOY HOC hFk hxb hi1 hi2 hG1e
    go_wp2_with fail
    have mixed:Tryz.prog.follows .mixedOrders=true:=by kernel_rfl
    refine wp_region_any mixed (Arn (RCAJ w e x Ln p rq sq _ _ _ _ _ _ _ _ _ _ _ _ _ _ _ _ _ _ _ _ _ _ _ _ _ _ _ _ _ _ _ _ _ _ _ _ _ _ _ _ _ _ _ _ _ _ _ _ _ _ _ _ _ _ _ _ _ _ _ _ _ _ _ _) ?stRCA ?dnRCA _ _ _ _ ⟨by simp,⟨_,_,_,_,_,_,_,rfl,fun h=>by simp at h,fun h=>by simp at h,fun h=>by simp at h,fun h=>by simp at h,fun h=>by simp at h,fun h=>by simp at h,fun h=>by simp at h,hg,fun _=>hko7,fun h=>by simp at h,fun h=>by simp at h⟩⟩ (by decide))
    case dnRCA =>
     intro L a w' hj hr
     have all:=Aqb hr hj.sz (by kernel_rfl)
     obtain⟨s66,s67,s68,s69,s70,s71,s72,rfl,hv⟩:=hj.fr
     have HF:Hid (BX w [(w.heap.size+1,fobj (yrs x-yrs a)),(w.heap.size,fz)] w'):=by
      show BX _ _ _
      rw[HPE2.out]
      refine⟨hv.bx.1,fun z hz=>?_⟩
      rcases List.mem_cons.1 hz with rfl|hz
      ·exact hv.n7 (all 7 (by omega))
      ·exact hv.bx.2 z hz
     clear all hv hj hr
     go_wp2_with fail
     go_roundw
     case rel=>exact⟨x,rfl,by omega,x2,HF.out⟩
     case measure=>simp[intOf];omega
    case stRCA =>
     intro L a w' hj i hi
     obtain⟨hun,o,ho,hall⟩:=mem_ready.1 hi
     have hoff:=Ap2 hun
     have hlt:=(Aab.1 ho).1
     simp at hlt
     obtain⟨s66,s67,s68,s69,s70,s71,s72,rfl,hv⟩:=hj.fr
     have HV:=hI hv
     have HJ:=hI hj
     clear hv hj
     rcases (show i=0∨i=1∨i=2∨i=3∨i=4∨i=5∨i=6∨i=7 from by omega) with rfl|rfl|rfl|rfl|rfl|rfl|rfl|rfl
     ·simp at ho
      subst ho
      clear hall hi
      have hk7:L.getD 7 false=false:=(Ap7 L 7).resolve_right (fun h=>Ap6 hoff (HV.out.d7_0 h))
      have hk:=HV.out.o7 hk7;have c0:=Aaa hk 0;have c1:=Aaa hk 1
      simp at c0 c1
      refine Ap9 rfl fun K' HK=>?_
      go_simp
      cases HV.out
      refine HK.out _ _ ⟨by simp[HJ.out.sz],⟨_,_,_,_,_,_,_,rfl,fun _=>rfl,?_,?_,?_,?_,?_,?_,HV.out.bx,fun h0=>HV.out.o7 (Ap5 h0),?_,fun h=>Ap3 hun (HV.out.d7_0 (Ap4 h))⟩⟩
      all_goals exact Um (by assumption)
     ·simp at ho
      subst ho
      clear hall hi
      refine Ap9 rfl fun K' HK=>?_
      go_simp
      cases HV.out
      refine HK.out _ _ ⟨by simp[HJ.out.sz],⟨_,_,_,_,_,_,_,rfl,?_,fun _=>rfl,?_,?_,?_,?_,?_,HV.out.bx,fun h0=>HV.out.o7 (Ap5 h0),?_,fun h=>Ap3 hun (HV.out.d7_0 (Ap4 h))⟩⟩
      all_goals exact Um (by assumption)
     ·simp at ho
      subst ho
      clear hall hi
      refine Ap9 rfl fun K' HK=>?_
      go_simp
      cases HV.out
      refine HK.out _ _ ⟨by simp[HJ.out.sz],⟨_,_,_,_,_,_,_,rfl,?_,?_,fun _=>rfl,?_,?_,?_,?_,HV.out.bx,fun h0=>HV.out.o7 (Ap5 h0),?_,fun h=>Ap3 hun (HV.out.d7_0 (Ap4 h))⟩⟩
      all_goals exact Um (by assumption)
     ·simp at ho
      subst ho
      have h1x:L.getD 1 false=true:=hall {on:=1,ground:=Ground.data} (by simp) (by decide)
      have h2x:L.getD 2 false=true:=hall {on:=2,ground:=Ground.data} (by simp) (by decide)
      have H1:=hI h1x
      have H2:=hI h2x
      clear hall hi h1x h2x
      have e0:=HV.out.k1 H1.out
      subst e0
      have e1:=HV.out.k2 H2.out
      subst e1
      refine Ap9 rfl fun K' HK=>?_
      go_simp
      cases HV.out
      refine HK.out _ _ ⟨by simp[HJ.out.sz],⟨_,_,_,_,_,_,_,rfl,?_,?_,?_,fun _=>by rw[show IntKind.i64.wrap (x-e)=x-e from by rw[IntKind.wrap_i64];omega],?_,?_,?_,HV.out.bx,fun h0=>HV.out.o7 (Ap5 h0),?_,fun h=>Ap3 hun (HV.out.d7_0 (Ap4 h))⟩⟩
      all_goals exact Um (by assumption)
     ·simp at ho
      subst ho
      clear hall hi
      refine Ap9 rfl fun K' HK=>?_
      go_simp
      cases HV.out
      refine HK.out _ _ ⟨by simp[HJ.out.sz],⟨_,_,_,_,_,_,_,rfl,?_,?_,?_,?_,fun _=>rfl,?_,?_,HV.out.bx,fun h0=>HV.out.o7 (Ap5 h0),?_,fun h=>Ap3 hun (HV.out.d7_0 (Ap4 h))⟩⟩
      all_goals exact Um (by assumption)
     ·simp at ho
      subst ho
      have h3x:L.getD 3 false=true:=hall {on:=3,ground:=Ground.data} (by simp) (by decide)
      have h4x:L.getD 4 false=true:=hall {on:=4,ground:=Ground.data} (by simp) (by decide)
      have H3:=hI h3x
      have H4:=hI h4x
      clear hall hi h3x h4x
      have e0:=HV.out.k3 H3.out
      subst e0
      have e1:=HV.out.k4 H4.out
      subst e1
      refine Ap9 rfl fun K' HK=>?_
      go_simp
      refine (HR.out _ HV.out.bx).mono ?_
      rintro e wn ⟨rfl,hbn⟩
      cases HV.out
      refine HK.out _ _ ⟨by simp[HJ.out.sz],⟨_,_,_,_,_,_,_,rfl,?_,?_,?_,?_,?_,fun _=>rfl,?_,HV.out.bx.below hbn,fun h=>bkeep hbn (HV.out.o7 (Ap5 h)),fun h=>bkeep hbn (HV.out.n7 (Ap4 h)),fun h=>Ap3 hun (HV.out.d7_0 (Ap4 h))⟩⟩
      all_goals exact Um (by assumption)
     ·simp at ho
      subst ho
      have h0x:L.getD 0 false=true:=hall {on:=0,ground:=Ground.data} (by simp) (by decide)
      have h5x:L.getD 5 false=true:=hall {on:=5,ground:=Ground.data} (by simp) (by decide)
      have H0:=hI h0x
      have H5:=hI h5x
      clear hall hi h0x h5x
      have e0:=HV.out.k0 H0.out
      subst e0
      have e1:=HV.out.k5 H5.out
      subst e1
      refine Ap9 rfl fun K' HK=>?_
      go_simp
      refine (HA.out _ HV.out.bx).mono ?_
      rintro e wn ⟨rfl,hbn⟩
      cases HV.out
      refine HK.out _ _ ⟨by simp[HJ.out.sz],⟨_,_,_,_,_,_,_,rfl,?_,?_,?_,?_,?_,?_,fun _=>rfl,HV.out.bx.below hbn,fun h=>bkeep hbn (HV.out.o7 (Ap5 h)),fun h=>bkeep hbn (HV.out.n7 (Ap4 h)),fun h=>Ap3 hun (HV.out.d7_0 (Ap4 h))⟩⟩
      all_goals exact Um (by assumption)
     ·simp at ho
      subst ho
      have h6x:L.getD 6 false=true:=hall {on:=6,ground:=Ground.data} (by simp) (by decide)
      have h0x:L.getD 0 false=true:=hall {on:=0,ground:=Ground.phase} (by simp) (by decide)
      have H6:=hI h6x
      have H0:=hI h0x
      clear hall hi h6x h0x
      have e0:=HV.out.k6 H6.out
      subst e0
      have hko:=HV.out.o7 hoff
      have m0:=Aaa hko 0;have m1:=Aaa hko 1;have f0:=Aaf hko 0;have f1:=Aaf hko 1
      simp at m0 m1 f0 f1
      refine Ap9 rfl fun K' HK=>?_
      go_simp
      cases HV.out
      refine HK.out _ _ ⟨by simp[HJ.out.sz],⟨_,_,_,_,_,_,_,rfl,?_,?_,?_,?_,?_,?_,?_,HV.out.bx.far (b:=w.heap.size+1) (by omega) (by simp<;>omega) _ _,fun h=>(Ap6 h (Ap0 hun)).elim,fun _=>set2 hko _ _,fun _=>Ap3 hun H0.out⟩⟩
      all_goals exact Um (by assumption)
  ·have hc:decide (e<b)=false:=Aay (by omega)
   obtain rfl:e=b:=by omega
   obtain⟨q,hq⟩:∃q,yrs e-yrs a=q:=⟨_,rfl⟩
   have HQQ:Hid (dcF 5 a e=q):=by show _=_;rw[HQ.out];exact hq
   rw[hq] at HG
   clear HQ hq
   have k0:=HG.out.get 0 rfl
   have k1:=HG.out.get 1 rfl
   have m0:=Aaa k1 0
   have m1:=Aaa k1 1
   have f0:=Aaf k1 0
   have f1:=Aaf k1 1
   have n0:=Aaa k0 0
   have n1:=Aaa k0 1
   simp at m0 m1 f0 f1 n0 n1
   have HK2:=hI k1
   clear k0 k1
   go_wp2_with fail
   refine bodyPost_ret (As6 rfl _ _ (w.heap.size) _ _ (0,0) _ rfl (Go.Proofs.YtcnmoobojdopgaaGreatDoor.set2 HK2.out _ _) Tryz.underlying25 rfl (by kernel_rfl)) rfl ?_
   exact⟨by rw[HQQ.out];rfl,Ah0 (Aad _) HG.out.1 _ _⟩
end Go.Proofs.YtcnmoobojdopgaaGreatDoor
