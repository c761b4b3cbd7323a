/-
  The walks of trancheref06.Of,AddMonths.
-/
import Derived.Test.YteennkgpeiafaaaGreatDoorG28
import Derived.Test.YteennkgpeiafaaaGreatDoorG36
set_option linter.unusedVariables false
set_option linter.unusedSimpArgs false
set_option maxHeartbeats 16000000
set_option maxRecDepth 100000
namespace Go.Proofs.YteennkgpeiafaaaGreatDoor
open Go.RowKit Tr Go.Shelf
theorem Ar8(y:Int)(m:Nat)(d:Int)(hv:VDate y m d)(w:World):
 Calls Tryz.prog 220 #[.int .i64 y,.int .i64 (m:Int),.int .i64 d] w fun e w'=>e=.returned (.tuple #[.int .i64 (dayOf y m d),.int .i64 0])∧w=w':=by
 obtain⟨y0,y1,m0,m1,d0,d1⟩:=hv
 have HLN:=hI (fun (k:Nat) (k0:1≤k) (k1:k≤12) W=>Anm y k (by omega) (by omega) k0 k1 W)
 have HLP:=hI (fun (z:Int) (h0:1900≤z) (h1:z≤2200) W=>Ank z (by omega) (by omega) W)
 have c1:decide (y<1900)=false:=Aaz (by omega)
 have c2:decide (y > 2199)=false:=Aaz (by omega)
 have c3:decide ((m:Int)<1)=false:=Aaz (by omega)
 have c4:decide ((m:Int) > 12)=false:=Aaz (by omega)
 have c5:decide (d<1)=false:=Aaz (by omega)
 have c2':decide (2199<y)=false:=Aaz (by omega)
 have c4':decide (12<(m:Int))=false:=Aaz (by omega)
 have c6:decide (d > lenB (leapB y) m)=false:=Aaz (by omega)
 have c6':decide (lenB (leapB y) m<d)=false:=Aaz (by omega)
 have hll:=(Ahv (leapB y) m).2
 have hd31:d≤31:=by omega
 go_enter Tryz.func220,Tryz.ntmps220
 go_wp2_with fail
 refine (HLN.out m m0 m1 _).mono ?_
 rintro e w1 ⟨rfl,rfl⟩
 go_wp2_with fail
 clear c1 c2 c3 c4 c5 c2' c4' c6 c6'
 go_loop [8,9] (fun v8 v9=>∃z:Int,v9=.int .i64 z∧v8=.int .i64 (-25567+d-1+bg z)∧1900≤z∧z≤y) (fun _ v9=>2200-(intOf v9).toNat)
 case atStart=>exact⟨1900,rfl,by rw[show bg 1900=0 from by decide,Int.add_zero],by omega,y0⟩
 case round =>
  obtain⟨z,rfl,rfl,z0,z1⟩:=hrel
  have hbg:=bg_bd z0 (by omega)
  have hsu:=Aht z
  have hbg2:=bg_bd (y:=z+1) (by omega) (by omega)
  rcases Int.lt_or_le z y with hlt|hge
  ·have hcx:decide (z<y)=true:=Aay hlt
   clear hll
   go_wp2_with fail
   refine (HLP.out z z0 (by omega) _).mono ?_
   rintro e w2 ⟨rfl,rfl⟩
   cases hl:leapB z
   ·rw[hl] at hsu
    replace hsu:bg (z+1)=bg z+365:=hsu
    clear hl
    go_wp2_with fail
    refine⟨⟨z+1,rfl,by congr 1;omega,by omega,by omega⟩,by simp[intOf];omega⟩
   ·rw[hl] at hsu
    replace hsu:bg (z+1)=bg z+366:=hsu
    clear hl
    go_wp2_with fail
    refine⟨⟨z+1,rfl,by congr 1;omega,by omega,by omega⟩,by simp[intOf];omega⟩
  ·have hzy:z=y:=by omega
   subst hzy
   have hcx:decide (z<z)=false:=Aaz (by omega)
   clear hsu hbg2 hge
   go_wp2_with fail
   clear hcx
   go_loop [8,10] (fun v8 v10=>∃k:Nat,v10=.int .i64 (k:Int)∧v8=.int .i64 (-25567+d-1+bg z+cumB (leapB z) (k-1))∧1≤k∧k≤m) (fun _ v10=>13-(intOf v10).toNat)
   case atStart=>exact⟨1,rfl,by simp[cumB],by omega,m0⟩
   case round =>
    obtain⟨k,rfl,rfl,k0,k1⟩:=hrel
    have hcb:=Ah4 (leapB z) (m:=k-1) (by omega)
    have hst:=Ah3 (leapB z) k0
    have hlk:=Ahv (leapB z) k
    rcases Aam k m with hlt|hge
    ·have hcx:decide ((k:Int)<(m:Int))=true:=by simp;omega
     clear hll
     go_wp2_with fail
     refine (HLN.out k k0 (by omega) _).mono ?_
     rintro e w2 ⟨rfl,rfl⟩
     go_wp2_with fail
     refine⟨⟨k+1,by simp,?_,by omega,by omega⟩,by simp[intOf];omega⟩
     rw[show k+1-1=k from rfl,hst];congr 1;omega
    ·have hkm:k=m:=by omega
     subst hkm
     have hcx:decide ((k:Int)<(k:Int))=false:=by simp
     clear hge hst
     go_wp2_with fail
     refine bodyPost_ret (v:=.tuple #[.int .i64 (-25567+d-1+bg z+cumB (leapB z) (k-1)),.int .i64 0]) (by simp[results,Tryz.results220,go_sem]) rfl ?_
     exact⟨by unfold dayOf;congr 3;congr 2;omega,rfl⟩
theorem Ar9(w:World):Calls Tryz.prog 220 #[.int .i64 2200,.int .i64 1,.int .i64 1] w fun e w'=>e=.returned (.tuple #[.int .i64 0,.int .i64 13])∧w=w':=by
 go_enter Tryz.func220,Tryz.ntmps220
 go_wp2_with fail
 refine bodyPost_ret (v:=.tuple #[.int .i64 0,.int .i64 13]) (by simp[results,Tryz.results220,go_sem]) rfl ?_
 exact⟨rfl,rfl⟩
theorem Asa(d n:Int)(hd:okDay d)(hn0:-100000000≤n)(hn1:n≤100000000)(w:World):
 Calls Tryz.prog 195 #[.int .i64 d,.int .i64 n] w fun e w'=>e=.returned (.tuple #[.int .i64 (addX d n),.int .i64 (addC d n)])∧w=w':=by
 have HP:=hI (Anp d hd w)
 have HLN:=hI (fun (K:Int) (h0:22800≤K) (h1:K<26400) W=>Anm (kY K) (kM K) (by unfold kY;omega) (by unfold kY;omega) (kM_bd K).1 (kM_bd K).2 W)
 have HOF:=hI (fun (K dd:Int) (hv:VDate (kY K) (kM K) (min dd (kL K))) W=>Ar8 (kY K) (kM K) (min dd (kL K)) hv W)
 clear hd
 go_enter Tryz.func195,Tryz.ntmps195
 go_wp2_with fail
 refine HP.out.mono ?_
 rintro e w1 ⟨y,m,dd,rfl,hv,hdy,rfl⟩
 by_cases hr:-4800≤n∧n≤4800
 case neg =>
  have HE:Hid (addX d n=0∧addC d n=2):=by
   have h:=Arq (d:=d) hr
   unfold addX addC
   rw[h]
   simp only
   rw[if_neg hr]
   exact⟨rfl,rfl⟩
  rcases Int.lt_or_le n (-4800) with h|h
  ·have c1:decide (n < -4800)=true:=Aay h
   clear hr h hv hdy
   go_wp2_with fail
   refine bodyPost_ret (v:=.tuple #[.int .i64 0,.int .i64 2]) (by simp[results,Tryz.results195,go_sem]) rfl ?_
   exact⟨by rw[HE.out.1,HE.out.2],rfl⟩
  ·have c1:decide (n < -4800)=false:=Aaz (by omega)
   have c2:decide (n > 4800)=true:=Aay (by omega)
   have c2':decide (4800<n)=true:=Aay (by omega)
   clear hr h hv hdy
   go_wp2_with fail
   refine bodyPost_ret (v:=.tuple #[.int .i64 0,.int .i64 2]) (by simp[results,Tryz.results195,go_sem]) rfl ?_
   exact⟨by rw[HE.out.1,HE.out.2],rfl⟩
 obtain⟨h0,h1⟩:=hr
 have c1:decide (n < -4800)=false:=Aaz (by omega)
 have c2:decide (n > 4800)=false:=Aaz (by omega)
 have c2':decide (4800<n)=false:=Aaz (by omega)
 obtain⟨K,hK⟩:∃K,12*y+(m:Int)-1+n=K:=⟨_,rfl⟩
 have HE:=hI (Ajg hv hdy h0 h1 hK)
 have HR:=hI (And.intro h0 h1)
 obtain⟨v1,v2,v3,v4,v5,v6⟩:=hv
 have hkp:18000≤K:=by omega
 have hku:K≤40000:=by omega
 have hq:K.tdiv 12=kY K:=by rw[Int.tdiv_eq_ediv_of_nonneg (by omega)];rfl
 have hq2:K.tmod 12=K % 12:=Int.tmod_eq_emod_of_nonneg (by omega)
 have hrr:K % 12+1=(kM K:Int):=by unfold kM;omega
 have hy0:1500≤kY K:=by unfold kY;omega
 have hy9:kY K≤3400:=by unfold kY;omega
 by_cases hc:22800≤K∧K<26400
 ·have hy1:decide (K<22800)=false:=Aaz (by omega)
  have hy2:decide (K≥26400)=false:=Aaz (by omega)
  have hy3:decide (26400≤K)=false:=Aaz (by omega)
  have HV:=hI (Aiy (k:=K) v5 hc.1 hc.2)
  have HD:=hI (Air K dd)
  have HLL:=hI (HLN.out K hc.1 hc.2)
  have HO:=hI (HOF.out K dd HV.out)
  rw[if_pos hc] at HE
  clear hc HOF HLN HV
  go_wp2_with fail
  refine (HLL.out _).mono ?_
  rintro e w2 ⟨rfl,rfl⟩
  go_wp2_with fail
  refine (HO.out _).mono ?_
  rintro e w3 ⟨rfl,rfl⟩
  obtain⟨r,hr⟩:∃r,dayOf (kY K) (kM K) (min dd (kL K))=r:=⟨_,rfl⟩
  have HRR:Hid (addX d n=r∧addC d n=0):=by rw[←hr,←HD.out];exact Arn HE.out
  rw[hr]
  clear hr
  go_wp2_with fail
  refine bodyPost_ret (v:=.tuple #[.int .i64 r,.int .i64 0]) (by simp[results,Tryz.results195,go_sem]) rfl ?_
  exact⟨by rw[HRR.out.1,HRR.out.2],rfl⟩
 ·have HN:Hid (addX d n=0∧addC d n=13):=by
   have h:=HE.out
   rw[if_neg hc] at h
   unfold addX addC
   rw[h]
   simp only
   rw[if_pos HR.out]
   exact⟨rfl,rfl⟩
  have hx:decide (K<22800)=true∨(decide (K<22800)=false∧decide (K≥26400)=true∧decide (26400≤K)=true):=by
   rcases Int.lt_or_le K 22800 with h|h
   ·exact .inl (Aay h)
   ·exact .inr ⟨Aaz (by omega),Aay (by omega),Aay (by omega)⟩
  clear hc HOF HLN HE
  rcases hx with hx|⟨hx,hx2,hx3⟩
  all_goals
   go_wp2_with fail
   refine bodyPost_ret (v:=.tuple #[.int .i64 0,.int .i64 13]) (by simp[results,Tryz.results195,go_sem]) rfl ?_
   exact⟨by rw[HN.out.1,HN.out.2],rfl⟩
end Go.Proofs.YteennkgpeiafaaaGreatDoor
