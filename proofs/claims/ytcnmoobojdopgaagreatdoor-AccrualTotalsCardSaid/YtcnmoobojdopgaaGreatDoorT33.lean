/-
  The walks of trancheref06.Leap,Length,Parts,digits.
-/
import Derived.Test.YtcnmoobojdopgaaGreatDoorT19
import Derived.Lib.SlBytesRow
set_option linter.unusedVariables false
set_option linter.unusedSimpArgs false
set_option maxHeartbeats 16000000
set_option maxRecDepth 100000
namespace Go.Proofs.YtcnmoobojdopgaaGreatDoor
open Go.RowKit Tr Go.Shelf
theorem Av3(y:Int)(h0:0≤y)(h1:y≤100000)(w:World):
 Calls Tryz.prog 318 #[.int .i64 y] w fun e w'=>e=.returned (.bool (leapB y))∧w=w':=by
 have e4:y.tmod 4=y % 4:=Int.tmod_eq_emod_of_nonneg h0
 have e100:y.tmod 100=y % 100:=Int.tmod_eq_emod_of_nonneg h0
 have e400:y.tmod 400=y % 400:=Int.tmod_eq_emod_of_nonneg h0
 go_enter Tryz.func318,Tryz.ntmps318
 go_wp2_with fail
 all_goals (go_ret;refine⟨?_,rfl⟩;first|(simp[leapB, *];done)|(simp[leapB, *];omega))
theorem Av4(y:Int)(m:Nat)(h0:0≤y)(h1:y≤100000)(m0:1≤m)(m1:m≤12)(w:World):
 Calls Tryz.prog 288 #[.int .i64 y,.int .i64 (m:Int)] w fun e w'=>e=.returned (.int .i64 (lenB (leapB y) m))∧w=w':=by
 have HL:=Aac (fun W=>Av3 y h0 h1 W)
 by_cases h2:m=2
 ·subst h2
  rw[show ((2:Nat):Int)=2 from rfl]
  go_enter Tryz.func288,Tryz.ntmps288
  go_wp2_with fail
  refine (HL.out _).mono ?_
  rintro e w1 ⟨rfl,rfl⟩
  cases hl:leapB y
  all_goals (go_wp2_with fail;go_ret;exact⟨by rw[hl];rfl,rfl⟩)
 ·obtain rfl|rfl|rfl|rfl|rfl|rfl|rfl|rfl|rfl|rfl|rfl:m=1∨m=3∨m=4∨m=5∨m=6∨m=7∨m=8∨m=9∨m=10∨m=11∨m=12:=by omega
  ·rw[show ((1:Nat):Int)=1 from rfl]
   go_enter Tryz.func288,Tryz.ntmps288
   go_wp2_with fail
   go_ret
   exact⟨by cases leapB y<;>rfl,rfl⟩
  ·rw[show ((3:Nat):Int)=3 from rfl]
   go_enter Tryz.func288,Tryz.ntmps288
   go_wp2_with fail
   go_ret
   exact⟨by cases leapB y<;>rfl,rfl⟩
  ·rw[show ((4:Nat):Int)=4 from rfl]
   go_enter Tryz.func288,Tryz.ntmps288
   go_wp2_with fail
   go_ret
   exact⟨by cases leapB y<;>rfl,rfl⟩
  ·rw[show ((5:Nat):Int)=5 from rfl]
   go_enter Tryz.func288,Tryz.ntmps288
   go_wp2_with fail
   go_ret
   exact⟨by cases leapB y<;>rfl,rfl⟩
  ·rw[show ((6:Nat):Int)=6 from rfl]
   go_enter Tryz.func288,Tryz.ntmps288
   go_wp2_with fail
   go_ret
   exact⟨by cases leapB y<;>rfl,rfl⟩
  ·rw[show ((7:Nat):Int)=7 from rfl]
   go_enter Tryz.func288,Tryz.ntmps288
   go_wp2_with fail
   go_ret
   exact⟨by cases leapB y<;>rfl,rfl⟩
  ·rw[show ((8:Nat):Int)=8 from rfl]
   go_enter Tryz.func288,Tryz.ntmps288
   go_wp2_with fail
   go_ret
   exact⟨by cases leapB y<;>rfl,rfl⟩
  ·rw[show ((9:Nat):Int)=9 from rfl]
   go_enter Tryz.func288,Tryz.ntmps288
   go_wp2_with fail
   go_ret
   exact⟨by cases leapB y<;>rfl,rfl⟩
  ·rw[show ((10:Nat):Int)=10 from rfl]
   go_enter Tryz.func288,Tryz.ntmps288
   go_wp2_with fail
   go_ret
   exact⟨by cases leapB y<;>rfl,rfl⟩
  ·rw[show ((11:Nat):Int)=11 from rfl]
   go_enter Tryz.func288,Tryz.ntmps288
   go_wp2_with fail
   go_ret
   exact⟨by cases leapB y<;>rfl,rfl⟩
  ·rw[show ((12:Nat):Int)=12 from rfl]
   go_enter Tryz.func288,Tryz.ntmps288
   go_wp2_with fail
   go_ret
   exact⟨by cases leapB y<;>rfl,rfl⟩
def Av5(d:Int)(w:World)(e:Ending)(w':World):Prop:=∃(y:Int) (m:Nat) (dd:Int),e=.returned (.tuple #[.int .i64 y,.int .i64 (m:Int),.int .i64 dd,.int .i64 0])∧VDate y m dd∧dayOf y m dd=d∧w=w'
theorem Av6(d:Int)(hd:okDay d)(w:World):
 Calls Tryz.prog 286 #[.int .i64 d] w (Av5 d w):=by
 have H:=Aac (fun W=>Ak7 d hd W)
 have HLP:=Aac (fun (y:Int) (h0:1900≤y) (h1:y≤2200) W=>Av3 y (by omega) (by omega) W)
 have HLN:=Aac (fun (y:Int) (h0:1900≤y) (h1:y≤2200) (m:Nat) (m0:1≤m) (m1:m≤12) W=>Av4 y m (by omega) (by omega) m0 m1 W)
 unfold okDay at hd
 go_enter Tryz.func286,Tryz.ntmps286
 go_wp2_with fail
 refine (H.out _).mono ?_
 rintro e w1 ⟨rfl,rfl⟩
 go_wp2_with fail
 go_loop [6,7,9] (fun v6 v7 _=>∃y:Int,v6=.int .i64 (d+25567-bg y)∧v7=.int .i64 y∧1900≤y∧y≤2199∧bg y≤d+25567) (fun _ v7 _=>2200-(intOf v7).toNat)
 case atStart=>exact⟨1900,by rw[show bg 1900=0 from by decide];congr 1;omega,rfl,by omega,by omega,by rw[show bg 1900=0 from by decide];omega⟩
 case round =>
  obtain⟨y,rfl,rfl,y0,y1,hb⟩:=hrel
  have hbg:=bg_bd y0 (by omega)
  have hsu:=Ai2 y
  have hbg2:=bg_bd (y:=y+1) (by omega) (by omega)
  have HB:=Aac hb
  go_wp2_with fail
  refine (HLP.out y y0 (by omega) _).mono ?_
  rintro e w2 ⟨rfl,rfl⟩
  cases hl:leapB y
  ·rw [hl] at hsu
   replace hsu:bg (y+1)=bg y+365:=hsu
   rcases Int.lt_or_le (d+25567) (bg (y+1)) with hc|hc
   ·have hcx:decide (d+25567-bg y<365)=true:=Aax (by omega)
    have hcc:d+25567-bg y<cumB (leapB y) 12:=by rw[cum12,hl];show _<(365:Int);omega
    clear hl hsu hc hbg2
    go_wp2_with fail
    go_loop [6,8] (fun v6 v8=>∃k:Nat,v8=.int .i64 (k:Int)∧v6=.int .i64 (d+25567-bg y-cumB (leapB y) (k-1))∧1≤k∧k≤12∧0≤d+25567-bg y-cumB (leapB y) (k-1)) (fun _ v8=>13-(intOf v8).toNat)
    case atStart=>exact⟨1,rfl,by simp[cumB],by omega,by omega,by simp[cumB];omega⟩
    case round =>
     clear hcx
     obtain⟨k,rfl,rfl,k0,k1,hn⟩:=hrel
     have hst:=Ajc (leapB y) k0
     have hlk:=Ai4 (leapB y) k
     have hcb:=Ajd (leapB y) (m:=k-1) (by omega)
     have hcb2:=Ai3 (leapB y) (m:=k) (k:=12) k1
     go_wp2_with fail
     refine (HLN.out y y0 (by omega) k k0 k1 _).mono ?_
     rintro e w4 ⟨rfl,rfl⟩
     by_cases hl:lenB (leapB y) k≤d+25567-bg y-cumB (leapB y) (k-1)
     ·have hl':decide (d+25567-bg y-cumB (leapB y) (k-1)≥lenB (leapB y) k)=true:=Aax hl
      have hk12:k≤11:=by
       rcases Aam k 12 with h|h
       ·omega
       ·have:k=12:=by omega
        subst this;omega
      go_wp2_with fail
      refine (HLN.out y y0 (by omega) k k0 k1 _).mono ?_
      rintro e w5 ⟨rfl,rfl⟩
      go_wp2_with fail
      refine⟨⟨k+1,by simp,?_,by omega,by omega,?_⟩,by simp[intOf];omega⟩
      ·rw[show k+1-1=k from rfl,hst];congr 1;omega
      ·rw[show k+1-1=k from rfl,hst];omega
     ·have hl':decide (d+25567-bg y-cumB (leapB y) (k-1)≥lenB (leapB y) k)=false:=Aay hl
      go_wp2_with fail
      refine bodyPost_ret (v:=.tuple #[.int .i64 y,.int .i64 (k:Int),.int .i64 (d+25567-bg y-cumB (leapB y) (k-1)+1),.int .i64 0]) (by simp[results,Tryz.results286,go_sem]) rfl ?_
      refine⟨y,k,_,rfl,⟨y0,y1,k0,k1,by omega,by omega⟩,by unfold dayOf;omega,rfl⟩
   ·have hcx:decide (d+25567-bg y<365)=false:=Aay (by omega)
    have hy2:y+1≤2199:=by
     rcases Int.lt_or_le (y+1) 2200 with h|h
     ·omega
     ·have:=Ai6 h
      rw[show bg 2200=109573 from by decide] at this
      omega
    clear hl hbg2
    go_wp2_with fail
    refine⟨⟨y+1,by congr 1;omega,rfl,by omega,hy2,hc⟩,by simp[intOf];omega⟩
  ·rw [hl] at hsu
   replace hsu:bg (y+1)=bg y+366:=hsu
   rcases Int.lt_or_le (d+25567) (bg (y+1)) with hc|hc
   ·have hcx:decide (d+25567-bg y<366)=true:=Aax (by omega)
    have hcc:d+25567-bg y<cumB (leapB y) 12:=by rw[cum12,hl];show _<(366:Int);omega
    clear hl hsu hc hbg2
    go_wp2_with fail
    go_loop [6,8] (fun v6 v8=>∃k:Nat,v8=.int .i64 (k:Int)∧v6=.int .i64 (d+25567-bg y-cumB (leapB y) (k-1))∧1≤k∧k≤12∧0≤d+25567-bg y-cumB (leapB y) (k-1)) (fun _ v8=>13-(intOf v8).toNat)
    case atStart=>exact⟨1,rfl,by simp[cumB],by omega,by omega,by simp[cumB];omega⟩
    case round =>
     clear hcx
     obtain⟨k,rfl,rfl,k0,k1,hn⟩:=hrel
     have hst:=Ajc (leapB y) k0
     have hlk:=Ai4 (leapB y) k
     have hcb:=Ajd (leapB y) (m:=k-1) (by omega)
     have hcb2:=Ai3 (leapB y) (m:=k) (k:=12) k1
     go_wp2_with fail
     refine (HLN.out y y0 (by omega) k k0 k1 _).mono ?_
     rintro e w4 ⟨rfl,rfl⟩
     by_cases hl:lenB (leapB y) k≤d+25567-bg y-cumB (leapB y) (k-1)
     ·have hl':decide (d+25567-bg y-cumB (leapB y) (k-1)≥lenB (leapB y) k)=true:=Aax hl
      have hk12:k≤11:=by
       rcases Aam k 12 with h|h
       ·omega
       ·have:k=12:=by omega
        subst this;omega
      go_wp2_with fail
      refine (HLN.out y y0 (by omega) k k0 k1 _).mono ?_
      rintro e w5 ⟨rfl,rfl⟩
      go_wp2_with fail
      refine⟨⟨k+1,by simp,?_,by omega,by omega,?_⟩,by simp[intOf];omega⟩
      ·rw[show k+1-1=k from rfl,hst];congr 1;omega
      ·rw[show k+1-1=k from rfl,hst];omega
     ·have hl':decide (d+25567-bg y-cumB (leapB y) (k-1)≥lenB (leapB y) k)=false:=Aay hl
      go_wp2_with fail
      refine bodyPost_ret (v:=.tuple #[.int .i64 y,.int .i64 (k:Int),.int .i64 (d+25567-bg y-cumB (leapB y) (k-1)+1),.int .i64 0]) (by simp[results,Tryz.results286,go_sem]) rfl ?_
      refine⟨y,k,_,rfl,⟨y0,y1,k0,k1,by omega,by omega⟩,by unfold dayOf;omega,rfl⟩
   ·have hcx:decide (d+25567-bg y<366)=false:=Aay (by omega)
    have hy2:y+1≤2199:=by
     rcases Int.lt_or_le (y+1) 2200 with h|h
     ·omega
     ·have:=Ai6 h
      rw[show bg 2200=109573 from by decide] at this
      omega
    clear hl hbg2
    go_wp2_with fail
    refine⟨⟨y+1,by congr 1;omega,rfl,by omega,hy2,hc⟩,by simp[intOf];omega⟩
theorem dval_append(a b:List UInt8):dval (a++b)=dval a*10^b.length+dval b:=by
 induction a with
 | nil=>simp[dval_nil]
 | cons c a ih=>rw[List.cons_append,Ab4,Ab4,ih,Aan,Nat.pow_add,Nat.add_mul,Nat.mul_assoc];omega
end Go.Proofs.YtcnmoobojdopgaaGreatDoor
