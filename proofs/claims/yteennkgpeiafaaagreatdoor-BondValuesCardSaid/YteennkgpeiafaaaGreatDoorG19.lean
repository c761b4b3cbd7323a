/-
  Fractions: Of,Parts,Check.
-/
import Derived.Test.YteennkgpeiafaaaGreatDoorG18
import Derived.Test.YteennkgpeiafaaaGreatDoorG16
set_option linter.unusedVariables false
set_option linter.unusedSimpArgs false
set_option maxHeartbeats 16000000
set_option maxRecDepth 100000
namespace Go.Proofs.YteennkgpeiafaaaGreatDoor
open Go.RowKit Tr Go.Shelf
theorem Ahq(a:Int):Rat.divInt a 1=(a:Rat):=Rat.num_divInt_den (a:Rat)
theorem fOf_any(a:ByteArray)(w:World)(s1:a.size≤3000000)(ht:Tabs w):
 Calls Tryz.prog 49 #[.string a] w fun e w'=>e=.returned (fenc (vl a:Rat))∧Below w.heap.size w w':=by
 have HB:=Lib.hid ((Below.refl _ w).alloc (Nat.le_refl _) (Obj.cells #[.string ⟨#[]⟩,.string ⟨#[]⟩] 25))
 have HR:=Lib.hid (Ag3 a one1 _ s1 (by show 1≤_;omega) (by rw[one1_eq,vl_I];omega) (ht.below HB.out))
 rw[one1_eq,vl_I,Ahq,←one1_eq] at HR
 obtain⟨W0,hW0⟩:∃W0,w.alloc (Obj.cells #[.string ⟨#[]⟩,.string ⟨#[]⟩] 25)=W0:=⟨_,rfl⟩
 have hk:W0.heap[w.heap.size]?=some (Obj.cells #[.string ⟨#[]⟩,.string ⟨#[]⟩] 25):=by rw[←hW0];exact heap_alloc_new w _
 have hs:W0.heap.size=w.heap.size+1:=by rw[←hW0];simp
 rw[hW0] at HB HR
 generalize hq:(vl a:Rat)=q at HR ⊢
 clear ht hq
 unfold one1 at HR
 go_enter Tryz.func49,Tryz.ntmps49
 go_wp2_with fail
 refine HR.out.mono ?_
 rintro e w1 ⟨rfl,B1⟩
 unfold fenc
 clear HR
 have k1:=(B1.block w.heap.size (by omega)).trans hk
 have a0:=Lib.cell_of_heap k1 0
 have a1:=Lib.cell_of_heap k1 1
 simp at a0 a1
 have f0:=Lib.frozen_of_heap k1 0
 have f1:=Lib.frozen_of_heap k1 1
 have HB1:=Lib.hid (HB.out.trans (B1.mono HB.out.size))
 have K1:=Lib.hid k1
 clear B1 HB hk hs k1
 go_wp2_with fail
 have k2:=set2 K1.out (.string (I q.num)) (.string (dn q))
 have m0:=Lib.cell_of_heap k2 0
 have m1:=Lib.cell_of_heap k2 1
 simp at m0 m1
 refine bodyPost_ret (v:=.agg #[.string (I q.num),.string (dn q)]) (by simp[results,Tryz.results49,go_sem,m0,m1]) rfl ?_
 exact⟨rfl,(HB1.out.setCell (p:=⟨w.heap.size,0,none⟩) (Nat.le_refl _) _).setCell (p:=⟨w.heap.size,1,none⟩) (Nat.le_refl _) _⟩
def CanQ(n d:ByteArray):Prop:=n=I (fv n d).num∧d=dn (fv n d)
theorem Ahr(n d:ByteArray)(w:World)(s1:n.size≤2000000)(s2:d.size≤2000000)(hc:CanQ n d)(ht:Tabs w):
 Calls Tryz.prog 20 #[.agg #[.string n,.string d]] w fun e w'=>e=.returned (.int .i64 0)∧Below w.heap.size w w':=by
 have HB:=Lib.hid ((Below.refl _ w).alloc (Nat.le_refl _) (Obj.cells #[.string n,.string d] 25))
 obtain⟨W0,hW0⟩:∃W0,w.alloc (Obj.cells #[.string n,.string d] 25)=W0:=⟨_,rfl⟩
 have hk:W0.heap[w.heap.size]?=some (Obj.cells #[.string n,.string d] 25):=by rw[←hW0];exact heap_alloc_new w _
 rw[hW0] at HB
 have b0:=Lib.cell_of_heap hk 0
 have b1:=Lib.cell_of_heap hk 1
 simp at b0 b1
 have HT:=Lib.hid ht
 have HC:=Lib.hid hc
 have hdd:=Agv d
 clear ht hk hc
 go_enter Tryz.func20,Tryz.ntmps20
 go_wp2_with fail
 go_region_held3 (fun W=>W.cell? ⟨w.heap.size,0,none⟩=some (.string n)∧W.cell? ⟨w.heap.size,1,none⟩=some (.string d))
  (refine⟨?_,?_⟩<;>first|assumption|(go_simp;done))
  (first
    | (go_at_call 80;refine (Ag4 n d W0.drew (by omega)).mono ?_;rintro e w1 ⟨rfl,hb1⟩;have c0:=keepc b0 hb1;have c1:=keepc b1 hb1;have HB1:=Lib.hid (HB.out.drew.trans (hb1.mono HB.out.size));clear hb1)
    | (go_at_call 79;refine (Ag3 n (dd d) w1 (by omega) (by omega) (dd_ne d) (HT.out.below HB1.out)).mono ?_;rintro e w2 ⟨rfl,hb2⟩;rw[show Rat.divInt (vl n) (vl (dd d))=fv n d from rfl];unfold fenc;rw[←HC.out.1,←HC.out.2];have d0:=keepc c0 hb2;have d1:=keepc c1 hb2;have HB2:=Lib.hid (HB1.out.trans (hb2.mono HB1.out.size));clear hb2))
 go_wp2_with fail
 go_ret
 exact⟨rfl,HB2.out⟩
theorem Ahs(n d:ByteArray)(w:World)(s1:n.size≤2000000)(s2:d.size≤2000000)(hc:¬CanQ n d)(ht:Tabs w):
 Calls Tryz.prog 20 #[.agg #[.string n,.string d]] w fun e w'=>e=.returned (.int .i64 1)∧Below w.heap.size w w':=by
 have HB:=Lib.hid ((Below.refl _ w).alloc (Nat.le_refl _) (Obj.cells #[.string n,.string d] 25))
 obtain⟨W0,hW0⟩:∃W0,w.alloc (Obj.cells #[.string n,.string d] 25)=W0:=⟨_,rfl⟩
 have hk:W0.heap[w.heap.size]?=some (Obj.cells #[.string n,.string d] 25):=by rw[←hW0];exact heap_alloc_new w _
 rw[hW0] at HB
 have b0:=Lib.cell_of_heap hk 0
 have b1:=Lib.cell_of_heap hk 1
 simp at b0 b1
 have HT:=Lib.hid ht
 have HC:Hid (¬(n=I (fv n d).num∧d=dn (fv n d))):=hc
 have hdd:=Agv d
 clear ht hk hc
 by_cases hn:n=I (fv n d).num
 ·have hd':(d.toList==(dn (fv n d)).toList)=false:=Adb (fun e=>HC.out ⟨hn,e⟩)
  have hn':(n.toList==(I (fv n d).num).toList)=true:=by rw[←hn];simp
  clear hn HC
  go_enter Tryz.func20,Tryz.ntmps20
  go_wp2_with fail
  go_region_held3 (fun W=>W.cell? ⟨w.heap.size,0,none⟩=some (.string n)∧W.cell? ⟨w.heap.size,1,none⟩=some (.string d))
   (refine⟨?_,?_⟩<;>first|assumption|(go_simp;done))
   (first
     | (go_at_call 80;refine (Ag4 n d W0.drew (by omega)).mono ?_;rintro e w1 ⟨rfl,hb1⟩;have c0:=keepc b0 hb1;have c1:=keepc b1 hb1;have HB1:=Lib.hid (HB.out.drew.trans (hb1.mono HB.out.size));clear hb1)
     | (go_at_call 79;refine (Ag3 n (dd d) w1 (by omega) (by omega) (dd_ne d) (HT.out.below HB1.out)).mono ?_;rintro e w2 ⟨rfl,hb2⟩;rw[show Rat.divInt (vl n) (vl (dd d))=fv n d from rfl];unfold fenc;have d0:=keepc c0 hb2;have d1:=keepc c1 hb2;have HB2:=Lib.hid (HB1.out.trans (hb2.mono HB1.out.size));clear hb2))
  go_wp2_with fail
  go_ret
  exact⟨rfl,HB2.out⟩
 ·have hn':(n.toList==(I (fv n d).num).toList)=false:=Adb hn
  clear hn HC
  by_cases hd:d=dn (fv n d)
  ·have hd':(d.toList==(dn (fv n d)).toList)=true:=by rw[←hd];simp
   clear hd
   go_enter Tryz.func20,Tryz.ntmps20
   go_wp2_with fail
   go_region_held3 (fun W=>W.cell? ⟨w.heap.size,0,none⟩=some (.string n)∧W.cell? ⟨w.heap.size,1,none⟩=some (.string d))
    (refine⟨?_,?_⟩<;>first|assumption|(go_simp;done))
    (first
      | (go_at_call 80;refine (Ag4 n d W0.drew (by omega)).mono ?_;rintro e w1 ⟨rfl,hb1⟩;have c0:=keepc b0 hb1;have c1:=keepc b1 hb1;have HB1:=Lib.hid (HB.out.drew.trans (hb1.mono HB.out.size));clear hb1)
      | (go_at_call 79;refine (Ag3 n (dd d) w1 (by omega) (by omega) (dd_ne d) (HT.out.below HB1.out)).mono ?_;rintro e w2 ⟨rfl,hb2⟩;rw[show Rat.divInt (vl n) (vl (dd d))=fv n d from rfl];unfold fenc;have d0:=keepc c0 hb2;have d1:=keepc c1 hb2;have HB2:=Lib.hid (HB1.out.trans (hb2.mono HB1.out.size));clear hb2))
   go_wp2_with fail
   go_ret
   exact⟨rfl,HB2.out⟩
  ·have hd':(d.toList==(dn (fv n d)).toList)=false:=Adb hd
   clear hd
   go_enter Tryz.func20,Tryz.ntmps20
   go_wp2_with fail
   go_region_held3 (fun W=>W.cell? ⟨w.heap.size,0,none⟩=some (.string n)∧W.cell? ⟨w.heap.size,1,none⟩=some (.string d))
    (refine⟨?_,?_⟩<;>first|assumption|(go_simp;done))
    (first
      | (go_at_call 80;refine (Ag4 n d W0.drew (by omega)).mono ?_;rintro e w1 ⟨rfl,hb1⟩;have c0:=keepc b0 hb1;have c1:=keepc b1 hb1;have HB1:=Lib.hid (HB.out.drew.trans (hb1.mono HB.out.size));clear hb1)
      | (go_at_call 79;refine (Ag3 n (dd d) w1 (by omega) (by omega) (dd_ne d) (HT.out.below HB1.out)).mono ?_;rintro e w2 ⟨rfl,hb2⟩;rw[show Rat.divInt (vl n) (vl (dd d))=fv n d from rfl];unfold fenc;have d0:=keepc c0 hb2;have d1:=keepc c1 hb2;have HB2:=Lib.hid (HB1.out.trans (hb2.mono HB1.out.size));clear hb2))
   go_wp2_with fail
   go_ret
   exact⟨rfl,HB2.out⟩
end Go.Proofs.YteennkgpeiafaaaGreatDoor
namespace Tr
def leapB(y:Int):Bool:=(y % 4==0&&y % 100 != 0)||y % 400==0
def lenB(lp:Bool)(m:Nat):Int:=if m=2 then (if lp then 29 else 28) else if m=4∨m=6∨m=9∨m=11 then 30 else 31
def cumB(lp:Bool):Nat→Int
 | 0=>0
 | k+1=>cumB lp k+lenB lp (k+1)
def ylen(lp:Bool):Int:=if lp then 366 else 365
def bg(y:Int):Int:=365*(y-1900)+((y-1) / 4-(y-1) / 100+(y-1) / 400)-460
theorem Aht(y:Int):bg (y+1)=bg y+ylen (leapB y):=by
 have h:leapB y=decide ((y % 4=0∧y % 100≠0)∨y % 400=0):=by
  unfold leapB;rw[Bool.eq_iff_iff];simp
 unfold bg ylen
 rw[h]
 by_cases hc:(y % 4=0∧y % 100≠0)∨y % 400=0
 ·rw[decide_eq_true hc,if_pos rfl];omega
 ·rw[decide_eq_false hc,if_neg (by simp)];omega
theorem cum12(lp:Bool):cumB lp 12=ylen lp:=by cases lp<;>decide
theorem Ahu(lp:Bool){m k:Nat}(h:m≤k):cumB lp m≤cumB lp k:=by
 induction k with
 | zero => have : m = 0 := by omega
           subst this;exact Int.le_refl _
 | succ k ih =>
   rcases Nat.lt_or_ge k m with h1|h1
   ·have:m=k+1:=by omega
    subst this;exact Int.le_refl _
   ·have:=ih h1
    have h2:0≤lenB lp (k+1):=by unfold lenB;split<;>(try split)<;>omega
    show _≤cumB lp k+lenB lp (k+1)
    omega
theorem Ahv(lp:Bool)(m:Nat):28≤lenB lp m∧lenB lp m≤31:=by unfold lenB;split<;>(try split)<;>omega
def VDate(y:Int)(m:Nat)(d:Int):Prop:=1900≤y∧y≤2199∧1≤m∧m≤12∧1≤d∧d≤lenB (leapB y) m
def dayOf(y:Int)(m:Nat)(d:Int):Int:=-25567+bg y+cumB (leapB y) (m-1)+d-1
theorem Ahw{y:Int}{m:Nat}{d:Int}(h:VDate y m d):bg y≤dayOf y m d+25567∧dayOf y m d+25567<bg (y+1):=by
 obtain⟨_,_,h3,h4,h5,h6⟩:=h
 have e1:0≤cumB (leapB y) (m-1):=Ahu (m:=0) _ (by omega)
 have e2:cumB (leapB y) (m-1)+lenB (leapB y) m≤cumB (leapB y) 12:=by
  have:=Ahu (leapB y) (m:=m) (k:=12) h4
  obtain⟨j,rfl⟩:∃j,m=j+1:=⟨m-1,by omega⟩
  exact this
 rw[Aht,←cum12]
 unfold dayOf
 omega
theorem Ahx{x y:Int}(h:x≤y):bg x≤bg y:=by unfold bg;omega
theorem Ahy{y y':Int}{m m':Nat}{d d':Int}(h:VDate y m d)(h':VDate y' m' d')(e:dayOf y m d=dayOf y' m' d'):y=y'∧m=m'∧d=d':=by
 have a:=Ahw h
 have b:=Ahw h'
 have hy:y=y':=by
  rcases Int.lt_trichotomy y y' with h1|h1|h1
  ·have:=Ahx (x:=y+1) (y:=y') (by omega);omega
  ·exact h1
  ·have:=Ahx (x:=y'+1) (y:=y) (by omega);omega
 subst hy
 obtain⟨_,_,h3,h4,h5,h6⟩:=h
 obtain⟨_,_,k3,k4,k5,k6⟩:=h'
 unfold dayOf at e
 have hm:m=m':=by
  have key:∀p q:Nat,1≤p→p<q→cumB (leapB y) (p-1)+lenB (leapB y) p≤cumB (leapB y) (q-1):=by
   intro p q hp hpq
   have:=Ahu (leapB y) (m:=p) (k:=q-1) (by omega)
   obtain⟨j,rfl⟩:∃j,p=j+1:=⟨p-1,by omega⟩
   exact this
  rcases Nat.lt_trichotomy m m' with h1|h1|h1
  ·have:=key m m' h3 h1;omega
  ·exact h1
  ·have:=key m' m k3 h1;omega
 subst hm
 exact⟨rfl,rfl,by omega⟩
theorem Ahz{y:Int}{m:Nat}{d:Int}(h:VDate y m d):-25567≤dayOf y m d∧dayOf y m d≤84005:=by
 have a:=Ahw h
 have b1:=Ahx h.1
 have b2:=Ahx (x:=y+1) (y:=2200) (by have:=h.2.1;omega)
 have c1:bg 1900=0:=by decide
 have c2:bg 2200=109573:=by decide
 omega
end Tr
namespace Go.Proofs.YteennkgpeiafaaaGreatDoor
open Go.RowKit Tr Go.Shelf
theorem Ah0(y:Int)(h0:0≤y)(h1:y≤100000)(w:World):
 Calls Tryz.prog 253 #[.int .i64 y] w fun e w'=>e=.returned (.bool (leapB y))∧w'=w:=by
 have e4:y.tmod 4=y % 4:=Int.tmod_eq_emod_of_nonneg h0
 have e100:y.tmod 100=y % 100:=Int.tmod_eq_emod_of_nonneg h0
 have e400:y.tmod 400=y % 400:=Int.tmod_eq_emod_of_nonneg h0
 go_enter Tryz.func253,Tryz.ntmps253
 go_wp2_with fail
 all_goals (go_ret;refine⟨?_,rfl⟩;simp[leapB, *])
theorem Ah1(y:Int)(h0:1900≤y)(h1:y≤2300)(w:World):
 Calls Tryz.prog 191 #[.int .i64 y] w fun e w'=>e=.returned (.int .i64 (bg y))∧w'=w:=by
 have e4:(y-1).tdiv 4=(y-1) / 4:=Int.tdiv_eq_ediv_of_nonneg (by omega)
 have e100:(y-1).tdiv 100=(y-1) / 100:=Int.tdiv_eq_ediv_of_nonneg (by omega)
 have e400:(y-1).tdiv 400=(y-1) / 400:=Int.tdiv_eq_ediv_of_nonneg (by omega)
 go_enter Tryz.func191,Tryz.ntmps191
 go_wp2_with fail
 go_ret
 exact⟨rfl,rfl⟩
theorem Ah2(y:Int)(m:Nat)(h0:0≤y)(h1:y≤100000)(m0:1≤m)(m1:m≤12)(w:World):
 Calls Tryz.prog 190 #[.int .i64 y,.int .i64 (m:Int)] w fun e w'=>e=.returned (.int .i64 (lenB (leapB y) m))∧Below w.heap.size w w':=by
 have HL:=Lib.hid (fun W=>Ah0 y h0 h1 W)
 obtain⟨W0,hW0⟩:∃W0,w.alloc (.cells #[.int .i64 31,.int .i64 28,.int .i64 31,.int .i64 30,.int .i64 31,.int .i64 30,.int .i64 31,.int .i64 31,.int .i64 30,.int .i64 31,.int .i64 30,.int .i64 31] 248)=W0:=⟨_,rfl⟩
 have hk:W0.heap[w.heap.size]?=some (.cells #[.int .i64 31,.int .i64 28,.int .i64 31,.int .i64 30,.int .i64 31,.int .i64 30,.int .i64 31,.int .i64 31,.int .i64 30,.int .i64 31,.int .i64 30,.int .i64 31] 248):=by rw[←hW0];exact heap_alloc_new w _
 have HB:Hid (Below w.heap.size w W0):=by rw[←hW0];exact (Below.refl _ w).alloc (Nat.le_refl _) _
 have c0:=Lib.cell_of_heap hk 0
 have c1:=Lib.cell_of_heap hk 1
 have c2:=Lib.cell_of_heap hk 2
 have c3:=Lib.cell_of_heap hk 3
 have c4:=Lib.cell_of_heap hk 4
 have c5:=Lib.cell_of_heap hk 5
 have c6:=Lib.cell_of_heap hk 6
 have c7:=Lib.cell_of_heap hk 7
 have c8:=Lib.cell_of_heap hk 8
 have c9:=Lib.cell_of_heap hk 9
 have c10:=Lib.cell_of_heap hk 10
 have c11:=Lib.cell_of_heap hk 11
 simp at c0 c1 c2 c3 c4 c5 c6 c7 c8 c9 c10 c11
 clear hk
 by_cases h2:m=2
 ·subst h2
  rw[show ((2:Nat):Int)=2 from rfl]
  go_enter Tryz.func190,Tryz.ntmps190
  go_wp2_with fail
  refine (HL.out W0).mono ?_
  rintro e w1 ⟨rfl,rfl⟩
  cases hl:leapB y
  all_goals (go_wp2_with fail;go_ret;exact⟨by rw[hl];rfl,HB.out⟩)
 ·obtain rfl|rfl|rfl|rfl|rfl|rfl|rfl|rfl|rfl|rfl|rfl:m=1∨m=3∨m=4∨m=5∨m=6∨m=7∨m=8∨m=9∨m=10∨m=11∨m=12:=by omega
  ·rw[show ((1:Nat):Int)=1 from rfl]
   go_enter Tryz.func190,Tryz.ntmps190
   go_wp2_with fail
   go_ret
   exact⟨by cases leapB y<;>rfl,HB.out⟩
  ·rw[show ((3:Nat):Int)=3 from rfl]
   go_enter Tryz.func190,Tryz.ntmps190
   go_wp2_with fail
   go_ret
   exact⟨by cases leapB y<;>rfl,HB.out⟩
  ·rw[show ((4:Nat):Int)=4 from rfl]
   go_enter Tryz.func190,Tryz.ntmps190
   go_wp2_with fail
   go_ret
   exact⟨by cases leapB y<;>rfl,HB.out⟩
  ·rw[show ((5:Nat):Int)=5 from rfl]
   go_enter Tryz.func190,Tryz.ntmps190
   go_wp2_with fail
   go_ret
   exact⟨by cases leapB y<;>rfl,HB.out⟩
  ·rw[show ((6:Nat):Int)=6 from rfl]
   go_enter Tryz.func190,Tryz.ntmps190
   go_wp2_with fail
   go_ret
   exact⟨by cases leapB y<;>rfl,HB.out⟩
  ·rw[show ((7:Nat):Int)=7 from rfl]
   go_enter Tryz.func190,Tryz.ntmps190
   go_wp2_with fail
   go_ret
   exact⟨by cases leapB y<;>rfl,HB.out⟩
  ·rw[show ((8:Nat):Int)=8 from rfl]
   go_enter Tryz.func190,Tryz.ntmps190
   go_wp2_with fail
   go_ret
   exact⟨by cases leapB y<;>rfl,HB.out⟩
  ·rw[show ((9:Nat):Int)=9 from rfl]
   go_enter Tryz.func190,Tryz.ntmps190
   go_wp2_with fail
   go_ret
   exact⟨by cases leapB y<;>rfl,HB.out⟩
  ·rw[show ((10:Nat):Int)=10 from rfl]
   go_enter Tryz.func190,Tryz.ntmps190
   go_wp2_with fail
   go_ret
   exact⟨by cases leapB y<;>rfl,HB.out⟩
  ·rw[show ((11:Nat):Int)=11 from rfl]
   go_enter Tryz.func190,Tryz.ntmps190
   go_wp2_with fail
   go_ret
   exact⟨by cases leapB y<;>rfl,HB.out⟩
  ·rw[show ((12:Nat):Int)=12 from rfl]
   go_enter Tryz.func190,Tryz.ntmps190
   go_wp2_with fail
   go_ret
   exact⟨by cases leapB y<;>rfl,HB.out⟩
theorem Ah3(lp:Bool){m:Nat}(h:1≤m):cumB lp m=cumB lp (m-1)+lenB lp m:=by
 obtain⟨j,rfl⟩:∃j,m=j+1:=⟨m-1,by omega⟩
 rfl
theorem Ah4(lp:Bool){m:Nat}(h:m≤12):0≤cumB lp m∧cumB lp m≤366:=by
 have h1:=Ahu lp (m:=0) (k:=m) (by omega)
 have h2:=Ahu lp (m:=m) (k:=12) h
 rw[cum12] at h2
 have:ylen lp≤366:=by unfold ylen;split<;>omega
 have h3:cumB lp 0=0:=rfl
 omega
theorem bg_bd{y:Int}(h0:1900≤y)(h1:y≤2300):0≤bg y∧bg y≤146500:=by unfold bg;omega
theorem Ah5(y:Int)(m:Nat)(d:Int)(hv:VDate y m d)(w:World):
 Calls Tryz.prog 127 #[.int .i64 y,.int .i64 (m:Int),.int .i64 d] w fun e w'=>e=.returned (.tuple #[.int .i64 (dayOf y m d),.int .i64 0])∧Below w.heap.size w w':=by
 obtain⟨h1,h2,h3,h4,h5,h6⟩:=hv
 have hle:=Ahv (leapB y) m
 have hbg:=bg_bd h1 (by omega)
 have HLN:=Lib.hid (fun (k:Nat) (k0:1≤k) (k1:k≤12) W=>Ah2 y k (by omega) (by omega) k0 k1 W)
 have HBG:=Lib.hid (fun W=>Ah1 y h1 (by omega) W)
 go_enter Tryz.func127,Tryz.ntmps127
 go_wp2_with fail
 refine (HLN.out m h3 h4 w).mono ?_
 rintro e w1 ⟨rfl,hB1⟩
 go_wp2_with fail
 refine (HBG.out w1).mono ?_
 rintro e w2 ⟨rfl,rfl⟩
 go_wp2_with fail
 go_loopw [8,9] (fun v8 v9 wr=>∃k:Nat,v9=.int .i64 (k:Int)∧v8=.int .i64 (bg y+d-1+cumB (leapB y) (k-1))∧1≤k∧k≤m∧Below w.heap.size w wr) (fun _ v9 _=>13-(intOf v9).toNat)
 case atStart=>exact⟨1,rfl,by simp[cumB],by omega,by omega,hB1⟩
 case round =>
  obtain⟨k,rfl,rfl,k0,k1,hB⟩:=hrel
  have hcb:=Ah4 (leapB y) (m:=k-1) (by omega)
  rcases Nat.lt_or_ge k m with hlt|hge
  ·have hc:decide ((k:Int)<(m:Int))=true:=decide_eq_true (by omega)
   have hlk:=Ahv (leapB y) k
   go_wp2_with fail
   refine (HLN.out k k0 (by omega) wr).mono ?_
   rintro e w3 ⟨rfl,hB3⟩
   go_wp2_with fail
   refine⟨⟨k+1,by simp,?_,by omega,by omega,hB.trans (hB3.mono hB.size)⟩,by simp[intOf];omega⟩
   rw[show k+1-1=k from rfl,Ah3 _ k0];congr 1;omega
  ·have hc:decide ((k:Int)<(m:Int))=false:=decide_eq_false (by omega)
   have hkm:k=m:=by omega
   subst hkm
   go_wp2_with fail
   go_ret2
   refine⟨?_,hB⟩
   rw[show dayOf y k d=-25567+(bg y+d-1+cumB (leapB y) (k-1)) from by unfold dayOf;omega];rfl
def okDay(d:Int):Prop:=-25567≤d∧d≤84005
instance (d:Int):Decidable (okDay d):=by unfold okDay;infer_instance
theorem Ah6(d:Int)(w:World):
 Calls Tryz.prog 277 #[.int .i64 d] w fun e w'=>e=.returned (.bool (decide (okDay d)))∧w'=w:=by
 go_enter Tryz.func277,Tryz.ntmps277
 go_wp2_with fail
 all_goals (go_ret;refine⟨?_,rfl⟩;first|(rw[decide_eq_true (p:=okDay d) (by unfold okDay;omega)];rfl)|(rw[decide_eq_false (p:=okDay d) (by unfold okDay;omega)];rfl)|(simp[okDay, *];done))
def Ah7(d:Int)(w:World)(e:Ending)(w':World):Prop:=∃(y:Int) (m:Nat) (dd:Int),e=.returned (.tuple #[.int .i64 y,.int .i64 (m:Int),.int .i64 dd,.int .i64 0])∧VDate y m dd∧dayOf y m dd=d∧Below w.heap.size w w'
theorem Ah8(d:Int)(hd:okDay d)(w:World):
 Calls Tryz.prog 223 #[.int .i64 d] w (Ah7 d w):=by
 have HV:=Lib.hid (Ah6 d w)
 rw[decide_eq_true hd] at HV
 obtain⟨d0,d1⟩:=hd
 have HLN:=Lib.hid (fun (y:Int) (y0:1900≤y) (y1:y≤2300) (k:Nat) (k0:1≤k) (k1:k≤12) W=>Ah2 y k (by omega) (by omega) k0 k1 W)
 have HBG:=Lib.hid (fun (y:Int) (y0:1900≤y) (y1:y≤2300) W=>Ah1 y y0 (by omega) W)
 have hq:(d - -25567).tdiv 366=(d+25567) / 366:=by rw[Int.tdiv_eq_ediv_of_nonneg (by omega)];congr 1
 go_enter Tryz.func223,Tryz.ntmps223
 go_wp2_with fail
 refine HV.out.mono ?_
 rintro e w1 ⟨rfl,rfl⟩
 go_wp2_with fail
 go_loopw [7] (fun v7 wr=>∃y:Int,v7=.int .i64 y∧1900≤y∧y≤2199∧bg y≤d+25567∧wr=w1) (fun v7 _=>2300-(intOf v7).toNat)
 case atStart=>exact⟨1900+(d+25567) / 366,rfl,by omega,by omega,by unfold bg;omega,rfl⟩
 case round =>
  obtain⟨y,rfl,y0,y1,hy,rfl⟩:=hrel
  go_wp2_with fail
  refine (HBG.out (y+1) (by omega) (by omega) _).mono ?_
  rintro e w2 ⟨rfl,rfl⟩
  by_cases hc:bg (y+1)≤d+25567
  ·have hc':decide (bg (y+1)≤d+25567)=true:=decide_eq_true (by omega)
   have hy2:y+1≤2199:=by
    rcases Int.lt_or_le (y+1) 2200 with h|h
    ·omega
    ·have:=Ahx h
     rw[show bg 2200=109573 from by decide] at this
     omega
   go_wp2_with fail
   refine⟨⟨y+1,rfl,by omega,hy2,hc,by trivial⟩,by simp[intOf];omega⟩
  ·have hc':decide (bg (y+1)≤d+25567)=false:=decide_eq_false (by omega)
   have hbg:=bg_bd y0 (by omega)
   rw[Aht] at hc
   rw[←cum12] at hc
   go_wp2_with fail
   refine (HBG.out y y0 (by omega) _).mono ?_
   rintro e w3 ⟨rfl,rfl⟩
   go_wp2_with fail
   go_loopw [6,8] (fun v6 v8 wr=>∃k:Nat,v8=.int .i64 (k:Int)∧v6=.int .i64 (d+25567-bg y-cumB (leapB y) (k-1))∧1≤k∧k≤12∧0≤d+25567-bg y-cumB (leapB y) (k-1)∧Below w3.heap.size w3 wr) (fun _ v8 _=>13-(intOf v8).toNat)
   case atStart=>exact⟨1,rfl,by simp[cumB],by omega,by omega,by simp[cumB];omega,Below.refl _ _⟩
   case round =>
    obtain⟨k,rfl,rfl,k0,k1,hn,hB⟩:=hrel
    have hst:=Ah3 (leapB y) k0
    have hlk:=Ahv (leapB y) k
    have hcb:=Ah4 (leapB y) (m:=k-1) (by omega)
    have hcb2:=Ahu (leapB y) (m:=k) (k:=12) k1
    go_wp2_with fail
    refine (HLN.out y y0 (by omega) k k0 k1 _).mono ?_
    rintro e w4 ⟨rfl,hB4⟩
    by_cases hl:lenB (leapB y) k≤d+25567-bg y-cumB (leapB y) (k-1)
    ·have hl':decide (d+25567-bg y-cumB (leapB y) (k-1)≥lenB (leapB y) k)=true:=decide_eq_true hl
     have hk12:k≤11:=by
      rcases Nat.lt_or_ge k 12 with h|h
      ·omega
      ·have:k=12:=by omega
       subst this;omega
     go_wp2_with fail
     refine (HLN.out y y0 (by omega) k k0 k1 _).mono ?_
     rintro e w5 ⟨rfl,hB5⟩
     go_wp2_with fail
     have hB45:=hB.trans (hB4.mono hB.size)
     refine⟨⟨k+1,by simp,?_,by omega,by omega,?_,hB45.trans (hB5.mono hB45.size)⟩,by simp[intOf];omega⟩
     ·rw[show k+1-1=k from rfl,hst];congr 1;omega
     ·rw[show k+1-1=k from rfl,hst];omega
    ·have hl':decide (d+25567-bg y-cumB (leapB y) (k-1)≥lenB (leapB y) k)=false:=decide_eq_false hl
     go_wp2_with fail
     refine bodyPost_ret (v:=.tuple #[.int .i64 y,.int .i64 (k:Int),.int .i64 (d+25567-bg y-cumB (leapB y) (k-1)+1),.int .i64 0]) (by simp[results,Tryz.results223,go_sem]) rfl ?_
     refine⟨y,k,_,rfl,⟨y0,y1,k0,k1,by omega,by omega⟩,by unfold dayOf;omega,hB.trans (hB4.mono hB.size)⟩
def two(n:Nat):List UInt8:=List.replicate (2-(Lib.itoa (n:Int)).length) 48++Lib.itoa (n:Int)
end Go.Proofs.YteennkgpeiafaaaGreatDoor
namespace Go.Proofs.YteennkgpeiafaaaGreatDoor
open Go.RowKit Tr
theorem Ah9(n d:ByteArray)(ha:n.size≤16)(hb:d.size≤16):(rawN n d).size≤1000000∧(rawD d).size≤1000000∧(vl (rawN n d)).natAbs<100000000000000000∧(vl (rawD d)).natAbs<100000000000000000∧0<vl (rawD d)∧Rat.divInt (vl (rawN n d)) (vl (rawD d))=fv n d:=by
 have hn:(vl n).natAbs<10^16:=Nat.lt_of_lt_of_le (vl_lt n) (Ac8 ha)
 have hd:(vl d).natAbs<10^16:=Nat.lt_of_lt_of_le (vl_lt d) (Ac8 hb)
 unfold rawN rawD fv dd
 rcases Int.lt_trichotomy (vl d) 0 with h|h|h
 ·rw[if_pos h,if_neg (by omega),if_pos h,if_neg (by omega)]
  have z1:(I (-vl n)).size≤17:=Ac7 (by rw[Int.natAbs_neg];exact hn)
  have z2:(I (-vl d)).size≤17:=Ac7 (by rw[Int.natAbs_neg];exact hd)
  rw[vl_I,vl_I,Rat.neg_divInt_neg]
  exact⟨by omega,by omega,by omega,by omega,by omega,rfl⟩
 ·rw[if_neg (by omega),if_pos h,if_pos h]
  have:vl one1=1:=by rw[one1_eq,vl_I]
  have z:one1.size=1:=rfl
  rw[this]
  exact⟨by omega,by omega,by omega,by omega,by omega,rfl⟩
 ·rw[if_neg (by omega),if_neg (by omega),if_neg (by omega),if_neg (by omega)]
  exact⟨by omega,by omega,by omega,by omega,by omega,rfl⟩
theorem Aia(n d:ByteArray)(ha:n.size≤16)(hb:d.size≤16)(w:World):
 Calls Tryz.prog 140 #[.agg #[.string n,.string d]] w fun e w'=>e=.returned (fenc (fv n d))∧Below w.heap.size w w':=by
 obtain⟨r1,r2,r3,r4,r5,r6⟩:=Ah9 n d ha hb
 have HR:=fun W=>Ahc (rawN n d) (rawD d) r1 r2 r3 r4 r5 W
 rw[r6] at HR
 have HR:=Lib.hid HR
 have HW:=Lib.hid (fun W=>Ahb n d (by omega) (by omega) W)
 clear r1 r2 r3 r4 r5 r6 ha hb
 obtain⟨W0,hW0,hb0,hs0,k0,k1⟩:=box2 w (.cells #[.string n,.string d] 25) (.cells #[.string ⟨#[]⟩,.string ⟨#[]⟩] 25)
 have b0:=Lib.cell_of_heap k0 0
 have b1:=Lib.cell_of_heap k0 1
 simp at b0 b1
 have HB:=Lib.hid hb0
 have HK:=Lib.hid k1
 clear hb0 k0 k1 hs0
 go_enter Tryz.func140,Tryz.ntmps140
 go_wp2_with fail
 try rw[←hW0]
 refine (HW.out _).mono ?_
 rintro e w1 ⟨rfl,c1⟩
 have HC1:=Lib.hid c1
 clear c1
 go_wp2_with fail
 refine (HR.out _).mono ?_
 rintro e w2 ⟨rfl,c2⟩
 have c12:=HC1.out.trans (c2.mono HC1.out.size)
 have k2:=(c12.block _ (Array.getElem?_eq_some_iff.1 HK.out).1).trans HK.out
 have a0:=Lib.cell_of_heap k2 0
 have a1:=Lib.cell_of_heap k2 1
 simp at a0 a1
 have f0:=Lib.frozen_of_heap k2 0
 have f1:=Lib.frozen_of_heap k2 1
 have HB2:=Lib.hid (HB.out.trans (c12.mono HB.out.size))
 have K2:=Lib.hid k2
 clear c2 c12 k2 HB HC1 HK HR HW
 obtain⟨q,hq⟩:∃q,fv n d=q:=⟨_,rfl⟩
 rw[hq]
 have HQ:=Lib.hid hq
 clear hq
 unfold fenc
 go_wp2_with fail
 have k2:=set2 K2.out (.string (I q.num)) (.string (dn q))
 have m0:=Lib.cell_of_heap k2 0
 have m1:=Lib.cell_of_heap k2 1
 simp at m0 m1
 refine bodyPost_ret (v:=.agg #[.string (I q.num),.string (dn q)]) (by simp[results,Tryz.results140,go_sem,m0,m1]) rfl ?_
 exact⟨by rw[HQ.out];rfl,(HB2.out.setCell (p:=⟨w.heap.size+1,0,none⟩) (by simp) _).setCell (p:=⟨w.heap.size+1,1,none⟩) (by simp) _⟩
theorem Aib(n d:ByteArray)(ha:n.size≤16)(hb:d.size≤16)(hc:CanQ n d)(w:World):
 Calls Tryz.prog 132 #[.agg #[.string n,.string d]] w fun e w'=>e=.returned (.int .i64 0)∧Below w.heap.size w w':=by
 have HB:=Lib.hid ((Below.refl _ w).alloc (Nat.le_refl _) (Obj.cells #[.string n,.string d] 25))
 obtain⟨W0,hW0⟩:∃W0,w.alloc (Obj.cells #[.string n,.string d] 25)=W0:=⟨_,rfl⟩
 have hk:W0.heap[w.heap.size]?=some (Obj.cells #[.string n,.string d] 25):=by rw[←hW0];exact heap_alloc_new w _
 rw[hW0] at HB
 have b0:=Lib.cell_of_heap hk 0
 have b1:=Lib.cell_of_heap hk 1
 simp at b0 b1
 have HM:=Lib.hid (fun W=>Aia n d ha hb W)
 clear hk ha hb
 have HC:=Lib.hid hc
 clear hc
 go_enter Tryz.func132,Tryz.ntmps132
 go_wp2_with fail
 go_region_held3 (fun W=>W.cell? ⟨w.heap.size,0,none⟩=some (.string n)∧W.cell? ⟨w.heap.size,1,none⟩=some (.string d))
  (refine⟨?_,?_⟩<;>first|assumption|(go_simp;done))
  ((go_at_call 140;refine (HM.out W0.drew).mono ?_;rintro e w2 ⟨rfl,hb2⟩;unfold fenc;rw[←HC.out.1,←HC.out.2];have d0:=keepc b0 hb2;have d1:=keepc b1 hb2;have HB2:=Lib.hid (HB.out.drew.trans (hb2.mono HB.out.size));clear hb2))
 all_goals (first|go_wp2_with fail|skip)
 all_goals (go_ret;exact⟨rfl,HB2.out⟩)
theorem Aic(n d:ByteArray)(ha:n.size≤16)(hb:d.size≤16)(hc:¬CanQ n d)(w:World):
 Calls Tryz.prog 132 #[.agg #[.string n,.string d]] w fun e w'=>e=.returned (.int .i64 1)∧Below w.heap.size w w':=by
 have HB:=Lib.hid ((Below.refl _ w).alloc (Nat.le_refl _) (Obj.cells #[.string n,.string d] 25))
 obtain⟨W0,hW0⟩:∃W0,w.alloc (Obj.cells #[.string n,.string d] 25)=W0:=⟨_,rfl⟩
 have hk:W0.heap[w.heap.size]?=some (Obj.cells #[.string n,.string d] 25):=by rw[←hW0];exact heap_alloc_new w _
 rw[hW0] at HB
 have b0:=Lib.cell_of_heap hk 0
 have b1:=Lib.cell_of_heap hk 1
 simp at b0 b1
 have HM:=Lib.hid (fun W=>Aia n d ha hb W)
 clear hk ha hb
 have HC:Hid (¬(n=I (fv n d).num∧d=dn (fv n d))):=hc
 clear hc
 by_cases hn:n=I (fv n d).num
 ·have hd':(d.toList==(dn (fv n d)).toList)=false:=Adb (fun e=>HC.out ⟨hn,e⟩)
  have hn':(n.toList==(I (fv n d).num).toList)=true:=by rw[←hn];simp
  clear hn HC
  go_enter Tryz.func132,Tryz.ntmps132
  go_wp2_with fail
  go_region_held3 (fun W=>W.cell? ⟨w.heap.size,0,none⟩=some (.string n)∧W.cell? ⟨w.heap.size,1,none⟩=some (.string d))
   (refine⟨?_,?_⟩<;>first|assumption|(go_simp;done))
   ((go_at_call 140;refine (HM.out W0.drew).mono ?_;rintro e w2 ⟨rfl,hb2⟩;unfold fenc;have d0:=keepc b0 hb2;have d1:=keepc b1 hb2;have HB2:=Lib.hid (HB.out.drew.trans (hb2.mono HB.out.size));clear hb2))
  all_goals (first|go_wp2_with fail|skip)
  all_goals (go_ret;exact⟨rfl,HB2.out⟩)
 ·have hn':(n.toList==(I (fv n d).num).toList)=false:=Adb hn
  clear hn HC
  by_cases hd:d=dn (fv n d)
  ·have hd':(d.toList==(dn (fv n d)).toList)=true:=by rw[←hd];simp
   clear hd
   go_enter Tryz.func132,Tryz.ntmps132
   go_wp2_with fail
   go_region_held3 (fun W=>W.cell? ⟨w.heap.size,0,none⟩=some (.string n)∧W.cell? ⟨w.heap.size,1,none⟩=some (.string d))
    (refine⟨?_,?_⟩<;>first|assumption|(go_simp;done))
    ((go_at_call 140;refine (HM.out W0.drew).mono ?_;rintro e w2 ⟨rfl,hb2⟩;unfold fenc;have d0:=keepc b0 hb2;have d1:=keepc b1 hb2;have HB2:=Lib.hid (HB.out.drew.trans (hb2.mono HB.out.size));clear hb2))
   all_goals (first|go_wp2_with fail|skip)
   all_goals (go_ret;exact⟨rfl,HB2.out⟩)
  ·have hd':(d.toList==(dn (fv n d)).toList)=false:=Adb hd
   clear hd
   go_enter Tryz.func132,Tryz.ntmps132
   go_wp2_with fail
   go_region_held3 (fun W=>W.cell? ⟨w.heap.size,0,none⟩=some (.string n)∧W.cell? ⟨w.heap.size,1,none⟩=some (.string d))
    (refine⟨?_,?_⟩<;>first|assumption|(go_simp;done))
    ((go_at_call 140;refine (HM.out W0.drew).mono ?_;rintro e w2 ⟨rfl,hb2⟩;unfold fenc;have d0:=keepc b0 hb2;have d1:=keepc b1 hb2;have HB2:=Lib.hid (HB.out.drew.trans (hb2.mono HB.out.size));clear hb2))
   all_goals (first|go_wp2_with fail|skip)
   all_goals (go_ret;exact⟨rfl,HB2.out⟩)
end Go.Proofs.YteennkgpeiafaaaGreatDoor
namespace Go.Proofs.YteennkgpeiafaaaGreatDoor
open Go.RowKit Tr Go.Shelf
theorem Aid(n d:ByteArray)(ha:n.size≤100)(hb:d.size≤100):(rawN n d).size≤200∧(rawD d).size≤200:=by
 have hn:(vl n).natAbs<10^100:=Nat.lt_of_lt_of_le (vl_lt n) (Ac8 ha)
 have hd:(vl d).natAbs<10^100:=Nat.lt_of_lt_of_le (vl_lt d) (Ac8 hb)
 have z1:(I (-vl n)).size≤101:=Ac7 (by rw[Int.natAbs_neg];exact hn)
 have z2:(I (-vl d)).size≤101:=Ac7 (by rw[Int.natAbs_neg];exact hd)
 have z:one1.size=1:=rfl
 unfold rawN rawD
 constructor
 ·split<;>omega
 ·split
  ·omega
  ·split<;>omega
theorem Aie(n d n' d':ByteArray)(ha:n.size≤100)(hb:d.size≤100)(ha':n'.size≤100)(hb':d'.size≤100)(w:World):
 Calls Tryz.prog 138 #[.agg #[.string n,.string d],.agg #[.string n',.string d']] w fun e w'=>e=.returned (.int .i64 (cmpI (vl (rawN n d)*vl (rawD d')) (vl (rawN n' d')*vl (rawD d))))∧Below w.heap.size w w':=by
 have r:=Aid n d ha hb
 have r':=Aid n' d' ha' hb'
 have H1:=Lib.hid (fun W=>Ahb n d (by omega) (by omega) W)
 have H2:=Lib.hid (fun W=>Ahb n' d' (by omega) (by omega) W)
 have H3:=Lib.hid (fun W=>rMul_any (rawN n d) (rawD d') (by omega) (by omega) W)
 have H4:=Lib.hid (fun W=>rMul_any (rawN n' d') (rawD d) (by omega) (by omega) W)
 have hs1:(I (vl (rawN n d)*vl (rawD d'))).size≤1000000:=by
  have:=Ac7 (Ada (vl_lt (rawN n d)) (vl_lt (rawD d')));omega
 have hs2:(I (vl (rawN n' d')*vl (rawD d))).size≤1000000:=by
  have:=Ac7 (Ada (vl_lt (rawN n' d')) (vl_lt (rawD d)));omega
 have H5:=fun W=>Adz _ _ hs1 hs2 W
 rw[vl_I,vl_I] at H5
 have H5:=Lib.hid H5
 clear hs1 hs2 r r' ha hb ha' hb'
 obtain⟨W0,hW0,hb0,hs0,k0,k1⟩:=box2 w (.cells #[.string n,.string d] 25) (.cells #[.string n',.string d'] 25)
 have a0:=Lib.cell_of_heap k0 0
 have a1:=Lib.cell_of_heap k0 1
 have b0:=Lib.cell_of_heap k1 0
 have b1:=Lib.cell_of_heap k1 1
 simp at a0 a1 b0 b1
 have HB:=Lib.hid hb0
 have HZ:=Lib.hid hs0
 clear hb0 k0 k1 hs0
 go_enter Tryz.func138,Tryz.ntmps138
 go_wp2_with fail
 try rw[←hW0]
 refine (H1.out _).mono ?_
 rintro e w1 ⟨rfl,c1⟩
 have e0:=(c1.cell (Afb b0)).trans b0
 have e1:=(c1.cell (Afb b1)).trans b1
 have C1:=Lib.hid (HB.out.trans (c1.mono HB.out.size))
 clear c1 a0 a1 b0 b1 HB H1 hW0
 go_wp2_with fail
 refine (H2.out _).mono ?_
 rintro e w2 ⟨rfl,c2⟩
 have C2:=Lib.hid (C1.out.trans (c2.mono C1.out.size))
 clear c2 e0 e1 C1 H2
 go_wp2_with fail
 refine (H3.out _).mono ?_
 rintro e w3 ⟨rfl,c3⟩
 have C3:=Lib.hid (C2.out.trans (c3.mono C2.out.size))
 clear c3 C2 H3
 go_wp2_with fail
 refine (H4.out _).mono ?_
 rintro e w4 ⟨rfl,c4⟩
 have C4:=Lib.hid (C3.out.trans (c4.mono C3.out.size))
 clear c4 C3 H4
 go_wp2_with fail
 refine (H5.out _).mono ?_
 rintro e w5 ⟨rfl,rfl⟩
 go_wp2_with fail
 go_ret
 exact⟨rfl,C4.out⟩
theorem Aif{n d:ByteArray}(hc:CanQ n d):cmpI (vl (rawN n d)*vl (rawD ⟨#[]⟩)) (vl (rawN ⟨#[]⟩ ⟨#[]⟩)*vl (rawD d))=cmpI (vl n) 0:=by
 have e0:vl (⟨#[]⟩:ByteArray)=0:=by rw[zero_eq,vl_I]
 have e1:vl one1=1:=by rw[one1_eq,vl_I]
 have hd:¬vl d<0:=by
  rw[hc.2]
  unfold dn
  split
  ·rw[e0];omega
  ·rw[vl_I];omega
 have r1:rawN n d=n:=by unfold rawN;rw[if_neg hd]
 have r2:rawD ⟨#[]⟩=one1:=by unfold rawD;rw[if_pos e0]
 have r3:rawN ⟨#[]⟩ ⟨#[]⟩=⟨#[]⟩:=by unfold rawN;rw[if_neg (by omega)]
 rw[r1,r2,r3,e0,e1,Int.mul_one,Int.zero_mul]
theorem Aig(n d:ByteArray)(ha:n.size≤100)(hb:d.size≤100)(hc:CanQ n d)(w:World):
 Calls Tryz.prog 70 #[.agg #[.string n,.string d]] w fun e w'=>e=.returned (.int .i64 (cmpI (vl n) 0))∧Below w.heap.size w w':=by
 have H:=fun W=>Aie n d ⟨#[]⟩ ⟨#[]⟩ ha hb (show 0≤100 by omega) (show 0≤100 by omega) W
 rw[Aif hc] at H
 have H:=Lib.hid H
 have HB:=Lib.hid ((Below.refl _ w).alloc (Nat.le_refl _) (Obj.cells #[.string n,.string d] 25))
 obtain⟨W0,hW0⟩:∃W0,w.alloc (Obj.cells #[.string n,.string d] 25)=W0:=⟨_,rfl⟩
 have hk:W0.heap[w.heap.size]?=some (Obj.cells #[.string n,.string d] 25):=by rw[←hW0];exact heap_alloc_new w _
 rw[hW0] at HB
 have c0:=Lib.cell_of_heap hk 0
 have c1:=Lib.cell_of_heap hk 1
 simp at c0 c1
 clear hk hc ha hb
 go_enter Tryz.func70,Tryz.ntmps70
 go_wp2_with fail
 refine (H.out _).mono ?_
 rintro e w1 ⟨rfl,h1⟩
 have HB1:=Lib.hid (HB.out.trans (h1.mono HB.out.size))
 clear h1
 go_wp2_with fail
 go_ret
 exact⟨rfl,HB1.out⟩
end Go.Proofs.YteennkgpeiafaaaGreatDoor
namespace Tr
theorem Aih(lp:Bool){m:Nat}(h:1≤m):cumB lp m=cumB lp (m-1)+lenB lp m:=by
 obtain⟨j,rfl⟩:∃j,m=j+1:=⟨m-1,by omega⟩
 rfl
theorem Aii{y:Int}{m:Nat}{d:Int}(h:VDate y m d)(hl:dayOf y m d<84005):∃(y':Int) (m':Nat) (d':Int),VDate y' m' d'∧dayOf y' m' d'=dayOf y m d+1:=by
 obtain⟨h1,h2,h3,h4,h5,h6⟩:=h
 rcases Int.lt_or_le d (lenB (leapB y) m) with hd|hd
 ·exact⟨y,m,d+1,⟨h1,h2,h3,h4,by omega,by omega⟩,by unfold dayOf;omega⟩
 ·have hc:=Aih (leapB y) h3
  rcases Nat.lt_or_ge m 12 with hm|hm
  ·exact⟨y,m+1,1,⟨h1,h2,by omega,by omega,by omega,by have:=(Ahv (leapB y) (m+1)).1;omega⟩,by unfold dayOf;rw[show m+1-1=m from rfl,hc];omega⟩
  ·have h12:m=12:=by omega
   subst h12
   have hb:=Aht y
   have c12:=cum12 (leapB y)
   have e:dayOf y 12 d+1=-25567+bg (y+1):=by unfold dayOf;rw[hb,←c12,hc];omega
   have hy:y+1≤2199:=by
    rcases Int.lt_or_le y 2199 with hy|hy
    ·omega
    ·have e2:y=2199:=by omega
     have h9:bg 2200=109573:=by decide
     rw[show y+1=2200 from by omega,h9] at e
     omega
   refine⟨y+1,1,1,⟨by omega,hy,by omega,by omega,by omega,by have:=(Ahv (leapB (y+1)) 1).1;omega⟩,?_⟩
   rw[e]
   unfold dayOf
   rw[show cumB (leapB (y+1)) (1-1)=0 from rfl]
   omega
theorem Aij(n:Nat):(n:Int)≤109572→∃(y:Int) (m:Nat) (d:Int),VDate y m d∧dayOf y m d=-25567+n:=by
 induction n with
 | zero =>
   intro _
   refine⟨1900,1,1,⟨by decide,by decide,by decide,by decide,by decide,by decide⟩,?_⟩
   unfold dayOf
   rw[show bg 1900=0 from by decide,show cumB (leapB 1900) (1-1)=0 from rfl]
   omega
 | succ n ih =>
   intro h
   obtain⟨y,m,d,hv,hd⟩:=ih (by omega)
   obtain⟨y',m',d',hv',hd'⟩:=Aii hv (by omega)
   exact⟨y',m',d',hv',by rw[hd',hd];omega⟩
theorem Aik{d:Int}(h0:-25567≤d)(h1:d≤84005):∃(y:Int) (m:Nat) (dd:Int),VDate y m dd∧dayOf y m dd=d:=by
 obtain⟨y,m,dd,hv,hd⟩:=Aij (d+25567).toNat (by omega)
 exact⟨y,m,dd,hv,by rw[hd];omega⟩
noncomputable def Aim(d:Int):Int×Nat×Int:=by classical exact if h:∃p:Int×Nat×Int,VDate p.1 p.2.1 p.2.2∧dayOf p.1 p.2.1 p.2.2=d then h.choose else (0,0,0)
theorem Ain{y:Int}{m:Nat}{dd d:Int}(h:VDate y m dd)(hd:dayOf y m dd=d):Aim d=(y,m,dd):=by
 have hex:∃p:Int×Nat×Int,VDate p.1 p.2.1 p.2.2∧dayOf p.1 p.2.1 p.2.2=d:=⟨(y,m,dd),h,hd⟩
 unfold Aim
 rw[dif_pos hex]
 obtain⟨h',e'⟩:=hex.choose_spec
 obtain⟨e1,e2,e3⟩:=Ahy h h' (hd.trans e'.symm)
 exact Prod.ext e1.symm (Prod.ext e2.symm e3.symm)
theorem Aip{d:Int}(h0:-25567≤d)(h1:d≤84005):VDate (Aim d).1 (Aim d).2.1 (Aim d).2.2∧dayOf (Aim d).1 (Aim d).2.1 (Aim d).2.2=d:=by
 obtain⟨y,m,dd,hv,hd⟩:=Aik h0 h1
 rw[Ain hv hd]
 exact⟨hv,hd⟩
def kY(k:Int):Int:=k / 12
def kM(k:Int):Nat:=(k % 12).toNat+1
def kL(k:Int):Int:=lenB (leapB (kY k)) (kM k)
def kBeg(k:Int):Int:=-25567+bg (kY k)+cumB (leapB (kY k)) (kM k-1)
def kDay(k dd:Int):Int:=kBeg k+min dd (kL k)-1
theorem Aiq(k:Int):28≤kL k∧kL k≤31:=Ahv _ _
theorem kM_bd(k:Int):1≤kM k∧kM k≤12:=by unfold kM;omega
theorem k_of{y:Int}{m:Nat}(h1:1≤m)(h2:m≤12):kY (12*y+m-1)=y∧kM (12*y+m-1)=m:=by unfold kY kM;omega
theorem Air(k dd:Int):kDay k dd=dayOf (kY k) (kM k) (min dd (kL k)):=by unfold kDay kBeg dayOf;omega
theorem Ais(k:Int):kBeg (k+1)=kBeg k+kL k:=by
 unfold kL kBeg
 have hm:=kM_bd k
 rcases Nat.lt_or_ge (kM k) 12 with h|h
 ·have e1:kY (k+1)=kY k:=by unfold kM at h;unfold kY;omega
  have e2:kM (k+1)=kM k+1:=by unfold kM at h ⊢;omega
  rw[e1,e2,show kM k+1-1=kM k from rfl,Aih _ hm.1]
  omega
 ·have e1:kY (k+1)=kY k+1:=by unfold kM at h;unfold kY;omega
  have e2:kM (k+1)=1:=by unfold kM at h ⊢;omega
  have e3:kM k=12:=by omega
  rw[e1,e2,e3,Aht,←cum12,show cumB (leapB (kY k+1)) (1-1)=0 from rfl,Aih (leapB (kY k)) (m:=12) (by omega)]
  omega
theorem Ait(k:Int):∀n:Nat,kBeg k+28*n≤kBeg (k+n)∧kBeg (k+n)≤kBeg k+31*n
 | 0=>by simp
 | n+1=>by
   have ih:=Ait k n
   have h:=Ais (k+n)
   have hl:=Aiq (k+n)
   rw[show k+((n+1:Nat):Int)=k+n+1 from by omega]
   omega
theorem Aiu{k k':Int}(h:k<k'):kBeg k+kL k≤kBeg k':=by
 have h1:=(Ait (k+1) (k'-(k+1)).toNat).1
 rw[show k+1+((k'-(k+1)).toNat:Int)=k' from by omega] at h1
 rw[←Ais]
 omega
theorem Aiv{k dd:Int}(h1:1≤dd):kBeg k≤kDay k dd∧kDay k dd<kBeg k+kL k:=by
 have:=Aiq k
 unfold kDay
 omega
theorem Aiw{k k' dd:Int}(h1:1≤dd)(h:k<k'):kDay k dd<kDay k' dd:=by
 have a:=Aiv (k:=k) h1
 have b:=Aiv (k:=k') h1
 have c:=Aiu h
 omega
theorem Aix{k dd:Int}(h1:1≤dd)(n:Nat):kDay k dd+28*n-31≤kDay (k+n) dd∧kDay (k+n) dd≤kDay k dd+31*n+31:=by
 have a:=Aiv (k:=k) h1
 have b:=Aiv (k:=k+n) h1
 have c:=Ait k n
 have l1:=Aiq k
 have l2:=Aiq (k+n)
 omega
theorem Aiy{k dd:Int}(h1:1≤dd)(h0:22800≤k)(h2:k<26400):VDate (kY k) (kM k) (min dd (kL k)):=by
 have:=Aiq k
 refine⟨by unfold kY;omega,by unfold kY;omega,(kM_bd k).1,(kM_bd k).2,by omega,?_⟩
 show min dd (kL k)≤kL k
 omega
noncomputable def dK(d:Int):Int:=12*(Aim d).1+(Aim d).2.1-1
noncomputable def dD(d:Int):Int:=(Aim d).2.2
theorem dK_ok{d:Int}(h0:-25567≤d)(h1:d≤84005):kDay (dK d) (dD d)=d∧22800≤dK d∧dK d<26400∧1≤dD d∧dD d≤31:=by
 obtain⟨⟨a1,a2,a3,a4,a5,a6⟩,hd⟩:=Aip h0 h1
 obtain⟨e1,e2⟩:=k_of (y:=(Aim d).1) a3 a4
 have hl:=(Ahv (leapB (Aim d).1) (Aim d).2.1).2
 refine⟨?_,by unfold dK;omega,by unfold dK;omega,a5,by unfold dD;omega⟩
 unfold dK dD
 rw[Air]
 unfold kL
 rw[e1,e2,Int.min_eq_left a6]
 exact hd
theorem dK_eq{y:Int}{m:Nat}{dd d:Int}(h:VDate y m dd)(hd:dayOf y m dd=d):dK d=12*y+m-1∧dD d=dd:=by
 unfold dK dD
 rw[Ain h hd]
 exact⟨rfl,rfl⟩
noncomputable def addM(d n:Int):Option Int:=if (-4800≤n∧n≤4800)∧22800≤dK d+n∧dK d+n<26400 then some (kDay (dK d+n) (dD d)) else none
theorem Aiz{d n x:Int}(h:addM d n=some x):x=kDay (dK d+n) (dD d)∧-4800≤n∧n≤4800∧22800≤dK d+n∧dK d+n<26400:=by
 unfold addM at h
 split at h
 case isTrue hc=>injection h with h;exact⟨h.symm,hc.1.1,hc.1.2,hc.2.1,hc.2.2⟩
 case isFalse=>cases h
noncomputable def cutAt(a b mo:Int)(j:Nat):Option Int:=match addM b (-(j*mo)) with
 | some d=>if a<d then some d else none
 | none=>none
noncomputable def cutsF(a b mo:Int):Nat→Nat→List Int
 | 0,_=>[]
 | f+1,j=>match cutAt a b mo j with
   | some d=>d::cutsF a b mo f (j+1)
   | none=>[]
noncomputable def cuts(a b mo:Int):List Int:=cutsF a b mo 4801 1
theorem Ai0{a b mo d:Int}{j:Nat}(h:cutAt a b mo j=some d):addM b (-(j*mo))=some d∧a<d:=by
 unfold cutAt at h
 split at h
 ·rename_i x hx
  split at h
  ·injection h with h;subst h;exact⟨hx,by assumption⟩
  ·cases h
 ·cases h
theorem Ai1{a b mo d:Int}{j:Nat}(h:addM b (-(j*mo))=some d)(hl:a<d):cutAt a b mo j=some d:=by
 unfold cutAt;rw[h];exact if_pos hl
theorem Ai2{a b mo:Int}{j:Nat}(h:∀d,addM b (-(j*mo))=some d→d≤a):cutAt a b mo j=none:=by
 unfold cutAt
 split
 ·rename_i x hx
  exact if_neg (Int.not_lt.2 (h x hx))
 ·rfl
theorem Ai3(a b mo:Int):∀(f j i:Nat) (d:Int),(cutsF a b mo f j)[i]?=some d→cutAt a b mo (j+i)=some d
 | 0,_,_,_,h=>by simp[cutsF] at h
 | f + 1, j, i, d, h => by
   unfold cutsF at h
   split at h
   ·rename_i x hx
    cases i with
    | zero=>simp at h;subst h;exact hx
    | succ i =>
      have:=Ai3 a b mo f (j+1) i d (by simpa using h)
      rwa [show j+(i+1)=j+1+i from by omega]
   ·simp at h
theorem Ai4(a b mo:Int):∀(f j:Nat),(cutsF a b mo f j).length<f→cutAt a b mo (j+(cutsF a b mo f j).length)=none
 | 0,_,h=>absurd h (Nat.not_lt_zero _)
 | f+1,j,h=>by
   unfold cutsF at h ⊢
   split at h
   ·rename_i x hx
    rw[List.length_cons] at h ⊢
    have:=Ai4 a b mo f (j+1) (by omega)
    rwa [show j+((cutsF a b mo f (j+1)).length+1)=j+1+(cutsF a b mo f (j+1)).length from by omega]
   ·rename_i hx
    exact hx
theorem Ai5{a b mo d:Int}{i:Nat}(h:(cuts a b mo)[i]?=some d):addM b (-(((i+1:Nat):Int)*mo))=some d∧a<d:=by
 have:=Ai3 a b mo 4801 1 i d h
 rw[Nat.add_comm 1 i] at this
 exact Ai0 this
theorem Ai6{a b mo:Int}(hmo:1≤mo):(cuts a b mo).length≤4800:=by
 rcases Nat.lt_or_ge 4800 (cuts a b mo).length with h|h
 ·obtain⟨d,hd⟩:∃d,(cuts a b mo)[4800]?=some d:=⟨_,List.getElem?_eq_getElem h⟩
  have h1:=(Aiz (Ai5 hd).1).2.1
  have:(4801:Int)*1≤4801*mo:=Int.mul_le_mul_of_nonneg_left hmo (by decide)
  rw[show (((4800+1:Nat)):Int)=4801 from rfl] at h1
  omega
 ·exact h
theorem Ai7{a b mo:Int}(hmo:1≤mo):cutAt a b mo ((cuts a b mo).length+1)=none:=by
 have:=Ai4 a b mo 4801 1 (by have:=Ai6 (a:=a) (b:=b) hmo;unfold cuts at this;omega)
 rwa [Nat.add_comm 1] at this
theorem Ai8{a b mo:Int}(hmo:1≤mo){i:Nat}(h:i≤(cuts a b mo).length):(cuts a b mo)[i]?=cutAt a b mo (i+1):=by
 rcases Nat.lt_or_ge i (cuts a b mo).length with h1|h1
 ·obtain⟨d,hd⟩:∃d,(cuts a b mo)[i]?=some d:=⟨_,List.getElem?_eq_getElem h1⟩
  obtain⟨g1,g2⟩:=Ai5 hd
  rw[hd,Ai1 g1 g2]
 ·have e:i=(cuts a b mo).length:=by omega
  rw[e,Ai7 hmo]
  exact List.getElem?_eq_none (Nat.le_refl _)
theorem Ai9{a b mo:Int}(hmo:1≤mo)(h0:-25567≤b)(h1:b≤84005){i j:Nat}{x y:Int}(hij:i<j)(hx:(cuts a b mo)[i]?=some x)(hy:(cuts a b mo)[j]?=some y):y<x:=by
 obtain⟨ex,_⟩:=Aiz (Ai5 hx).1
 obtain⟨ey,_⟩:=Aiz (Ai5 hy).1
 obtain⟨_,_,_,hd,_⟩:=dK_ok h0 h1
 rw[ex,ey]
 refine Aiw hd ?_
 have:((i+1:Nat):Int)*mo<((j+1:Nat):Int)*mo:=Int.mul_lt_mul_of_pos_right (by omega) (by omega)
 omega
theorem Aja{a b mo:Int}(hmo:1≤mo)(h0:-25567≤b)(h1:b≤84005){x:Int}(hx:x∈cuts a b mo):a<x∧x<b:=by
 obtain⟨i,hi⟩:=List.getElem?_of_mem hx
 obtain⟨g1,g2⟩:=Ai5 hi
 refine⟨g2,?_⟩
 obtain⟨ex,_⟩:=Aiz g1
 obtain⟨eb,_,_,hd,_⟩:=dK_ok h0 h1
 rw[ex]
 conv=>rhs;rw[←eb]
 refine Aiw hd ?_
 have:(1:Int)*1≤((i+1:Nat):Int)*mo:=Int.mul_le_mul (by omega) hmo (by omega) (by omega)
 omega
theorem Ajb{a b mo:Int}(hmo:1≤mo)(h0:-25567≤b)(h1:b≤84005)(hs:b-a≤372*mo):(cuts a b mo).length≤14:=by
 rcases Nat.lt_or_ge 14 (cuts a b mo).length with h|h
 ·obtain⟨d,hd⟩:∃d,(cuts a b mo)[14]?=some d:=⟨_,List.getElem?_eq_getElem h⟩
  obtain⟨g1,g2⟩:=Ai5 hd
  obtain⟨ex,_⟩:=Aiz g1
  obtain⟨eb,_,_,hdd,_⟩:=dK_ok h0 h1
  have hg:=(Aix (k:=dK b+-(((14+1:Nat):Int)*mo)) hdd (15*mo).toNat).1
  rw[show dK b+-(((14+1:Nat):Int)*mo)+((15*mo).toNat:Int)=dK b from by omega,eb,←ex] at hg
  omega
 ·exact h
theorem Ajc{a b mo:Int}(hmo:1≤mo)(hm2:mo≤12)(ha:-25567≤a)(h0:-25567≤b)(h1:b≤84005)(hs:12462*mo≤b-a):400≤(cuts a b mo).length:=by
 rcases Nat.lt_or_ge (cuts a b mo).length 400 with h|h
 ·have he:=Ai7 (a:=a) (b:=b) hmo
  obtain⟨eb,hk0,hk1,hdd,hd31⟩:=dK_ok h0 h1
  obtain⟨ea,ak0,ak1,add',_⟩:=dK_ok ha (by omega:a≤84005)
  obtain⟨L,hL⟩:∃L,(cuts a b mo).length+1=L:=⟨_,rfl⟩
  rw[hL] at he
  have hLm:(L:Int)*mo≤400*mo:=Int.mul_le_mul_of_nonneg_right (by omega) (by omega)
  have hL0:0≤(L:Int)*mo:=Int.mul_nonneg (by omega) (by omega)
  have hg:=(Aix (k:=dK b+-((L:Int)*mo)) hdd ((L:Int)*mo).toNat).2
  rw[show dK b+-((L:Int)*mo)+(((L:Int)*mo).toNat:Int)=dK b from by omega,eb] at hg
  have hlt:a<kDay (dK b+-((L:Int)*mo)) (dD b):=by omega
  have hk:dK a≤dK b+-((L:Int)*mo):=by
   rcases Int.lt_or_le (dK b+-((L:Int)*mo)) (dK a) with h2|h2
   ·have c1:=Aiv (k:=dK b+-((L:Int)*mo)) hdd
    have c2:=Aiv (k:=dK a) add'
    have c3:=Aiu h2
    omega
   ·exact h2
  have hs:addM b (-((L:Int)*mo))=some (kDay (dK b+-((L:Int)*mo)) (dD b)):=by
   unfold addM
   rw[if_pos ⟨⟨by omega,by omega⟩,by omega,by omega⟩]
  rw[Ai1 hs hlt] at he
  cases he
 ·exact h
def pairs:List Int→List (Int×Int)
 | a::b::r=>(a,b)::pairs (b::r)
 | _=>[]
theorem pairs_len:∀l:List Int,(pairs l).length=l.length-1
 | []=>rfl
 | [_]=>rfl
 | a::b::r=>by
   rw[pairs,List.length_cons,pairs_len (b::r)]
   rfl
theorem pairs_get:∀(l:List Int) (i:Nat),(pairs l)[i]?=(match l[i]?,l[i+1]? with|some a,some b=>some (a,b)|_,_=>none)
 | [],i=>by simp[pairs]
 | [a],i=>by cases i<;>simp[pairs]
 | a :: b :: r, i => by
   cases i with
   | zero=>simp[pairs]
   | succ i =>
     rw[pairs,List.getElem?_cons_succ,pairs_get (b::r) i]
     rfl
noncomputable def ends(a b mo:Int):List Int:=a::((cuts a b mo).reverse++[b])
noncomputable def pers(a b mo:Int):List (Int×Int):=pairs (ends a b mo)
theorem Ajd(a b mo:Int):(pers a b mo).length=(cuts a b mo).length+1:=by
 unfold pers ends
 rw[pairs_len,List.length_cons,List.length_append,List.length_reverse]
 rfl
theorem Aje{a b mo:Int}(hmo:1≤mo)(h0:-25567≤b)(h1:b≤84005)(hab:a<b):(ends a b mo).Pairwise (·<·):=by
 unfold ends
 rw[List.pairwise_cons,List.pairwise_append]
 refine⟨fun x hx=>?_,?_,List.pairwise_singleton _ _,fun x hx y hy=>?_⟩
 ·rw[List.mem_append,List.mem_reverse,List.mem_singleton] at hx
  rcases hx with hx|rfl
  ·exact (Aja hmo h0 h1 hx).1
  ·exact hab
 ·rw[List.pairwise_reverse,List.pairwise_iff_getElem]
  intro i j hi hj hij
  exact Ai9 hmo h0 h1 hij (List.getElem?_eq_getElem hi) (List.getElem?_eq_getElem hj)
 ·rw[List.mem_reverse] at hx
  rw[List.mem_singleton] at hy
  subst hy
  exact (Aja hmo h0 h1 hx).2
end Tr
namespace Go.Proofs.YteennkgpeiafaaaGreatDoor
open Go.RowKit Tr Go.Shelf
def addV(o:Option Int):Value:=match o with
 | some x=>.tuple #[.int .i64 x,.int .i64 0]
 | none=>.tuple #[.int .i64 0,.int .i64 13]
theorem Ajf(x:Int):addV (some x)=.tuple #[.int .i64 x,.int .i64 0]:=rfl
theorem addV_none:addV none=.tuple #[.int .i64 0,.int .i64 13]:=rfl
theorem Ajg{d n K y dd:Int}{m:Nat}(h:VDate y m dd)(hd:dayOf y m dd=d)(h0:-4800≤n)(h1:n≤4800)(hK:12*y+(m:Int)-1+n=K):
 addM d n=if 22800≤K∧K<26400 then some (kDay K dd) else none:=by
 obtain⟨eK,eD⟩:=dK_eq h hd
 have e:dK d+n=K:=by rw[eK];omega
 unfold addM
 rw[e,eD]
 by_cases hc:22800≤K∧K<26400
 ·rw[if_pos ⟨⟨h0,h1⟩,hc⟩,if_pos hc]
 ·rw[if_neg (fun x=>hc x.2),if_neg hc]
theorem Ajh(d n:Int)(hd:okDay d)(h0:-4800≤n)(h1:n≤4800)(w:World):
 Calls Tryz.prog 213 #[.int .i64 d,.int .i64 n] w fun e w'=>e=.returned (addV (addM d n))∧Below w.heap.size w w':=by
 have HP:=Lib.hid (Ah8 d hd w)
 have HLN:=Lib.hid (fun (K:Int) (h0:22800≤K) (h1:K<26400) W=>Ah2 (kY K) (kM K) (by unfold kY;omega) (by unfold kY;omega) (kM_bd K).1 (kM_bd K).2 W)
 have HOF:=Lib.hid (fun (K dd:Int) (hv:VDate (kY K) (kM K) (min dd (kL K))) W=>Ah5 (kY K) (kM K) (min dd (kL K)) hv W)
 have c1:decide (n < -4800)=false:=decide_eq_false (by omega)
 have c2:decide (4800<n)=false:=decide_eq_false (by omega)
 have c3:decide (n > 4800)=false:=decide_eq_false (by omega)
 go_enter Tryz.func213,Tryz.ntmps213
 go_wp2_with fail
 refine HP.out.mono ?_
 rintro e w1 ⟨y,m,dd,rfl,hv,hdy,hB1⟩
 obtain⟨K,hK⟩:∃K,12*y+(m:Int)-1+n=K:=⟨_,rfl⟩
 have HE:=Lib.hid (Ajg hv hdy h0 h1 hK)
 obtain⟨v1,v2,v3,v4,v5,v6⟩:=hv
 have hkp:18000≤K:=by omega
 have hku:K≤40000:=by omega
 have hq:K.tdiv 12=kY K:=by rw[Int.tdiv_eq_ediv_of_nonneg (by omega)];rfl
 have hr:K % 12+1=(kM K:Int):=by unfold kM;omega
 have hy0:1500≤kY K:=by unfold kY;omega
 have hy9:kY K≤3400:=by unfold kY;omega
 by_cases hc:22800≤K∧K<26400
 ·have hy1:decide (kY K<1900)=false:=decide_eq_false (by unfold kY;omega)
  have hy2:decide (2199<kY K)=false:=decide_eq_false (by unfold kY;omega)
  have hy3:decide (kY K > 2199)=false:=decide_eq_false (by unfold kY;omega)
  have HV:=Lib.hid (Aiy (k:=K) v5 hc.1 hc.2)
  have HD:=Lib.hid (Air K dd)
  have HLL:=Lib.hid (HLN.out K hc.1 hc.2)
  have HO:=Lib.hid (HOF.out K dd HV.out)
  rw[if_pos hc] at HE
  clear hc HOF HLN HV
  go_wp2_with fail
  refine (HLL.out _).mono ?_
  rintro e w2 ⟨rfl,hB2⟩
  go_wp2_with fail
  refine (HO.out _).mono ?_
  rintro e w3 ⟨rfl,hB3⟩
  go_wp2_with fail
  go_ret2
  have b2:=hB1.trans (hB2.mono hB1.size)
  exact⟨by rw[HE.out,HD.out];rfl,b2.trans (hB3.mono b2.size)⟩
 ·have hx:decide (kY K<1900)=true∨(decide (kY K<1900)=false∧decide (kY K > 2199)=true):=by
   rcases Int.lt_or_le K 22800 with h|h
   ·exact .inl (decide_eq_true (by unfold kY;omega))
   ·exact .inr ⟨decide_eq_false (by unfold kY;omega),decide_eq_true (by unfold kY;omega)⟩
  rw[if_neg hc] at HE
  clear hc HOF HLN
  rcases hx with hx|⟨hx,hx2⟩
  all_goals (go_wp2_with fail;go_ret2;exact⟨by rw[HE.out];rfl,hB1⟩)
theorem sChk_ok(mo:Int)(h0:1≤mo)(h1:mo≤4800)(w:World):
 Calls Tryz.prog 155 #[.bool true,.int .i64 mo,.int .i64 1] w fun e w'=>e=.returned (.int .i64 0)∧w=w':=by
 have c1:decide (mo<1)=false:=decide_eq_false (by omega)
 have c2:decide (4800<mo)=false:=decide_eq_false (by omega)
 clear h0 h1
 go_enter Tryz.func155,Tryz.ntmps155
 go_wp2_with fail
 go_ret
 exact⟨rfl,rfl⟩
theorem Aji(d:Int)(hd:okDay d)(w:World):Calls Tryz.prog 211 #[.int .i64 d] w fun e w'=>e=.returned (.bool false)∧w=w':=by
 have c1:decide (d < -25567)=false:=decide_eq_false (by unfold okDay at hd;omega)
 have c2:decide (84005<d)=false:=decide_eq_false (by unfold okDay at hd;omega)
 clear hd
 go_enter Tryz.func211,Tryz.ntmps211
 go_wp2_with fail
 go_ret
 exact⟨rfl,rfl⟩
theorem Ajj(g:Nat)(a b:Int)(c:Nat)(ha:okDay a)(hb:okDay b)(w:World)(ca:w.cell? ⟨g,0,none⟩=some (.int .i64 a))(cb:w.cell? ⟨g,1,none⟩=some (.int .i64 b)):
 Calls Tryz.prog 264 #[.slice (some ⟨g,0,none⟩) 2 c,.func (.func 211) #[] #[]] w fun e w'=>e=.returned (.int .i64 (-1))∧w=w':=by
 have HA:=Lib.hid (fun W=>Aji a ha W)
 have HB:=Lib.hid (fun W=>Aji b hb W)
 clear ha hb
 go_enter Tryz.func264,Tryz.ntmps264
 go_wp2_with fail
 go_loop [8] (fun v=>∃k:Nat,v=.int .i64 (k:Int)∧k≤2) (fun v=>2-(intOf v).toNat)
 case atStart=>exact⟨0,rfl,by omega⟩
 case round =>
  obtain⟨k,rfl,hk⟩:=hrel
  obtain rfl|rfl|rfl:k=0∨k=1∨k=2:=by omega
  ·rw[show ((0:Nat):Int)=0 from rfl]
   go_wp2_with fail
   refine (HA.out _).mono ?_
   rintro e w1 ⟨rfl,rfl⟩
   go_wp2_with fail
   go_round
   case rel=>exact⟨1,rfl,by omega⟩
   case measure=>simp[intOf]
  ·rw[show ((1:Nat):Int)=1 from rfl]
   go_wp2_with fail
   refine (HB.out _).mono ?_
   rintro e w1 ⟨rfl,rfl⟩
   go_wp2_with fail
   go_round
   case rel=>exact⟨2,rfl,by omega⟩
   case measure=>simp[intOf]
  ·rw[show ((2:Nat):Int)=2 from rfl]
   go_wp2_with fail
   go_ret
   exact⟨rfl,rfl⟩
theorem Ajk(g:Nat)(a b:Int)(c:Nat)(ha:okDay a)(hb:okDay b)(w:World)(ca:w.cell? ⟨g,0,none⟩=some (.int .i64 a))(cb:w.cell? ⟨g,1,none⟩=some (.int .i64 b)):
 Calls Tryz.prog 156 #[.slice (some ⟨g,0,none⟩) 2 c] w fun e w'=>e=.returned (.bool true)∧w=w':=by
 have HC:∀W:World,W=w→Calls Tryz.prog 210 #[.slice (some ⟨g,0,none⟩) 2 c,.func (.func 211) #[] #[]] W fun e w'=>e=.returned (.bool false)∧W=w':=by
  intro W hW
  have HI:=Lib.hid (Ajj g a b c ha hb w ca cb)
  subst hW
  clear ha hb ca cb
  go_enter Tryz.func210,Tryz.ntmps210
  go_wp2_with fail
  refine HI.out.mono ?_
  rintro e w1 ⟨rfl,rfl⟩
  go_wp2_with fail
  go_ret
  exact⟨rfl,rfl⟩
 have H:=Lib.hid (HC w rfl)
 clear HC ha hb ca cb
 go_enter Tryz.func156,Tryz.ntmps156
 go_wp2_with fail
 refine H.out.mono ?_
 rintro e w1 ⟨rfl,rfl⟩
 go_wp2_with fail
 go_ret
 exact⟨rfl,rfl⟩
theorem Ajm(a b mo:Int)(w:World):
 Calls Tryz.prog 157 #[.agg #[.int .i64 a,.int .i64 b],.int .i64 mo,.int .i64 1] w fun e w'=>e=.returned (.func (.func 212) #[] #[.pointer (some ⟨w.heap.size,0,none⟩),.pointer (some ⟨w.heap.size+2,0,none⟩),.pointer (some ⟨w.heap.size+1,0,none⟩)]) ∧
  w'=((w.alloc (.cells #[.int .i64 a,.int .i64 b] 50)).alloc (.cells #[.int .i64 mo] 3)).alloc (.cells #[.int .i64 1] 3):=by
 go_enter Tryz.func157,Tryz.ntmps157
 go_wp2_with fail
 go_ret
 exact⟨rfl,rfl⟩
end Go.Proofs.YteennkgpeiafaaaGreatDoor
namespace Tr
def d30(c:Int)(y:Int)(m:Nat)(d:Int)(z:Int)(n:Nat)(e:Int):Int :=
 360*(z-y)+30*((n:Int)-m)+(if c=4∨min d 30=30 then min e 30 else e)-min d 30
noncomputable def Ajn(c a b:Int):Int:=d30 c (Aim a).1 (Aim a).2.1 (Aim a).2.2 (Aim b).1 (Aim b).2.1 (Aim b).2.2
theorem Ajp{c a b:Int}{y z:Int}{m n:Nat}{d e:Int}(h:VDate y m d)(ha:dayOf y m d=a)(k:VDate z n e)(hb:dayOf z n e=b):Ajn c a b=d30 c y m d z n e:=by
 unfold Ajn
 rw[Ain h ha,Ain k hb]
theorem Ajq{y:Int}{m:Nat}{d:Int}(h:VDate y m d)(hl:dayOf y m d<84005):
 (VDate y m (d+1)∧dayOf y m (d+1)=dayOf y m d+1)∨(d=lenB (leapB y) m∧m<12∧VDate y (m+1) 1∧dayOf y (m+1) 1=dayOf y m d+1)∨(d=31∧m=12∧VDate (y+1) 1 1∧dayOf (y+1) 1 1=dayOf y m d+1):=by
 obtain⟨h1,h2,h3,h4,h5,h6⟩:=h
 rcases Int.lt_or_le d (lenB (leapB y) m) with hd|hd
 ·exact .inl ⟨⟨h1,h2,h3,h4,by omega,by omega⟩,by unfold dayOf;omega⟩
 ·have hc:=Aih (leapB y) h3
  rcases Nat.lt_or_ge m 12 with hm|hm
  ·exact .inr (.inl ⟨by omega,hm,⟨h1,h2,by omega,by omega,by omega,by have:=(Ahv (leapB y) (m+1)).1;omega⟩,by unfold dayOf;rw[show m+1-1=m from rfl,hc];omega⟩)
  ·have h12:m=12:=by omega
   subst h12
   have hb:=Aht y
   have c12:=cum12 (leapB y)
   have hl12:lenB (leapB y) 12=31:=by unfold lenB;rw[if_neg (by omega),if_neg (by omega)]
   have e:dayOf y 12 d+1=-25567+bg (y+1):=by unfold dayOf;rw[hb,←c12,hc];omega
   have hy:y+1≤2199:=by
    rcases Int.lt_or_le y 2199 with hy|hy
    ·omega
    ·have e2:y=2199:=by omega
     have h9:bg 2200=109573:=by decide
     rw[show y+1=2200 from by omega,h9] at e
     omega
   refine .inr (.inr ⟨by omega,rfl,⟨by omega,hy,by omega,by omega,by omega,by have:=(Ahv (leapB (y+1)) 1).1;omega⟩,?_⟩)
   rw[e]
   unfold dayOf
   rw[show cumB (leapB (y+1)) (1-1)=0 from rfl]
   omega
theorem Ajr{c y z:Int}{m n:Nat}{d e:Int}(h:VDate y m d)(k:VDate z n e)(hl:dayOf z n e<84005):∃(z':Int) (n':Nat) (e':Int),VDate z' n' e'∧dayOf z' n' e'=dayOf z n e+1∧d30 c y m d z n e≤d30 c y m d z' n' e':=by
 rcases Ajq k hl with⟨h1,h2⟩|⟨h0,h3,h1,h2⟩|⟨h0,h3,h1,h2⟩
 ·refine⟨_,_,_,h1,h2,?_⟩
  unfold d30
  split<;>omega
 ·have hl2:=Ahv (leapB z) n
  refine⟨_,_,_,h1,h2,?_⟩
  unfold d30
  have h4:e≤31:=by omega
  split<;>omega
 ·refine⟨_,_,_,h1,h2,?_⟩
  unfold d30
  subst h0 h3
  split<;>omega
theorem Ajs(c a b:Int)(ha:-25567≤a)(ha2:a≤84005)(hb:-25567≤b)(n:Nat):b+n≤84005→Ajn c a b≤Ajn c a (b+n):=by
 induction n with
 | zero=>intro _;rw[show b+((0:Nat):Int)=b from by omega];exact Int.le_refl _
 | succ n ih =>
   intro hn
   refine Int.le_trans (ih (by omega)) ?_
   obtain⟨y,m,d,hv,hd⟩:=Aik ha ha2
   obtain⟨z,k,e,hw,he⟩:=Aik (d:=b+n) (by omega) (by omega)
   obtain⟨z',k',e',hw',he',hle⟩:=Ajr (c:=c) hv hw (by omega)
   rw[Ajp hv hd hw he,Ajp hv hd hw' (by rw[he',he];omega:dayOf z' k' e'=b+((n+1:Nat):Int))]
   exact hle
theorem Ajt{c a b b':Int}(ha:-25567≤a)(ha2:a≤84005)(hb:-25567≤b)(h:b≤b')(hb2:b'≤84005):Ajn c a b≤Ajn c a b':=by
 have:=Ajs c a b ha ha2 hb (b'-b).toNat (by omega)
 rwa [show b+((b'-b).toNat:Int)=b' from by omega] at this
theorem Aju{c a:Int}(ha:-25567≤a)(ha2:a≤84005):Ajn c a a=0:=by
 obtain⟨y,m,d,hv,hd⟩:=Aik ha ha2
 rw[Ajp hv hd hv hd]
 unfold d30
 split<;>omega
theorem Ajv{c a b:Int}(ha:-25567≤a)(ha2:a≤84005)(hb:-25567≤b)(hb2:b≤84005):(Ajn c a b).natAbs≤200000:=by
 obtain⟨y,m,d,⟨a1,a2,a3,a4,a5,a6⟩,hd⟩:=Aik ha ha2
 obtain⟨z,k,e,⟨b1,b2,b3,b4,b5,b6⟩,he⟩:=Aik hb hb2
 have l1:=Ahv (leapB y) m
 have l2:=Ahv (leapB z) k
 rw[Ajp ⟨a1,a2,a3,a4,a5,a6⟩ hd ⟨b1,b2,b3,b4,b5,b6⟩ he]
 unfold d30
 split<;>omega
noncomputable def yrs(d:Int):Rat:=((Aim d).1:Rat)+((d+25567-bg (Aim d).1:Int):Rat) / (ylen (leapB (Aim d).1):Rat)
theorem Ajw(lp:Bool):0<ylen lp∧365≤ylen lp∧ylen lp≤366:=by unfold ylen;cases lp<;>decide
theorem yrs_eq{y:Int}{m:Nat}{dd d:Int}(h:VDate y m dd)(hd:dayOf y m dd=d):yrs d=(y:Rat)+((d+25567-bg y:Int):Rat) / (ylen (leapB y):Rat):=by
 unfold yrs
 rw[Ain h hd]
theorem Ajx{y d:Int}(h0:1900≤y)(h1:y≤2199)(h2:bg y≤d+25567)(h3:d+25567<bg (y+1)):yrs d=(y:Rat)+((d+25567-bg y:Int):Rat) / (ylen (leapB y):Rat):=by
 have b0:=Ahx h0
 have b1:=Ahx (x:=y+1) (y:=2200) (by omega)
 have c1:bg 1900=0:=by decide
 have c2:bg 2200=109573:=by decide
 obtain⟨z,n,e,hv,he⟩:=Aik (d:=d) (by omega) (by omega)
 have hi:=Ahw hv
 rw[he] at hi
 have hz:z=y:=by
  rcases Int.lt_trichotomy z y with h|h|h
  ·have:=Ahx (x:=z+1) (y:=y) (by omega);omega
  ·exact h
  ·have:=Ahx (x:=y+1) (y:=z) (by omega);omega
 rw[←hz]
 exact yrs_eq hv he
theorem Ajy{y d:Int}(h0:1900≤y)(h1:y≤2199)(h2:bg y≤d+25567)(h3:d+25567<bg (y+1)):(y:Rat)≤yrs d∧yrs d<(y:Rat)+1:=by
 rw[Ajx h0 h1 h2 h3]
 have hl:=Ajw (leapB y)
 rw[Aht] at h3
 have hp:(0:Rat)<(ylen (leapB y):Rat):=Rat.intCast_pos.2 hl.1
 have e1:(0:Rat)≤((d+25567-bg y:Int):Rat) / (ylen (leapB y):Rat):=by
  rw[Rat.div_def]
  exact Rat.mul_nonneg (Rat.intCast_nonneg.2 (by omega)) (Rat.le_of_lt (Rat.inv_pos.2 hp))
 have e2:((d+25567-bg y:Int):Rat) / (ylen (leapB y):Rat)<1:=by
  rw[Rat.div_lt_iff hp,Rat.one_mul]
  exact Rat.intCast_lt_intCast.2 (by omega)
 constructor<;>grind
theorem Ajz{d:Int}(h0:-25567≤d)(h1:d≤84005):∃y:Int,1900≤y∧y≤2199∧bg y≤d+25567∧d+25567<bg (y+1):=by
 obtain⟨y,m,dd,hv,hd⟩:=Aik h0 h1
 have hi:=Ahw hv
 rw[hd] at hi
 exact⟨y,hv.1,hv.2.1,hi.1,hi.2⟩
theorem Aj0{a b:Int}(h0:-25567≤a)(h:a≤b)(h1:b≤84005):yrs a≤yrs b:=by
 obtain⟨y,y0,y1,y2,y3⟩:=Ajz h0 (by omega)
 obtain⟨z,z0,z1,z2,z3⟩:=Ajz (d:=b) (by omega) h1
 rcases Int.lt_trichotomy y z with hc|hc|hc
 ·have e1:=(Ajy y0 y1 y2 y3).2
  have e2:=(Ajy z0 z1 z2 z3).1
  have e3:(y:Rat)+1≤(z:Rat):=by
   have:((y+1:Int):Rat)≤(z:Rat):=Rat.intCast_le_intCast.2 (by omega)
   rwa [Rat.intCast_add] at this
  grind
 ·subst hc
  rw[Ajx y0 y1 y2 y3,Ajx z0 z1 z2 z3]
  have hl:=Ajw (leapB y)
  have hp:(0:Rat)<(ylen (leapB y):Rat):=Rat.intCast_pos.2 hl.1
  have e:((a+25567-bg y:Int):Rat) / (ylen (leapB y):Rat)≤((b+25567-bg y:Int):Rat) / (ylen (leapB y):Rat):=by
   rw[Rat.div_def,Rat.div_def]
   exact Rat.mul_le_mul_of_nonneg_right (Rat.intCast_le_intCast.2 (by omega)) (Rat.le_of_lt (Rat.inv_pos.2 hp))
  grind
 ·have:=Ahx (x:=z+1) (y:=y) (by omega)
  omega
theorem Aj1{y a e:Int}(h0:1900≤y)(h1:y≤2199)(h2:bg y≤a+25567)(hae:a≤e)(h3:a+25567<bg (y+1))(h4:e+25567≤bg (y+1))(h5:e≤84005):yrs e=yrs a+((e-a:Int):Rat) / (ylen (leapB y):Rat):=by
 have hl:=Ajw (leapB y)
 have hp:(ylen (leapB y):Rat)≠0:=by
  have:(0:Rat)<(ylen (leapB y):Rat):=Rat.intCast_pos.2 hl.1
  grind
 rw[Ajx h0 h1 h2 h3]
 rcases Int.lt_or_le (e+25567) (bg (y+1)) with hc|hc
 ·rw[Ajx h0 h1 (by omega) hc]
  have e1:((e+25567-bg y:Int):Rat)=((a+25567-bg y:Int):Rat)+((e-a:Int):Rat):=by rw[←Rat.intCast_add];congr 1;omega
  rw[e1,Rat.div_def,Rat.div_def,Rat.div_def]
  grind
 ·have c2:bg 2200=109573:=by decide
  have hy:y+1≤2199:=by
   rcases Int.lt_or_le y 2199 with h|h
   ·omega
   ·rw[show y+1=2200 from by omega,c2] at hc;omega
  have hb2:=Aht (y+1)
  have hl2:=Ajw (leapB (y+1))
  rw[Ajx (y:=y+1) (by omega) hy (by omega) (by omega)]
  have e0:e+25567-bg (y+1)=0:=by omega
  have e1:((a+25567-bg y:Int):Rat)+((e-a:Int):Rat)=(ylen (leapB y):Rat):=by
   rw[←Rat.intCast_add];congr 1
   have:=Aht y
   omega
  have e2:((a+25567-bg y:Int):Rat) / (ylen (leapB y):Rat)+((e-a:Int):Rat) / (ylen (leapB y):Rat)=1:=by
   rw[Rat.div_def,Rat.div_def,←Rat.add_mul,e1]
   exact Rat.mul_inv_cancel _ hp
  rw[e0,Rat.intCast_add]
  have e3:((0:Int):Rat) / (ylen (leapB (y+1)):Rat)=0:=by rw[Rat.div_def];exact Rat.zero_mul _
  rw[e3]
  have e4:((1:Int):Rat)=1:=rfl
  grind
noncomputable def dcF(c a b:Int):Rat :=
 if c=5 then yrs b-yrs a
 else if c=2 then ((b-a:Int):Rat) / 365
 else if c=1 then ((b-a:Int):Rat) / 360
 else ((Ajn c a b:Int):Rat) / 360
end Tr
namespace Go.Proofs.YteennkgpeiafaaaGreatDoor
open Go.RowKit Tr Go.Shelf
theorem Aj2(a b:ByteArray)(K:Nat)(hK:K≤70000)(ha:a.size≤1000000)(hb:b.size≤1000000)(hx:(vl a).natAbs<10^K)(hy:(vl b).natAbs<10^K)(w:World):
 Calls Tryz.prog 196 #[.string a,.string b] w fun e w'=>e=.returned (.string (I (Nat.gcd (vl a).natAbs (vl b).natAbs:Nat)))∧Below w.heap.size w w':=by
 have HA:=Adp a ha
 have HB:=Adp b hb
 generalize vl a=x at *
 generalize vl b=y at *
 have e1:∀z:Int,bs (digits z.natAbs)=I (z.natAbs:Int):=fun z=>by unfold I;rw[Acd]
 rw[e1] at HA HB
 have HA:=Lib.hid HA
 have HB:=Lib.hid HB
 generalize x.natAbs=m at *
 generalize y.natAbs=n at *
 clear ha hb e1
 go_enter Tryz.func196,Tryz.ntmps196
 go_wp2_with fail
 refine (HA.out _).mono ?_
 rintro e w1 ⟨rfl,rfl⟩
 go_wp2_with fail
 refine (HB.out _).mono ?_
 rintro e w1 ⟨rfl,rfl⟩
 go_wp2_with fail
 clear HA HB
 go_loopw [9,10] (fun v9 v10 w1=>∃(p q:Nat),v9=.string (I (p:Int))∧v10=.string (I (q:Int))∧p<10^K∧q<10^K∧Nat.gcd p q=Nat.gcd m n∧Below w.heap.size w w1) (fun _ v10 _=>(vl (match v10 with|.string s=>s|_=>⟨#[]⟩)).natAbs)
 case atStart=>exact⟨m,n,rfl,rfl,hx,hy,rfl,Below.refl _ _⟩
 case round =>
  obtain⟨p,q,rfl,rfl,hp,hq,hg,hB⟩:=hrel
  have HPB:=Lib.hid hp
  have HQB:=Lib.hid hq
  have HB:=Lib.hid hB
  have HG:=Lib.hid hg
  clear hB hg
  rcases Nat.eq_zero_or_pos q with h0|h0
  ·subst h0
   clear hp hq
   have e0:((I ((0:Nat):Int)).toList==[])=true:=by rw[Lib.toList_data];rfl
   have e1:((I 0).toList==[])=true:=by rw[Lib.toList_data];rfl
   have HR:Hid ((p:Nat)=Nat.gcd m n):=by rw[Hid,←HG.out];simp
   go_wp2_with fail
   go_ret
   exact⟨by rw[←HR.out];rfl,HB.out⟩
  ·have e0:((I (q:Int)).toList==[])=false:=by
    rw[Lib.toList_data]
    rw[beq_eq_false_iff_ne]
    intro e
    have:=can_eq_nil.1 (show can (q:Int)=[] from e)
    omega
   have z1:(I (p:Int)).size≤80000:=by have:=Ac7 (k:=K) (z:=(p:Int)) (by rw[Int.natAbs_natCast];exact hp);omega
   have z2:(I (q:Int)).size≤80000:=by have:=Ac7 (k:=K) (z:=(q:Int)) (by rw[Int.natAbs_natCast];exact hq);omega
   have HD:=fun W=>rDiv_any (I (p:Int)) (I (q:Int)) z1 z2 (by rw[vl_I];omega) W
   rw[vl_I,vl_I] at HD
   have e2:((p:Int) % (q:Int))=((p % q:Nat):Int):=by simp
   rw[e2] at HD
   have HD:=Lib.hid HD
   clear e2 z1 z2 hp hq
   go_wp2_with fail
   refine (HD.out _).mono ?_
   rintro e w2 ⟨rfl,b2⟩
   have HB2:=Lib.hid b2
   clear b2
   go_wp2_with fail
   refine⟨⟨q,p % q,rfl,rfl,HQB.out,?_,?_,HB.out.trans (HB2.out.mono HB.out.size)⟩,?_⟩
   ·exact Nat.lt_trans (Nat.mod_lt _ h0) HQB.out
   ·rw[←HG.out,Nat.gcd_comm p q,Nat.gcd_rec q p,Nat.gcd_comm]
   ·show (vl (I ((p % q:Nat):Int))).natAbs<(vl (I (q:Int))).natAbs
    rw[vl_I,vl_I,Int.natAbs_natCast,Int.natAbs_natCast];exact Nat.mod_lt _ h0
theorem Aj3(a b:ByteArray)(ha:a.size≤80000)(hb:b.size≤80000)(hp:0<vl b)(w:World):
 Calls Tryz.prog 197 #[.string a,.string b] w fun e w'=>e=.returned (.string (I (vl a / vl b)))∧Below w.heap.size w w':=by
 have HC:=Lib.hid (rDiv_any a b ha hb hp w)
 clear ha hb hp
 go_enter Tryz.func197,Tryz.ntmps197
 go_wp2_with fail
 refine HC.out.mono ?_
 rintro e w1 ⟨rfl,b1⟩
 have HB:=Lib.hid b1
 clear b1
 go_wp2_with fail
 go_ret
 exact⟨rfl,HB.out⟩
theorem Aj4(n d:ByteArray)(K:Nat)(hK:K≤70000)(ha:n.size≤80000)(hb:d.size≤80000)(hx:(vl n).natAbs<10^K)(hy:(vl d).natAbs<10^K)(hp:0<vl d)(w:World):
 Calls Tryz.prog 134 #[.string n,.string d] w fun e w'=>e=.returned (fenc (Rat.divInt (vl n) (vl d)))∧Below w.heap.size w w':=by
 have HZ:=Lib.hid (Ag9 n (by omega))
 have HB:=Lib.hid ((Below.refl _ w).alloc (Nat.le_refl _) (Obj.cells #[.string ⟨#[]⟩,.string ⟨#[]⟩] 25))
 by_cases h0:vl n=0
 ·rw[h0] at HZ
  have HR:Hid (fenc (Rat.divInt (vl n) (vl d))=.agg #[.string ⟨#[]⟩,.string ⟨#[]⟩]):=by
   show _=_
   rw[h0,Rat.zero_divInt];kernel_rfl
  clear h0 ha hb hx hy hp
  obtain⟨W0,hW0⟩:∃W0,w.alloc (Obj.cells #[.string ⟨#[]⟩,.string ⟨#[]⟩] 25)=W0:=⟨_,rfl⟩
  have k1:W0.heap[w.heap.size]?=some (Obj.cells #[.string ⟨#[]⟩,.string ⟨#[]⟩] 25):=by rw[←hW0];exact heap_alloc_new w _
  have a0:=Lib.cell_of_heap k1 0
  have a1:=Lib.cell_of_heap k1 1
  simp at a0 a1
  have f0:=Lib.frozen_of_heap k1 0
  have f1:=Lib.frozen_of_heap k1 1
  have K1:=Lib.hid k1
  rw[hW0] at HB
  clear k1
  go_enter Tryz.func134,Tryz.ntmps134
  go_wp2_with fail
  try rw[hW0]
  refine (HZ.out _).mono ?_
  rintro e w1 ⟨rfl,rfl⟩
  go_wp2_with fail
  have k2:=set2 K1.out (.string ⟨#[]⟩) (.string ⟨#[]⟩)
  have m0:=Lib.cell_of_heap k2 0
  have m1:=Lib.cell_of_heap k2 1
  simp at m0 m1
  refine bodyPost_ret (v:=.agg #[.string ⟨#[]⟩,.string ⟨#[]⟩]) (by simp[results,Tryz.results134,go_sem,m0,m1]) rfl ?_
  exact⟨by rw[HR.out],(HB.out.setCell (p:=⟨w.heap.size,0,none⟩) (Nat.le_refl _) _).setCell (p:=⟨w.heap.size,1,none⟩) (Nat.le_refl _) _⟩
 have hz:(vl n==0)=false:=by rw[beq_eq_false_iff_ne];exact h0
 have HG:=Lib.hid (Aj2 n d K hK (by omega) (by omega) hx hy)
 have hgp:0<Int.gcd (vl n) (vl d):=Int.gcd_pos_of_ne_zero_right _ (by omega)
 have hgl:Int.gcd (vl n) (vl d)≤(vl d).natAbs:=Nat.le_of_dvd (by omega) (Int.gcd_dvd_natAbs_right _ _)
 have gs:(I ((Int.gcd (vl n) (vl d):Nat):Int)).size≤80000:=by have:=Ac7 (k:=K) (z:=((Int.gcd (vl n) (vl d):Nat):Int)) (by rw[Int.natAbs_natCast];exact Nat.lt_of_le_of_lt hgl hy);omega
 have e1:vl n / ((Int.gcd (vl n) (vl d):Nat):Int)=(Rat.divInt (vl n) (vl d)).num:=by rw[←Agz hp,Agy (by omega)]
 have e2:vl d / ((Int.gcd (vl n) (vl d):Nat):Int)=((Rat.divInt (vl n) (vl d)).den:Int):=by rw[←Ag0 hp,Agy (by omega)]
 have HE1:=fun W=>Aj3 n (I ((Int.gcd (vl n) (vl d):Nat):Int)) ha gs (by rw[vl_I];omega) W
 have HE2:=fun W=>Aj3 d (I ((Int.gcd (vl n) (vl d):Nat):Int)) hb gs (by rw[vl_I];omega) W
 rw[vl_I,e1] at HE1
 rw[vl_I,e2] at HE2
 have hdl:((Rat.divInt (vl n) (vl d)).den:Int).natAbs<10^K:=by
  rw[←e2,Int.natAbs_ediv_of_nonneg (by omega)]
  exact Nat.lt_of_le_of_lt (Nat.div_le_self _ _) hy
 have HE1:=Lib.hid HE1
 have HE2:=Lib.hid HE2
 change Hid (∀w,Calls Tryz.prog 196 #[.string n,.string d] w fun e w'=>e=.returned (.string (I ((Int.gcd (vl n) (vl d):Nat):Int)))∧Below w.heap.size w w') at HG
 clear ha hb hx hy hp h0 hgp hgl gs e1 e2
 generalize Int.gcd (vl n) (vl d)=g at *
 generalize Rat.divInt (vl n) (vl d)=q at *
 have zd:(I (q.den:Int)).size≤1000000:=by have:=Ac7 hdl;omega
 have HC:=fun W=>Adz (I (q.den:Int)) one1 zd (by decide) W
 rw[vl_I,show vl one1=1 from by rw[one1_eq,vl_I]] at HC
 clear hdl zd hK
 obtain⟨W0,hW0⟩:∃W0,w.alloc (Obj.cells #[.string ⟨#[]⟩,.string ⟨#[]⟩] 25)=W0:=⟨_,rfl⟩
 have hk:W0.heap[w.heap.size]?=some (Obj.cells #[.string ⟨#[]⟩,.string ⟨#[]⟩] 25):=by rw[←hW0];exact heap_alloc_new w _
 rw[hW0] at HB
 have HK:=Lib.hid hk
 clear hk
 go_enter Tryz.func134,Tryz.ntmps134
 go_wp2_with fail
 try rw[hW0]
 refine (HZ.out _).mono ?_
 rintro e w1 ⟨rfl,rfl⟩
 go_wp2_with fail
 refine (HG.out _).mono ?_
 rintro e w1 ⟨rfl,b1⟩
 have HB1:=Lib.hid b1
 clear b1
 go_wp2_with fail
 refine (HE1.out _).mono ?_
 rintro e w2 ⟨rfl,b2⟩
 have HB2:=Lib.hid b2
 clear b2
 go_wp2_with fail
 refine (HE2.out _).mono ?_
 rintro e w3 ⟨rfl,b3⟩
 have b13:=(HB1.out.trans (HB2.out.mono HB1.out.size)).trans (b3.mono (Nat.le_trans HB1.out.size HB2.out.size))
 have k3:=(b13.block _ (Array.getElem?_eq_some_iff.1 HK.out).1).trans HK.out
 have hlt:=(Array.getElem?_eq_some_iff.1 k3).1
 have ne3:w3.heap.size≠w.heap.size:=by omega
 have ne4:w.heap.size≠w3.heap.size:=by omega
 have HB3:=Lib.hid (HB.out.trans (b13.mono HB.out.size))
 have HW4:=Lib.hid ((Below.refl _ w3).alloc (Nat.le_refl _) (Obj.cells #[.string (I q.num),.string (I (q.den:Int))] 25))
 obtain⟨W4,hW4⟩:∃W4,w3.alloc (Obj.cells #[.string (I q.num),.string (I (q.den:Int))] 25)=W4:=⟨_,rfl⟩
 have k4:W4.heap[w3.heap.size]?=some (Obj.cells #[.string (I q.num),.string (I (q.den:Int))] 25):=by rw[←hW4];exact heap_alloc_new w3 _
 rw[hW4] at HW4
 have k5:=(HW4.out.block _ hlt).trans k3
 have c0:=Lib.cell_of_heap k4 0
 have c1:=Lib.cell_of_heap k4 1
 have g1:=Lib.frozen_of_heap k4 1
 have a0:=Lib.cell_of_heap k5 0
 have a1:=Lib.cell_of_heap k5 1
 have f0:=Lib.frozen_of_heap k5 0
 have f1:=Lib.frozen_of_heap k5 1
 simp at c0 c1 a0 a1
 have HB4:=Lib.hid (HB3.out.trans (HW4.out.mono (Nat.le_of_lt hlt)))
 have K4:=Lib.hid k4
 have K5:=Lib.hid k5
 clear b3 b13 k3 k4 k5 HB HB1 HB2 HB3 HW4 HK HE1 HE2 HG HZ
 by_cases hq:q.den=1
 ·rw[show cmpI (q.den:Int) 1=0 from cmpI_eq.2 (by omega)] at HC
  have HC:=Lib.hid HC
  have HQ:=Lib.hid hq
  clear hq
  go_wp2_with fail
  try rw[hW4]
  go_quiet ((first|(go_at_call 135;exact Ag7 (Ag8 _))|(go_at_call 198;exact Ag7 (HC.out _))))
  go_wp2_with fail
  have k6:((W4.drewN nq).setCell ⟨w3.heap.size,1,none⟩ (.string ⟨#[]⟩)).heap[w.heap.size]?=some (Obj.cells #[.string ⟨#[]⟩,.string ⟨#[]⟩] 25):=(Below.heap_setCell _ _ _ _ (by simp;omega)).trans (by simpa using K5.out)
  have k2:=set2 k6 (.string (I q.num)) (.string ⟨#[]⟩)
  have m0:=Lib.cell_of_heap k2 0
  have m1:=Lib.cell_of_heap k2 1
  simp at m0 m1
  refine bodyPost_ret (v:=.agg #[.string (I q.num),.string ⟨#[]⟩]) (by simp[results,Tryz.results134,go_sem,m0,m1]) rfl ?_
  refine⟨?_,(Below.setCell (p:=⟨w.heap.size,0,none⟩) ((Acr HB4.out nq).setCell (p:=⟨w3.heap.size,1,none⟩) (by simp;omega) _) (Nat.le_refl _) _).setCell (p:=⟨w.heap.size,1,none⟩) (Nat.le_refl _) _⟩
  unfold fenc dn
  rw[if_pos HQ.out]
 ·have hc1:(cmpI (q.den:Int) 1==0)=false:=by rw[beq_eq_false_iff_ne,Ne,cmpI_eq];omega
  have HC:=Lib.hid HC
  have HQ:=Lib.hid hq
  clear hq
  go_wp2_with fail
  try rw[hW4]
  go_quiet ((first|(go_at_call 135;exact Ag7 (Ag8 _))|(go_at_call 198;exact Ag7 (HC.out _))))
  go_wp2_with fail
  have k6:(W4.drewN nq).heap[w.heap.size]?=some (Obj.cells #[.string ⟨#[]⟩,.string ⟨#[]⟩] 25):=by simpa using K5.out
  have k2:=set2 k6 (.string (I q.num)) (.string (I (q.den:Int)))
  have m0:=Lib.cell_of_heap k2 0
  have m1:=Lib.cell_of_heap k2 1
  simp at m0 m1
  refine bodyPost_ret (v:=.agg #[.string (I q.num),.string (I (q.den:Int))]) (by simp[results,Tryz.results134,go_sem,m0,m1]) rfl ?_
  refine⟨?_,(Below.setCell (p:=⟨w.heap.size,0,none⟩) (Acr HB4.out nq) (Nat.le_refl _) _).setCell (p:=⟨w.heap.size,1,none⟩) (Nat.le_refl _) _⟩
  unfold fenc dn
  rw[if_neg HQ.out]
end Go.Proofs.YteennkgpeiafaaaGreatDoor
namespace Tr
def pv(g:Rat):List Rat→Rat
 | []=>0
 | x::r=>(x+pv g r) / g
def pvB(b g:Rat):List Rat→Rat
 | []=>0
 | x::r=>(x+pv g r) / b
theorem Aj5{a b:Rat}(ha:0≤a)(hb:0<b):0≤a / b:=by
 rw[Rat.div_def]
 exact Rat.mul_nonneg ha (Rat.le_of_lt (Rat.inv_pos.2 hb))
theorem Aj6{f c g:Rat}(hf:f≠0)(hg:g=1+c / f)(hg0:g≠0):∀n:Nat,pv g (List.replicate n c++[c+f])=f
 | 0=>by
   show (c+f+0) / g=f
   have e:c+f+0=f*g:=by
    rw[hg,Rat.mul_add,Rat.mul_one,Rat.div_def]
    have:f*(c*f⁻¹)=c*(f*f⁻¹):=by grind
    rw[this,Rat.mul_inv_cancel _ hf]
    grind
   rw[e,Rat.div_def,Rat.mul_assoc,Rat.mul_inv_cancel _ hg0,Rat.mul_one]
 | n+1=>by
   rw[List.replicate_succ,List.cons_append,pv,Aj6 hf hg hg0 n]
   have e:c+f=f*g:=by
    rw[hg,Rat.mul_add,Rat.mul_one,Rat.div_def]
    have:f*(c*f⁻¹)=c*(f*f⁻¹):=by grind
    rw[this,Rat.mul_inv_cancel _ hf]
    grind
   rw[e,Rat.div_def,Rat.mul_assoc,Rat.mul_inv_cancel _ hg0,Rat.mul_one]
end Tr
