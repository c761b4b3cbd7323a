/-
  The walk of lot.CheckAll on valid lots with different ids.
-/
import Derived.Test.YtcnmoobojdopgaaGreatDoorI18
import Derived.Maps.Own
import Derived.Maps.Views
import Derived.Deep.DeepCutAuto
import Derived.Deep.RegionHeld3
set_option linter.unusedVariables false
set_option linter.unusedSimpArgs false
set_option maxHeartbeats 16000000
set_option maxRecDepth 100000
namespace Go.Proofs.YtcnmoobojdopgaaGreatDoor
open Go.RowKit Tr Go.Shelf Go.Maps Go.WideMaps
structure LotAt(w:World)(p:Addr)(l:Lot):Prop where
 c0:w.cell? p=some (.string l.id)
 c1:w.cell? ⟨p.block,p.off+1,none⟩=some (.string l.inst)
 c2:w.cell? ⟨p.block,p.off+2,none⟩=some (.int .i64 l.acq)
 c3:w.cell? ⟨p.block,p.off+3,none⟩=some (.int .i64 l.opn)
 c4:w.cell? ⟨p.block,p.off+4,none⟩=some (.string l.qty)
 c5:w.cell? ⟨p.block,p.off+5,none⟩=some (.string l.cost)
 c6:w.cell? ⟨p.block,p.off+6,none⟩=some (.string l.used)
theorem LotAt.below{w w':World}{p:Addr}{l:Lot}{B:Nat}(h:LotAt w p l)(hb:Below B w w')(hp:p.block<B):LotAt w' p l :=
 ⟨(hb.cell hp).trans h.c0,(hb.cell (p:=⟨p.block,p.off+1,none⟩) hp).trans h.c1,(hb.cell (p:=⟨p.block,p.off+2,none⟩) hp).trans h.c2,(hb.cell (p:=⟨p.block,p.off+3,none⟩) hp).trans h.c3,(hb.cell (p:=⟨p.block,p.off+4,none⟩) hp).trans h.c4,(hb.cell (p:=⟨p.block,p.off+5,none⟩) hp).trans h.c5,(hb.cell (p:=⟨p.block,p.off+6,none⟩) hp).trans h.c6⟩
def RdL(w:World)(A:Option Addr)(ls:List Lot):Prop :=
 ls≠[]→∃ad:Addr,A=some ad∧ad.block<w.heap.size∧∀(j:Nat) (l:Lot),ls[j]?=some l→LotAt w (ad.add (j*7)) l
theorem RdL.nil(w:World)(A:Option Addr):RdL w A []:=fun h=>absurd rfl h
theorem RdL.below{w w':World}{A:Option Addr}{ls:List Lot}(h:RdL w A ls)(hb:Below w.heap.size w w'):RdL w' A ls:=by
 intro hl
 obtain⟨ad,rfl,h1,h2⟩:=h hl
 exact⟨ad,rfl,Aah h1 hb.size,fun j l hj=>(h2 j l hj).below hb (by rw[Ach];exact h1)⟩
structure LotsOk(ls:List Lot):Prop where
 len:ls.length≤1000
 ok:∀l,l∈ls→l.sized∧l.ok
 ids:(ls.map Lot.id).Nodup
theorem strKeyed:Keyed Tryz.prog 9:=string_keyed Tryz.underlying9
def idKey(l:Lot):Lit:=.string l.id.data.toList
def seenD(ls:List Lot):DataW Unit:=setOf (.lit (.bool true)) (ls.map idKey)
theorem Amu(ls:List Lot)(l:Lot):seenD (ls++[l])=(seenD ls).put (idKey l) (.lit (.bool true)):=by
 unfold seenD;rw[List.map_append];exact setOf_snoc _ _ _
theorem Amv(w:World):(zeroValue 4).run Tryz.prog w=.ok (.bool false) w:=by kernel_rfl
theorem Amw{P:Program}{e:TypeId}(he:P.underlying e=some .bool){v:Value}{z:DataW Unit×List MemPlace}(h:plainElem P e v=some z):∃a,v=.bool a∧z=(.lit (.bool a),[]):=by
 unfold plainElem at h
 rw[he] at h
 cases v<;>simp at h
 exact⟨_,rfl,h.symm⟩
theorem Amx{w:World}{b n:Nat}{ls:List Lot}{l:Lot}(h:w.ownsMap Tryz.prog 9 (plainElem Tryz.prog 4) b n (seenD ls))(hs:l.id.size≤maxLen)(hn:∀x∈ls,x.id≠l.id):
 (Instr.lookup 203 (.map (some b)) (.string l.id) false).run Tryz.prog w=.ok (.bool false) w:=by
 obtain⟨v,ps,hrun,hv⟩:=h.lookup strKeyed Tryz.underlying203 (Amv w) (plainElem_bool Tryz.underlying4 false) (keyOf_string_mk Tryz.underlying9 hs)
 have hh:has (seenD ls) (.string l.id.data.toList)=false:=by
  unfold seenD
  rw[has_setOf _ _ _ (by intro x hx;obtain⟨y,_,rfl⟩:=List.mem_map.1 hx;exact trivial)]
  rw[List.any_eq_false]
  intro x hx
  obtain⟨y,hy,rfl⟩:=List.mem_map.1 hx
  rw[sameKey_ne]
  ·simp
  ·intro e
   injection e with e
   exact hn y hy (by rw[←bs_of y.id,←bs_of l.id,e])
 rw[atKey_of_not_has hh] at hv
 obtain⟨a,rfl,ha⟩:=Amw Tryz.underlying4 hv
 simp at ha
 rw[hrun,←ha.1]
theorem Amy{w w':World}{P:Program}{k:TypeId}{R:Value→Option (DataW Unit×List MemPlace)}{b n:Nat}{D:DataW Unit}(h:w.ownsMap P k R b n D)(hb:Below w.heap.size w w'):w'.ownsMap P k R b n D:=by
 have hlt:=h.lt
 obtain⟨es,clock,e,F,hs,hD⟩:=h
 exact⟨es,clock,(hb.block b hlt).trans e,F,hs,hD⟩
theorem Amz{ls:List Lot}(h:(ls.map Lot.id).Nodup){k:Nat}{l:Lot}(hl:ls[k]?=some l):∀x∈ls.take k,x.id≠l.id:=by
 intro x hx e
 obtain⟨i,hi,rfl⟩:=List.getElem_of_mem hx
 have hk:k<ls.length:=(Aak.1 hl).1
 rw[Aas] at hi
 rw[List.getElem_take] at e
 have hl':ls[k]=l:=by rw[Aae hk] at hl;exact Option.some.inj hl
 rw[List.nodup_iff_pairwise_ne,List.pairwise_iff_getElem] at h
 have:=h i k (by simp;omega) (by simpa using hk) (by omega)
 rw[List.getElem_map,List.getElem_map,hl'] at this
 exact this e
theorem Am0(A:Option Addr)(c:Nat)(ls:List Lot)(hc:ls.length≤c)(w:World)(hr:RdL w A ls)(h:LotsOk ls)(ht:Tabs w):
 Calls Tryz.prog 117 #[.slice A ls.length c] w fun e w'=>e=.returned (.int .i64 0)∧Below w.heap.size w w':=by
 have HR:=Aac hr
 have HT:=Aac ht
 have H:=Aac h
 have hlen:=h.len
 have hgt:decide ((1000:Int)<(ls.length:Int))=false:=by simp;omega
 clear hr ht h
 have hmm:=@run_makeMap Tryz.prog
 go_enter Tryz.func117,Tryz.ntmps117
 go_wp2_with fail
 go_loopw [13] (fun v wr=>∃k:Nat,v=.int .i64 (k:Int)∧k≤ls.length∧wr.ownsMap Tryz.prog 9 (plainElem Tryz.prog 4) w.heap.size k (seenD (ls.take k))∧Below w.heap.size w wr) (fun v _=>ls.length-(intOf v).toNat)
 case atStart=>exact⟨0,rfl,by omega,World.ownsMap_made _ _ _ _,(Below.refl _ _).alloc (Aad _) _⟩
 case round =>
  obtain⟨k,rfl,hk,hown,hb⟩:=hrel
  have HO:=Aac hown
  have HB:=Aac hb
  clear hown hb
  rcases Aam k ls.length with hlt|hge
  ·obtain⟨l,hl⟩:∃l,ls[k]?=some l:=⟨_,Aae hlt⟩
   obtain⟨ad,rfl,had,hcell⟩:=HR.out (by intro e;rw[e] at hlt;cases hlt)
   have hcx:decide ((k:Int)<(ls.length:Int))=true:=by simp;omega
   obtain⟨c0,c1,c2,c3,c4,c5,c6⟩:=(hcell k l hl).below HB.out (by rw[Ach];exact had)
   have hmem:l∈ls:=Aar hl
   obtain⟨hs,hok⟩:=H.out.ok l hmem
   have hids:∀x∈ls.take k,x.id≠l.id:=Amz H.out.ids hl
   have hzid:l.id.size≤maxLen:=by unfold maxLen;have:=hs.1;omega
   have HSN:Hid (ls.take (k+1)=ls.take k++[l]):=by
    rw[Hid,List.take_succ_eq_append_getElem hlt]
    congr 2
    rw[Aae hlt] at hl
    exact Option.some.inj hl
   have HC:=Aac (fun W hW=>Ams l hs hok W hW)
   have HID:=Aac hids
   clear hcell hl hmem hs hok hids
   obtain⟨W5,hW5⟩:∃W5,wr.alloc (.cells l.cells 63)=W5:=⟨_,rfl⟩
   have k5:LotBox W5 wr.heap.size l:=by rw[←hW5];exact Aax wr _
   have b5:Below wr.heap.size wr W5:=by rw[←hW5];exact (Below.refl _ wr).alloc (Aad _) _
   have HK5:=Aac k5
   have HB5:=Aac (HB.out.trans (b5.mono HB.out.size))
   have HO5:=Aac (Amy HO.out b5)
   obtain⟨m0,m1,m2,m3,m4,m5,m6⟩:=Acp k5
   clear k5 b5 HO
   unfold Lot.cells at hW5
   go_wp2_with fail
   refine (HC.out _ (HT.out.below HB5.out)).mono ?_
   rintro e w6 ⟨rfl,b6⟩
   have k6:=HK5.out.below b6
   have HB6:=Aac (HB5.out.trans (b6.mono HB5.out.size))
   have hO6:=Amy HO5.out b6
   have hlk:=Amx hO6 hzid HID.out
   obtain⟨w7,hup,hO7,hg7⟩:=hO6.update strKeyed Tryz.underlying203 (by unfold maxLen;omega) (keyOf_string_mk Tryz.underlying9 hzid) (plainElem_bool Tryz.underlying4 true)
   clear m0 m1 m2 m3 m4 m5 m6
   obtain⟨m0,m1,m2,m3,m4,m5,m6⟩:=Acp k6
   have HO7:Hid (w7.ownsMap Tryz.prog 9 (plainElem Tryz.prog 4) w.heap.size (k+1) (seenD (ls.take (k+1)))):=by
    rw[HSN.out,Amu];exact hO7
   have HB7:=Aac (HB6.out.grown hg7 HB6.out.size (fun j hj=>by cases hj;exact Aad _))
   clear hO6 hO7 hg7 b6 k6 HO5 HB5 HK5
   go_wp2_with fail
   go_roundw
   case rel=>exact⟨k+1,by go_num,by omega,HO7.out,HB7.out⟩
   case measure=>simp[intOf];omega
  ·have hcx:decide ((k:Int)<(ls.length:Int))=false:=by simp;omega
   go_wp2_with fail
   go_ret
   exact⟨rfl,HB.out⟩
end Go.Proofs.YtcnmoobojdopgaaGreatDoor
namespace Go.Proofs.YtcnmoobojdopgaaGreatDoor
open Go.RowKit Tr Go.Shelf
def Lot.tiny(l:Lot):Prop:=l.qty.size≤13∧l.cost.size≤13∧l.used.size≤13∧l.id.size≤40∧l.inst.size≤40
theorem Lot.tiny.sized{l:Lot}(h:l.tiny):l.sized:=by
 obtain⟨h1,h2,h3,h4,h5⟩:=h
 exact⟨by omega,by omega,by omega,by omega,by omega⟩
theorem Am1(d:Int)(w:World):
 Calls Tryz.prog 201 #[.int .i64 d] w fun e w'=>e=.returned (.bool (decide (okDay d)))∧w=w':=by
 go_enter Tryz.func201,Tryz.ntmps201
 go_wp2_with fail
 all_goals (go_ret;refine⟨?_,rfl⟩;first|(rw[Aav (p:=okDay d) (by unfold okDay;omega)];rfl)|(rw[Aaw (p:=okDay d) (by unfold okDay;omega)];rfl)|(simp[okDay, *];done))
theorem lbox(l:Lot)(w:World):∃W0,w.alloc (.cells l.cells 63)=W0∧Below w.heap.size w W0∧W0.heap[w.heap.size]?=some (.cells l.cells 63) :=
 ⟨_,rfl,(Below.refl _ w).alloc (Aad _) _,Aax w _⟩
theorem Am2(l:Lot)(w:World):Calls Tryz.prog 113 #[l.enc] w (Amm w l.tiny):=by
 obtain⟨W0,hW0,hB0,hk⟩:=lbox l w
 obtain⟨c0,c1,c2,c3,c4,c5,c6⟩:=Acp hk
 have HB:=Aac hB0
 clear hB0 hk
 go_enter Tryz.func113,Tryz.ntmps113
 go_wp2_with fail
 refine (Ady l.qty _).mono ?_
 rintro e w1 ⟨rfl,rfl⟩
 by_cases h1:13<l.qty.size
 ·rw[Aav h1]
  go_wp2_with fail
  go_ret
  exact⟨true,rfl,fun h=>(by cases h),HB.out⟩
 rw[Aaw h1]
 go_wp2_with fail
 refine (Ady l.cost _).mono ?_
 rintro e w1 ⟨rfl,rfl⟩
 by_cases h2:13<l.cost.size
 ·rw[Aav h2]
  go_wp2_with fail
  go_ret
  exact⟨true,rfl,fun h=>(by cases h),HB.out⟩
 rw[Aaw h2]
 go_wp2_with fail
 refine (Ady l.used _).mono ?_
 rintro e w1 ⟨rfl,rfl⟩
 by_cases h3:13<l.used.size
 ·rw[Aav h3]
  go_wp2_with fail
  go_ret
  exact⟨true,rfl,fun h=>(by cases h),HB.out⟩
 rw[Aaw h3]
 by_cases h4:40<l.id.size
 ·have t4:decide ((40:Int)<(l.id.size:Int))=true:=Aav (by omega)
  go_wp2_with fail
  go_ret
  exact⟨true,rfl,fun h=>(by cases h),HB.out⟩
 have t4:decide ((40:Int)<(l.id.size:Int))=false:=Aaw (by omega)
 by_cases h5:40<l.inst.size
 ·have t5:decide ((40:Int)<(l.inst.size:Int))=true:=Aav (by omega)
  go_wp2_with fail
  go_ret
  exact⟨true,rfl,fun h=>(by cases h),HB.out⟩
 have t5:decide ((40:Int)<(l.inst.size:Int))=false:=Aaw (by omega)
 go_wp2_with fail
 go_ret
 exact⟨false,rfl,fun _=>⟨by omega,by omega,by omega,by omega,by omega⟩,HB.out⟩
theorem Am3{z:Int}(h:0<z):decide (cmpI z 0≤0)=false:=Aaw (by rw[Ac9];omega)
theorem Am4{z:Int}(h:¬ 0<z):decide (cmpI z 0≤0)=true:=Aav (by rw[Ac9];omega)
theorem Am5{z:Int}(h:z<0):decide (cmpI z 0<0)=true:=Aav (by rw[cmpI_lt];omega)
theorem Am6{z:Int}(h:¬z<0):decide (cmpI z 0<0)=false:=Aaw (by rw[cmpI_lt];omega)
theorem Am7(a b:ByteArray):(a.toList==b.toList)=decide (a=b):=by
 by_cases h:a=b
 ·subst h;simp
 ·rw[Aaw h];exact Ac7 h
def findR:List Lot→ByteArray→Nat→Nat×Bool
 | [],_,_=>(0,false)
 | l::r,id,k=>if l.id=id then (k,true) else findR r id (k+1)
theorem findR_skip:∀(a b:List Lot) (id:ByteArray) (k:Nat),(∀x∈a,x.id≠id)→findR (a++b) id k=findR b id (k+a.length)
 | [],b,id,k,_=>rfl
 | l::r,b,id,k,h=>by
   rw[List.cons_append,findR,if_neg (h l (List.mem_cons_self ..)),findR_skip r b id (k+1) (fun x hx=>h x (List.mem_cons_of_mem _ hx)),Aau]
   congr 1
   omega
theorem Am8{a:List Lot}{id:ByteArray}(h:∀x∈a,x.id≠id)(k:Nat):findR a id k=(0,false):=by
 have:=findR_skip a [] id k h
 rw[List.append_nil] at this
 rw[this];rfl
theorem findR_false:∀(a:List Lot) (id:ByteArray) (k:Nat),(findR a id k).2=false→∀x∈a,x.id≠id
 | [],_,_,_,_,hx=>by cases hx
 | l::r,id,k,h,x,hx=>by
   rw[findR] at h
   by_cases e:l.id=id
   ·rw[if_pos e] at h;cases h
   ·rw[if_neg e] at h
    rcases List.mem_cons.1 hx with rfl|hx
    ·exact e
    ·exact findR_false r id (k+1) h x hx
theorem Am9{ls:List Lot}{m k:Nat}{l:Lot}{id:ByteArray}(hk:k<m)(hm:m≤ls.length)(hs:ls.take (k+1)=ls.take k++[l])(hn:∀x∈ls.take k,x.id≠id)(h:l.id=id):findR (ls.take m) id 0=(k,true):=by
 have e:ls.take m=ls.take k++(l::(ls.take m).drop (k+1)):=by
  have:=List.take_append_drop (k+1) (ls.take m)
  rw[List.take_take,show min (k+1) m=k+1 by omega,hs] at this
  rw[List.append_assoc] at this
  exact this.symm
 rw[e,findR_skip _ _ _ _ hn,findR,if_pos h,Aas]
 congr 1
 omega
theorem Ana(A:Option Addr)(ls:List Lot)(m c:Nat)(hm:m≤ls.length)(hl:ls.length≤1000000)(id:ByteArray)(w:World)(hR:RdL w A ls):
 Calls Tryz.prog 140 #[.slice A m c,.string id] w fun e w'=>e=.returned (.tuple #[.int .i64 ((findR (ls.take m) id 0).1:Int),.bool (findR (ls.take m) id 0).2])∧w=w':=by
 have HR:=Aac hR
 clear hR
 go_enter Tryz.func140,Tryz.ntmps140
 go_wp2_with fail
 go_loop [6] (fun v=>∃k:Nat,v=.int .i64 (k:Int)∧k≤m∧∀x∈ls.take k,x.id≠id) (fun v=>m-(intOf v).toNat)
 case atStart=>exact⟨0,rfl,by omega,fun x hx=>by simp at hx⟩
 case round =>
  obtain⟨k,rfl,hk,hx⟩:=hrel
  have HX:=Aac hx
  clear hx
  rcases Aam k m with hlt|hge
  ·have hlt':k<ls.length:=by omega
   obtain⟨l,hl'⟩:∃l,ls[k]?=some l:=⟨_,Aae hlt'⟩
   obtain⟨ad,rfl,had,hcell⟩:=HR.out (by intro e;rw[e] at hlt';cases hlt')
   have hcx:decide ((k:Int)<(m:Int))=true:=by simp;omega
   obtain⟨c0,c1,c2,c3,c4,c5,c6⟩:=hcell k l hl'
   have HSN:Hid (ls.take (k+1)=ls.take k++[l]):=by
    rw[Hid,List.take_succ_eq_append_getElem hlt']
    congr 2
    rw[Aae hlt'] at hl'
    exact Option.some.inj hl'
   clear hcell hl'
   have e2:=Am7 l.id id
   by_cases h1:l.id=id
   ·rw[Aav h1] at e2
    have H1:=Aac h1
    clear h1
    go_wp2_with fail
    go_ret2
    refine⟨?_,rfl⟩
    rw[Am9 hlt hm HSN.out HX.out H1.out]
    rfl
   ·rw[Aaw h1] at e2
    have H1:=Aac h1
    clear h1
    go_wp2_with fail
    go_round
    case rel =>
     refine⟨k+1,by go_num,by omega,fun x hx=>?_⟩
     rw[HSN.out,List.mem_append] at hx
     rcases hx with hx|hx
     ·exact HX.out x hx
     ·rw[List.mem_singleton] at hx;subst hx;exact H1.out
    case measure=>simp[intOf];omega
  ·have hcx:decide ((k:Int)<(m:Int))=false:=by simp;omega
   have hkm:k=m:=by omega
   subst hkm
   go_wp2_with fail
   go_ret2
   refine⟨?_,rfl⟩
   rw[Am8 HX.out]
   rfl
theorem Anb{n:Nat}(h:0<n):Lib.itoa (n:Int)=digits n:=by
 unfold Lib.itoa
 rw[if_neg (by omega),Int.toNat_natCast]
 have:=Afj h
 unfold dec at this
 exact this
theorem Anc{n:Nat}(h:0<n):(digits n).getD 0 0≠48:=by
 have h1:=(Ab6 (digits n) (all_digits n)).1
 rw[dval_digits] at h1
 have h2:=Abu h
 match hd:digits n,h2 with
 | b::r,_ =>
   rw[hd] at h1
   intro e
   have hb:b=48:=by simpa using e
   subst hb
   have h3:strip (48::r)=strip r:=rfl
   rw[h3] at h1
   have h4:(strip r).length≤r.length:=by unfold strip;exact (List.dropWhile_sublist _).length_le
   have h5:=congrArg List.length h1
   simp at h5
   omega
theorem Ane{v:Int}{t:List UInt8}(h1:1≤v)(h2:v≤9999)(h:Lib.itoa v=t):numB t=true:=by
 obtain⟨n,rfl⟩:∃n:Nat,v=(n:Int):=⟨v.toNat,by omega⟩
 have hn:0<n:=by omega
 rw[Anb hn] at h
 subst h
 refine Amt ?_ ?_ (all_digits n) (Anc hn)
 ·exact List.length_pos_iff.2 (Abu hn)
 ·exact (digits_length_le_iff 4 n).2 (by omega)
theorem cut_len(s p:List UInt8):(Lib.cut s p).1.length≤s.length∧(Lib.cut s p).2.1.length≤s.length:=by
 unfold Lib.cut
 split
 ·exact⟨by simp only[Aas];omega,by simp only[List.length_drop];omega⟩
 ·exact⟨Aad _,by simp⟩
theorem isId_no(s:ByteArray)(hs:s.size≤1000)(h:idB s=false)(w:World)(ht:Tabs w):
 Calls Tryz.prog 156 #[.string s] w fun e w'=>e=.returned (.bool false)∧Below w.heap.size w w':=by
 obtain⟨m,hm⟩:=ht.maxLen
 have HC:=Aac (Tryz.strings_Cut s ⟨#[47]⟩ m w (by omega) hm)
 have hlc:(Lib.cut s.data.toList [47]).1.length≤1000∧(Lib.cut s.data.toList [47]).2.1.length≤1000:=by
  have hl:s.data.toList.length=s.size:=(Lib.size_eq s).symm
  have:=cut_len s.data.toList [47]
  omega
 unfold idB at h
 rw[Bool.and_eq_false_iff] at h
 rw[show (⟨#[47]⟩:ByteArray).data.toList=[47] from rfl] at HC
 generalize Lib.cut s.data.toList [47]=c at HC h hlc
 obtain⟨c1,c2,c3⟩:=c
 dsimp only at HC h hlc
 have hz:(bs c2).size=c2.length:=Ac1 _
 have hz1:(bs c1).size=c1.length:=Ac1 _
 have hd2:(bs c2).data.toList=c2:=by unfold bs;simp
 have H:=Aac h
 have HT:=Aac ht
 have HN:=Aac (fun W=>Akk (bs c1) (by omega) W)
 rw[show (ByteArray.mk c1.toArray)=bs c1 from rfl,show (ByteArray.mk c2.toArray)=bs c2 from rfl] at HC
 have HL:=Aac (show (bs c2).size≤1000 by omega)
 have HD:=Aac hd2
 clear hm h ht hz hz1 hlc hd2
 go_enter Tryz.func156,Tryz.ntmps156
 go_wp2_with fail
 refine HC.out.mono ?_
 rintro e w1 ⟨rfl,k,hw1⟩
 have B1:Below w.heap.size w w1:=by rw[hw1];exact Acm (Below.refl _ _) k
 have HB1:=Aac B1
 clear hw1 B1 HC
 go_wp2_with fail
 cases hat:Lib.atoiAll (bs c2).data.toList with
 | range =>
   obtain⟨tp,p,hv⟩:=(HT.out.below HB1.out).rng
   have HA:=Aac (Tryz.strconv_Atoi_range_var (bs c2) (by have:=HL.out;omega) hat tp p w1 hv)
   clear hv hat
   refine HA.out.mono ?_
   rintro e w2 ⟨N,rfl,_,_,b2⟩
   have HB2:=Aac (HB1.out.trans (b2.mono HB1.out.size))
   clear b2 HA
   go_wp2_with fail
   go_ret
   exact⟨rfl,HB2.out⟩
 | ok v =>
   have HA:=Aac (Tryz.strconv_Atoi_ok (bs c2) (by have:=HL.out;omega) v hat w1)
   clear hat
   refine HA.out.mono ?_
   rintro e w2 ⟨rfl,hw2⟩
   have B2:Below w.heap.size w w2:=by
    rcases hw2 with rfl|⟨t,rfl⟩
    ·exact HB1.out
    ·exact HB1.out.trans ((Lib.bytesWorld_below _ _ _).mono HB1.out.size)
   have HB2:=Aac B2
   clear hw2 B2 HA HB1
   by_cases h1:1≤v
   case neg =>
    have t1:decide (1≤v)=false:=Aaw h1
    clear h1
    go_wp2_with fail
    go_ret
    exact⟨rfl,HB2.out⟩
   by_cases h2:v≤9999
   case neg =>
    have t1:decide (1≤v)=true:=Aav h1
    have t2:decide (v≤9999)=false:=Aaw h2
    clear h1 h2
    go_wp2_with fail
    go_ret
    exact⟨rfl,HB2.out⟩
   have t1:decide (1≤v)=true:=Aav h1
   have t2:decide (v≤9999)=true:=Aav h2
   have HI:=Aac (fun W hW=>Ait v (by omega) (by omega) W hW)
   have HV:=Aac (And.intro h1 h2)
   clear h1 h2
   go_wp2_with fail
   refine (HI.out _ (HT.out.below HB2.out)).mono ?_
   rintro e w3 ⟨rfl,b3⟩
   have HB3:=Aac (HB2.out.trans (b3.mono HB2.out.size))
   clear b3 HB2
   by_cases h3:bs (Lib.itoa v)=bs c2
   case neg =>
    have t3:((bs (Lib.itoa v)).toList==(bs c2).toList)=false:=Ac7 h3
    clear h3
    go_wp2_with fail
    go_ret
    exact⟨rfl,HB3.out⟩
   have hnum:numB c2=true:=by
    refine Ane HV.out.1 HV.out.2 ?_
    have:=congrArg (fun b:ByteArray=>b.data.toList) h3
    simpa[bs] using this
   have hnm:Aki (bs c1)=false:=by
    rcases H.out with h|h
    ·rw[hnum] at h;cases h
    ·exact h
   rw[hnm] at HN
   rw[h3]
   clear h3 hnum hnm H
   go_wp2_with fail
   refine (HN.out _).mono ?_
   rintro e w4 ⟨rfl,b4⟩
   have HB4:=Aac (HB3.out.trans (b4.mono HB3.out.size))
   clear b4 HB3
   go_wp2_with fail
   go_ret
   exact⟨rfl,HB4.out⟩
 | _ =>
   obtain⟨tp,p,hv⟩:=(HT.out.below HB1.out).syn
   have HA:=Aac (Tryz.strconv_Atoi_syntax_var (bs c2) (by have:=HL.out;omega) (fun v h=>by rw[hat] at h;cases h) (fun h=>by rw[hat] at h;cases h) tp p w1 hv)
   clear hv hat
   refine HA.out.mono ?_
   rintro e w2 ⟨N,rfl,_,_,b2⟩
   have HB2:=Aac (HB1.out.trans (b2.mono HB1.out.size))
   clear b2 HA
   go_wp2_with fail
   go_ret
   exact⟨rfl,HB2.out⟩
theorem Anf(s:ByteArray)(hs:s.size≤1000)(w:World)(ht:Tabs w):
 Calls Tryz.prog 156 #[.string s] w fun e w'=>e=.returned (.bool (idB s))∧Below w.heap.size w w':=by
 cases h:idB s
 ·exact isId_no s hs h w ht
 ·exact Amp s hs h w ht
open Classical in
noncomputable def lchk(l:Lot):Int :=
 if idB l.id=false∨Aki l.inst=false then 23
 else if ¬okDay l.acq∨¬okDay l.opn then 13
 else if l.opn<l.acq then 8
 else if ¬Can l.qty∨¬Can l.cost∨¬Can l.used then 1
 else if ¬ 0<vl l.qty∨vl l.cost<0∨(l.used≠⟨#[]⟩∧l.used≠l.qty) then 2 else 0
theorem lchk_zero{l:Lot}:lchk l=0↔l.ok:=by
 unfold lchk
 constructor
 ·intro h
  split at h
  ·cases h
  rename_i a1
  split at h
  ·cases h
  rename_i a2
  split at h
  ·cases h
  rename_i a3
  split at h
  ·cases h
  rename_i a4
  split at h
  ·cases h
  rename_i a5
  simp only[not_or,Bool.not_eq_false,Classical.not_not,not_and] at a1 a2 a4 a5
  refine⟨a1.1,a1.2,a2.1,a2.2,by omega,a4.1,a4.2.1,a4.2.2,a5.1,by omega,?_⟩
  rcases Classical.em (l.used=⟨#[]⟩) with h|h
  ·exact .inl h
  ·exact .inr (a5.2.2 h)
 ·intro h
  have b1:¬(idB l.id=false∨Aki l.inst=false):=by rw[h.id,h.inst];simp
  have b2:¬(¬okDay l.acq∨¬okDay l.opn):=by intro x;rcases x with x|x;exact x h.acq;exact x h.opn
  have b3:¬l.opn<l.acq:=by have:=h.ord;omega
  have b4:¬(¬Can l.qty∨¬Can l.cost∨¬Can l.used):=by intro x;rcases x with x|x|x;exact x h.cq;exact x h.cc;exact x h.cu
  have b5:¬(¬ 0<vl l.qty∨vl l.cost<0∨(l.used≠⟨#[]⟩∧l.used≠l.qty)):=by
   intro x
   rcases x with x|x|x
   ·exact x h.pq
   ·have:=h.pc;omega
   ·rcases h.us with u|u
    ·exact x.1 u
    ·exact x.2 u
  rw[if_neg b1,if_neg b2,if_neg b3,if_neg b4,if_neg b5]
theorem Ang{l:Lot}(h:idB l.id=false∨Aki l.inst=false):lchk l=23:=by unfold lchk;rw[if_pos h]
theorem Anh{l:Lot}(a:idB l.id=true)(b:Aki l.inst=true)(h:¬okDay l.acq∨¬okDay l.opn):lchk l=13:=by unfold lchk;rw[if_neg (by rw[a,b];simp),if_pos h]
theorem Ani{l:Lot}(a:idB l.id=true)(b:Aki l.inst=true)(c:okDay l.acq)(d:okDay l.opn)(h:l.opn<l.acq):lchk l=8:=by
 unfold lchk;rw[if_neg (by rw[a,b];simp),if_neg (by intro x;rcases x with x|x;exact x c;exact x d),if_pos h]
theorem Anj{l:Lot}(a:idB l.id=true)(b:Aki l.inst=true)(c:okDay l.acq)(d:okDay l.opn)(e:l.acq≤l.opn)(h:¬Can l.qty∨¬Can l.cost∨¬Can l.used):lchk l=1:=by
 unfold lchk;rw[if_neg (by rw[a,b];simp),if_neg (by intro x;rcases x with x|x;exact x c;exact x d),if_neg (by omega),if_pos h]
theorem Ank{l:Lot}(a:idB l.id=true)(b:Aki l.inst=true)(c:okDay l.acq)(d:okDay l.opn)(e:l.acq≤l.opn)(f:Can l.qty)(g:Can l.cost)(i:Can l.used)(h:¬ 0<vl l.qty∨vl l.cost<0∨(l.used≠⟨#[]⟩∧l.used≠l.qty)):lchk l=2:=by
 unfold lchk;rw[if_neg (by rw[a,b];simp),if_neg (by intro x;rcases x with x|x;exact x c;exact x d),if_neg (by omega),if_neg (by intro x;rcases x with x|x|x;exact x f;exact x g;exact x i),if_pos h]
theorem Anm(l:Lot)(hs:l.sized)(w:World)(ht:Tabs w):
 Calls Tryz.prog 86 #[l.enc] w fun e w'=>e=.returned (.int .i64 (lchk l))∧Below w.heap.size w w':=by
 obtain⟨W0,hW0⟩:∃W0,w.alloc (.cells l.cells 63)=W0:=⟨_,rfl⟩
 have hk:LotBox W0 w.heap.size l:=by rw[←hW0];exact Aax w _
 have HB:Hid (Below w.heap.size w W0):=by rw[←hW0];exact (Below.refl _ w).alloc (Aad _) _
 obtain⟨c0,c1,c2,c3,c4,c5,c6⟩:=Acp hk
 have HK0:=Aac hk
 have HT:=Aac ht
 obtain⟨z1,z2,z3,z4,z5⟩:=hs
 have S1:=Aac (fun W (hW:Tabs W)=>Anf l.id (by omega) W hW)
 have S2:=Aac (fun W=>Akk l.inst (by omega) W)
 have Y1:=Aac (fun (h:Can l.qty) W=>Agb l.qty W (by omega) h)
 have X1:=Aac (fun (h:¬Can l.qty) W=>Agc l.qty W (by omega) h)
 have Y2:=Aac (fun (h:Can l.cost) W=>Agb l.cost W (by omega) h)
 have X2:=Aac (fun (h:¬Can l.cost) W=>Agc l.cost W (by omega) h)
 have Y3:=Aac (fun (h:Can l.used) W=>Agb l.used W (by omega) h)
 have X3:=Aac (fun (h:¬Can l.used) W=>Agc l.used W (by omega) h)
 have M1:=Aac (fun W=>Agf l.qty ⟨#[]⟩ W (by omega) (by show 0≤_;omega))
 have M2:=Aac (fun W=>Agf l.cost ⟨#[]⟩ W (by omega) (by show 0≤_;omega))
 rw[show vl (⟨#[]⟩:ByteArray)=0 from by rw[zero_eq,vl_I]] at M1 M2
 clear ht hk z1 z2 z3 z4 z5
 unfold Lot.enc Lot.cells at *
 go_enter Tryz.func86,Tryz.ntmps86
 go_wp2_with fail
 refine (S1.out W0 (HT.out.below HB.out)).mono ?_
 rintro e w1 ⟨rfl,b1⟩
 have hk1:=HK0.out.below b1
 replace HB:=Aac (HB.out.trans (b1.mono HB.out.size))
 clear c0 c1 c2 c3 c4 c5 c6
 obtain⟨c0,c1,c2,c3,c4,c5,c6⟩:=Acp hk1
 have HK1:=Aac hk1
 clear b1 S1 hk1 HK0 hW0
 cases hid:idB l.id
 ·have H:=Aac hid
  clear hid
  go_wp2_with fail
  go_ret
  exact⟨by rw[Ang (.inl H.out)];rfl,HB.out⟩
 have G1:=Aac hid
 clear hid
 go_wp2_with fail
 refine (S2.out w1).mono ?_
 rintro e w2 ⟨rfl,b2⟩
 have hk2:=HK1.out.below b2
 replace HB:=Aac (HB.out.trans (b2.mono HB.out.size))
 clear c0 c1 c2 c3 c4 c5 c6
 obtain⟨c0,c1,c2,c3,c4,c5,c6⟩:=Acp hk2
 have HK2:=Aac hk2
 clear b2 S2 hk2 HK1
 cases hnm:Aki l.inst
 ·have H:=Aac hnm
  clear hnm
  go_wp2_with fail
  go_ret
  exact⟨by rw[Ang (.inr H.out)];rfl,HB.out⟩
 have G2:=Aac hnm
 clear hnm
 go_wp2_with fail
 refine (Amq l.acq w2).mono ?_
 rintro e w3 ⟨rfl,rfl⟩
 by_cases h3:okDay l.acq
 case neg =>
  rw[Aaw h3]
  have H:=Aac h3
  clear h3
  go_wp2_with fail
  go_ret
  exact⟨by rw[Anh G1.out G2.out (.inl H.out)];rfl,HB.out⟩
 rw[Aav h3]
 have G3:=Aac h3
 clear h3
 go_wp2_with fail
 refine (Amq l.opn _).mono ?_
 rintro e w4 ⟨rfl,rfl⟩
 by_cases h4:okDay l.opn
 case neg =>
  rw[Aaw h4]
  have H:=Aac h4
  clear h4
  go_wp2_with fail
  go_ret
  exact⟨by rw[Anh G1.out G2.out (.inr H.out)];rfl,HB.out⟩
 rw[Aav h4]
 have G4:=Aac h4
 clear h4
 by_cases h5:l.opn<l.acq
 ·have t5:decide (l.opn<l.acq)=true:=Aav h5
  have H:=Aac h5
  clear h5
  go_wp2_with fail
  go_ret
  exact⟨by rw[Ani G1.out G2.out G3.out G4.out H.out];rfl,HB.out⟩
 have t5:decide (l.opn<l.acq)=false:=Aaw h5
 have G5:=Aac (show l.acq≤l.opn by omega)
 clear h5
 obtain⟨W5,hW5⟩:∃W5,w4.alloc (.cells (Amr l) 23)=W5:=⟨_,rfl⟩
 have b5:Below w4.heap.size w4 W5:=by rw[←hW5];exact (Below.refl _ w4).alloc (Aad _) _
 have HS5:Hid (LLoop w w4.heap.size l W5):=⟨by rw[←hW5];exact Aax w4 _,HK2.out.below b5,HB.out.trans (b5.mono HB.out.size)⟩
 clear b5 HK2 HB
 unfold Amr at hW5
 go_wp2_with fail
 go_loopw [38] (fun v wx=>∃k:Nat,v=.int .i64 (k:Int)∧k≤3∧(1≤k→Can l.qty)∧(2≤k→Can l.cost)∧(3≤k→Can l.used)∧LLoop w w4.heap.size l wx) (fun v _=>3-(intOf v).toNat)
 case atStart=>exact⟨0,rfl,by omega,fun h=>by omega,fun h=>by omega,fun h=>by omega,HS5.out⟩
 case round =>
  obtain⟨k,rfl,hk,k1,k2,k3,hL⟩:=hrel
  clear HS5 hW5
  clear c0 c1 c2 c3 c4 c5 c6
  have K1:=Aac k1
  have K2:=Aac k2
  have K3:=Aac k3
  clear k1 k2 k3
  have n0:=Aaa hL.ns 0
  have n1:=Aaa hL.ns 1
  have n2:=Aaa hL.ns 2
  simp[Amr] at n0 n1 n2
  obtain⟨c0,c1,c2,c3,c4,c5,c6⟩:=Acp hL.ib
  have HL:=Aac hL
  clear hL
  rcases (show k=0∨k=1∨k=2∨k=3 from by omega) with rfl|rfl|rfl|rfl
  ·by_cases hc:Can l.qty
   ·have H:=Aac hc
    clear hc
    go_wp2_with fail
    refine (Y1.out H.out _).mono ?_
    rintro e w6 ⟨rfl,b6⟩
    have HL6:=Aac (HL.out.below b6)
    clear b6
    go_wp2_with fail
    go_roundw
    case rel=>exact⟨1,rfl,by omega,(fun _=>H.out),(fun h=>by omega),(fun h=>by omega),HL6.out⟩
    case measure=>simp[intOf]
   ·have H:=Aac hc
    clear hc
    go_wp2_with fail
    refine (X1.out H.out _).mono ?_
    rintro e w6 ⟨rfl,b6⟩
    have HB:=Aac (HL.out.below b6).be
    clear b6
    go_wp2_with fail
    go_ret
    exact⟨by rw[Anj G1.out G2.out G3.out G4.out G5.out (.inl H.out)];rfl,HB.out⟩
  ·by_cases hc:Can l.cost
   ·have H:=Aac hc
    clear hc
    go_wp2_with fail
    refine (Y2.out H.out _).mono ?_
    rintro e w6 ⟨rfl,b6⟩
    have HL6:=Aac (HL.out.below b6)
    clear b6
    go_wp2_with fail
    go_roundw
    case rel=>exact⟨2,rfl,by omega,(fun _=>K1.out (by omega)),(fun _=>H.out),(fun h=>by omega),HL6.out⟩
    case measure=>simp[intOf]
   ·have H:=Aac hc
    clear hc
    go_wp2_with fail
    refine (X2.out H.out _).mono ?_
    rintro e w6 ⟨rfl,b6⟩
    have HB:=Aac (HL.out.below b6).be
    clear b6
    go_wp2_with fail
    go_ret
    exact⟨by rw[Anj G1.out G2.out G3.out G4.out G5.out (.inr (.inl H.out))];rfl,HB.out⟩
  ·by_cases hc:Can l.used
   ·have H:=Aac hc
    clear hc
    go_wp2_with fail
    refine (Y3.out H.out _).mono ?_
    rintro e w6 ⟨rfl,b6⟩
    have HL6:=Aac (HL.out.below b6)
    clear b6
    go_wp2_with fail
    go_roundw
    case rel=>exact⟨3,rfl,by omega,(fun _=>K1.out (by omega)),(fun _=>K2.out (by omega)),(fun _=>H.out),HL6.out⟩
    case measure=>simp[intOf]
   ·have H:=Aac hc
    clear hc
    go_wp2_with fail
    refine (X3.out H.out _).mono ?_
    rintro e w6 ⟨rfl,b6⟩
    have HB:=Aac (HL.out.below b6).be
    clear b6
    go_wp2_with fail
    go_ret
    exact⟨by rw[Anj G1.out G2.out G3.out G4.out G5.out (.inr (.inr H.out))];rfl,HB.out⟩
  ·go_wp2_with fail
   refine (M1.out _).mono ?_
   rintro e w6 ⟨rfl,b6⟩
   have hL6:=HL.out.below b6
   clear c0 c1 c2 c3 c4 c5 c6
   clear n0 n1 n2
   obtain⟨c0,c1,c2,c3,c4,c5,c6⟩:=Acp hL6.ib
   have HL6:=Aac hL6
   clear b6 hL6 HL
   by_cases h9:0<vl l.qty
   case neg =>
    have t9:=Am4 h9
    have H:=Aac h9
    clear h9
    go_wp2_with fail
    go_ret
    exact⟨by rw[Ank G1.out G2.out G3.out G4.out G5.out (K1.out (by omega)) (K2.out (by omega)) (K3.out (by omega)) (.inl (Int.not_lt.2 H.out))];rfl,HL6.out.be⟩
   have t9:=Am3 h9
   have G9:=Aac h9
   clear h9
   go_wp2_with fail
   refine (M2.out _).mono ?_
   rintro e w7 ⟨rfl,b7⟩
   have hL7:=HL6.out.below b7
   clear c0 c1 c2 c3 c4 c5 c6
   obtain⟨c0,c1,c2,c3,c4,c5,c6⟩:=Acp hL7.ib
   have HL7:=Aac hL7
   clear b7 hL7 HL6
   by_cases h10:vl l.cost<0
   ·have t10:=Am5 h10
    have H:=Aac h10
    clear h10
    go_wp2_with fail
    go_ret
    exact⟨by rw[Ank G1.out G2.out G3.out G4.out G5.out (K1.out (by omega)) (K2.out (by omega)) (K3.out (by omega)) (.inr (.inl H.out))];rfl,HL7.out.be⟩
   have t10:=Am6 h10
   have G10:=Aac (show 0≤vl l.cost by omega)
   clear h10
   have e1:=Am7 l.used ⟨#[]⟩
   rw[show (⟨#[]⟩:ByteArray).toList=[] from by rw[Lib.toList_data]] at e1
   have e2:=Am7 l.used l.qty
   have OK:=Aac (fun (u:l.used=⟨#[]⟩∨l.used=l.qty)=>lchk_zero.2 (⟨G1.out,G2.out,G3.out,G4.out,G5.out,K1.out (by omega),K2.out (by omega),K3.out (by omega),G9.out,G10.out,u⟩:l.ok))
   by_cases h11:l.used=⟨#[]⟩
   ·have G11:=Aac h11
    rw[Aav h11] at e1
    clear h11 e2
    go_wp2_with fail
    go_ret
    exact⟨by rw[OK.out (.inl G11.out)];rfl,HL7.out.be⟩
   rw[Aaw h11] at e1
   have H11:=Aac h11
   clear h11
   by_cases h12:l.used=l.qty
   ·have G12:=Aac h12
    rw[Aav h12] at e2
    clear h12
    go_wp2_with fail
    go_ret
    exact⟨by rw[OK.out (.inr G12.out)];rfl,HL7.out.be⟩
   rw[Aaw h12] at e2
   have H12:=Aac h12
   clear h12
   go_wp2_with fail
   go_ret
   exact⟨by rw[Ank G1.out G2.out G3.out G4.out G5.out (K1.out (by omega)) (K2.out (by omega)) (K3.out (by omega)) (.inr (.inr ⟨H11.out,H12.out⟩))];rfl,HL7.out.be⟩
theorem Ann{t:List UInt8}(h:numB t=true):1≤t.length∧t.length≤4∧t.all Abs=true∧t.getD 0 0≠48:=by
 obtain⟨h4,v,_,h1,h2,h3⟩:=Amn h
 obtain⟨n,rfl⟩:∃n:Nat,v=(n:Int):=⟨v.toNat,by omega⟩
 have hn:0<n:=by omega
 rw[Anb hn] at h3
 subst h3
 exact⟨List.length_pos_iff.2 (Abu hn),h4,all_digits n,Anc hn⟩
theorem Anp{t:List UInt8}(h:numB t=true→False):numB t=false:=by
 cases e:numB t
 ·rfl
 ·exact (h e).elim
theorem Anq{s:ByteArray}{i:Nat}(hi:i<s.size)(h47:byt s i=47)(hn:∀j,j<i→byt s j≠47):idB s=(numB (s.extract (i+1) s.size).data.toList&&Aki (s.extract 0 i)):=by
 have hl:s.data.toList.length=s.size:=(Lib.size_eq s).symm
 have hx:Lib.indexB s ⟨#[47]⟩=(i:Int):=by
  refine index_slash _ i ?_ ?_
  ·have:s.data.toList.getD i 0=47:=h47
   rw[Aat,Aae (by omega),Option.getD_some] at this
   rw[Aae (by omega),this]
  ·intro j hj e
   refine hn j hj ?_
   unfold byt
   rw[Aat,e]
   rfl
 obtain⟨c1,c2,_⟩:=Lib.cutB_hit s ⟨#[47]⟩ i hx
 rw[show (⟨#[47]⟩:ByteArray).data.toList=[47] from rfl] at c1 c2
 rw[show (⟨#[47]⟩:ByteArray).size=1 from rfl] at c2
 unfold idB
 rw[←c2,←c1]
 unfold bs
 simp
theorem index_none:∀(l:List UInt8),(∀j,j<l.length→l[j]?≠some 47)→Lib.index l [47]=-1
 | [],_=>by simp[Lib.index]
 | b::r,hn=>by
   have hb:b≠47:=fun e=>hn 0 (by simp) (by simp[e])
   have hr:=index_none r (fun j hj=>by have:=hn (j+1) (by simpa using hj);simpa using this)
   unfold Lib.index
   rw[if_neg (by simpa using fun e=>hb e.symm),hr]
   rfl
theorem Anr{s:ByteArray}(hn:∀j,j<s.size→byt s j≠47):idB s=false:=by
 have hl:s.data.toList.length=s.size:=(Lib.size_eq s).symm
 have hx:Lib.index s.data.toList [47]=-1:=by
  refine index_none _ (fun j hj e=>hn j (by omega) ?_)
  unfold byt
  rw[Aat,e]
  rfl
 have hc:(Lib.cut s.data.toList [47]).2.1=[]:=by
  unfold Lib.cut
  rw[hx]
  rfl
 unfold idB
 rw[hc,Anp (fun h=>by have:=(Ann h).1;simp at this)]
 rfl
theorem Ans(s:ByteArray)(hs:s.size≤1000)(w:World):Calls Tryz.prog 245 #[.string s] w fun e w'=>e=.returned (.bool (numB s.data.toList))∧w=w':=by
 by_cases h1:s.size<1
 ·have t1:decide ((s.size:Int)<1)=true:=Aav (by omega)
  go_enter Tryz.func245,Tryz.ntmps245
  go_wp2_with fail
  go_ret
  exact⟨by rw[Anp (fun h=>by have:=(Ann h).1;rw[←Lib.size_eq] at this;omega)];rfl,rfl⟩
 have t1:decide ((s.size:Int)<1)=false:=Aaw (by omega)
 by_cases h4:4<s.size
 ·have t2:decide ((4:Int)<(s.size:Int))=true:=Aav (by omega)
  go_enter Tryz.func245,Tryz.ntmps245
  go_wp2_with fail
  go_ret
  exact⟨by rw[Anp (fun h=>by have:=(Ann h).2.1;rw[←Lib.size_eq] at this;omega)];rfl,rfl⟩
 have t2:decide ((4:Int)<(s.size:Int))=false:=Aaw (by omega)
 have hg0:(s[0]'(by omega)).toNat=(byt s 0).toNat:=by rw[Adb]
 by_cases h0:byt s 0=48
 ·have hz:(byt s 0).toNat=48:=by rw[h0];rfl
  rw[hz] at hg0
  have H0:=Aac h0
  have t3:(((s[0]'(by omega)).toNat:Int)==48)=true:=by rw[hg0];rfl
  go_enter Tryz.func245,Tryz.ntmps245
  go_wp2_with fail
  go_ret
  exact⟨by rw[Anp (fun h=>(Ann h).2.2.2 (show s.data.toList.getD 0 0=48 from H0.out))];rfl,rfl⟩
 have hz:(byt s 0).toNat≠48:=fun e=>h0 (UInt8.toNat_inj.1 (by simpa using e))
 have t3:(((s[0]'(by omega)).toNat:Int)==48)=false:=by rw[Aaj,hg0];omega
 have H0:=Aac h0
 clear h0 hz hg0
 go_enter Tryz.func245,Tryz.ntmps245
 go_wp2_with fail
 go_loop [3] (fun v=>∃j:Nat,v=.int .i64 (j:Int)∧j≤s.size∧(s.data.toList.take j).all Abs=true) (fun v=>s.size-(intOf v).toNat)
 case atStart=>exact⟨0,rfl,by omega,rfl⟩
 case round =>
  clear t3
  obtain⟨j,rfl,hj,hall⟩:=hrel
  have HA:=Aac hall
  clear hall
  rcases Aam j s.size with hlt|hge
  ·have hb:=(byt s j).toNat_lt
   have hg:s[j].toNat=(byt s j).toNat:=by rw[Adb]
   generalize hbb:(byt s j).toNat=bb at hb hg
   have HCB:=Aac hbb
   clear hbb
   by_cases a1:bb<48
   ·have c1:decide ((bb:Int)<48)=true:=Aav (by omega)
    have HN:Hid (Abs (byt s j)=false):=by rw[Hid,←Bool.not_eq_true,Abx,HCB.out];omega
    clear HCB
    go_wp2_with fail
    go_ret
    exact⟨by rw[Anp (fun h=>by have:=(Ann h).2.2.1;rw[Ade hlt HN.out] at this;cases this)];rfl,rfl⟩
   have c1:decide ((bb:Int)<48)=false:=Aaw (by omega)
   by_cases a2:57<bb
   ·have c2:decide (57<(bb:Int))=true:=Aav (by omega)
    have HN:Hid (Abs (byt s j)=false):=by rw[Hid,←Bool.not_eq_true,Abx,HCB.out];omega
    clear HCB
    go_wp2_with fail
    go_ret
    exact⟨by rw[Anp (fun h=>by have:=(Ann h).2.2.1;rw[Ade hlt HN.out] at this;cases this)];rfl,rfl⟩
   have c2:decide (57<(bb:Int))=false:=Aaw (by omega)
   have HN:Hid (Abs (byt s j)=true):=by rw[Hid,Abx,HCB.out];omega
   clear HCB a1 a2
   go_wp2_with fail
   go_round
   case rel=>exact⟨j+1,by go_num,by omega,Adc HA.out hlt HN.out⟩
   case measure=>simp[intOf];omega
  ·have hc:decide ((j:Int)<(s.size:Int))=false:=Aaw (by omega)
   have HH:Hid (s.data.toList.all Abs=true):=by
    have:=HA.out
    rw[Aai (by rw[←Lib.size_eq];omega)] at this
    exact this
   go_wp2_with fail
   go_ret
   exact⟨by rw[Amt (by rw[←Lib.size_eq];omega) (by rw[←Lib.size_eq];omega) HH.out H0.out];rfl,rfl⟩
theorem rId_ex(s:ByteArray)(hs:s.size≤1000)(w:World):Calls Tryz.prog 200 #[.string s] w fun e w'=>e=.returned (.bool (idB s))∧w=w':=by
 go_enter Tryz.func200,Tryz.ntmps200
 go_wp2_with fail
 go_loop [3] (fun v=>∃j:Nat,v=.int .i64 (j:Int)∧j≤s.size∧(∀k,k<j→byt s k≠47)) (fun v=>s.size-(intOf v).toNat)
 case atStart=>exact⟨0,rfl,by omega,fun k hk=>by omega⟩
 case round =>
  obtain⟨j,rfl,hj,hall⟩:=hrel
  have HA:=Aac hall
  clear hall
  rcases Aam j s.size with hlt|hge
  ·have hg:s[j].toNat=(byt s j).toNat:=by rw[Adb]
   have hbt:=(byt s j).toNat_lt
   by_cases a1:byt s j=47
   ·have HE:=Aac a1
    rw[a1] at hg
    have hg':s[j].toNat=47:=hg
    have z1:(s.extract 0 j).size=j:=by rw[ByteArray.size_extract];omega
    have z2:(s.extract (j+1) s.size).size≤1000:=by rw[ByteArray.size_extract];omega
    have HNM:=Aac (fun W=>Akp (s.extract 0 j) (by omega) W)
    have HNU:=fun W=>Ans (s.extract (j+1) s.size) z2 W
    obtain⟨nb,hnb⟩:∃nb,numB (s.extract (j+1) s.size).data.toList=nb:=⟨_,rfl⟩
    rw[hnb] at HNU
    replace HNU:=Aac HNU
    have HNB:=Aac hnb
    clear hnb
    clear hg hbt a1
    go_wp2_with fail
    refine (HNM.out _).mono ?_
    rintro e w1 ⟨rfl,rfl⟩
    cases hnm:Aki (s.extract 0 j)
    ·have HM:=Aac hnm
     clear hnm
     go_wp2_with fail
     go_ret
     exact⟨by rw[Anq hlt HE.out HA.out,HM.out,Bool.and_false];rfl,rfl⟩
    ·have HM:=Aac hnm
     clear hnm
     go_wp2_with fail
     refine (HNU.out _).mono ?_
     rintro e w2 ⟨rfl,rfl⟩
     go_wp2_with fail
     go_ret
     exact⟨by rw[Anq hlt HE.out HA.out,HM.out,Bool.and_true,HNB.out];rfl,rfl⟩
   ·have a2:(byt s j).toNat≠47:=fun e=>a1 (UInt8.toNat_inj.1 (by simpa using e))
    have HE:=Aac a1
    generalize (byt s j).toNat=bb at hg a2 hbt
    have c1:((bb:Int)==47)=false:=by rw[Aaj];omega
    clear a1 a2
    go_wp2_with fail
    go_round
    case rel =>
     refine⟨j+1,by go_num,by omega,fun k hk=>?_⟩
     rcases Aam k j with h|h
     ·exact HA.out k h
     ·have:k=j:=by omega
      subst this
      exact HE.out
    case measure=>simp[intOf];omega
  ·have hc:decide ((j:Int)<(s.size:Int))=false:=Aaw (by omega)
   go_wp2_with fail
   go_ret
   exact⟨by rw[Anr (fun k hk=>HA.out k (by omega))];rfl,rfl⟩
theorem Ant(l:Lot)(hs:l.tiny)(w:World):Calls Tryz.prog 139 #[l.enc] w fun e w'=>e=.returned (.int .i64 (lchk l))∧Below w.heap.size w w':=by
 obtain⟨W0,hW0,hB0,hk⟩:=lbox l w
 obtain⟨z1,z2,z3,z4,z5⟩:=hs
 have N1:=Aac (fun W=>rId_ex l.id (by omega) W)
 have N2:=Aac (fun W=>Akp l.inst (by omega) W)
 have Y1:=Aac (fun (h:Can l.qty) W=>Adp l.qty (by omega) h W)
 have X1:=Aac (fun (h:¬Can l.qty) W=>Adq l.qty (by omega) h W)
 have Y2:=Aac (fun (h:Can l.cost) W=>Adp l.cost (by omega) h W)
 have X2:=Aac (fun (h:¬Can l.cost) W=>Adq l.cost (by omega) h W)
 have Y3:=Aac (fun (h:Can l.used) W=>Adp l.used (by omega) h W)
 have X3:=Aac (fun (h:¬Can l.used) W=>Adq l.used (by omega) h W)
 have S1:=Aac (fun W=>Ad1 l.qty (by omega) W)
 have S2:=Aac (fun W=>Ad1 l.cost (by omega) W)
 clear z1 z2 z3 z4 z5
 obtain⟨c0,c1,c2,c3,c4,c5,c6⟩:=Acp hk
 have HB:=Aac hB0
 clear hB0 hk
 go_enter Tryz.func139,Tryz.ntmps139
 go_wp2_with fail
 refine (N1.out _).mono ?_
 rintro e w1 ⟨rfl,rfl⟩
 cases hg:idB l.id
 ·have H:=Aac hg
  clear hg
  go_wp2_with fail
  go_ret
  exact⟨by rw[Ang (.inl H.out)];rfl,HB.out⟩
 have G1:=Aac hg
 clear hg N1
 go_wp2_with fail
 refine (N2.out _).mono ?_
 rintro e w1 ⟨rfl,rfl⟩
 cases hn:Aki l.inst
 ·have H:=Aac hn
  clear hn
  go_wp2_with fail
  go_ret
  exact⟨by rw[Ang (.inr H.out)];rfl,HB.out⟩
 have G2:=Aac hn
 clear hn N2
 go_wp2_with fail
 refine (Am1 l.acq _).mono ?_
 rintro e w1 ⟨rfl,rfl⟩
 by_cases h3:okDay l.acq
 case neg =>
  rw[Aaw h3]
  have H:=Aac h3
  clear h3
  go_wp2_with fail
  go_ret
  exact⟨by rw[Anh G1.out G2.out (.inl H.out)];rfl,HB.out⟩
 rw[Aav h3]
 have G3:=Aac h3
 clear h3
 go_wp2_with fail
 refine (Am1 l.opn _).mono ?_
 rintro e w1 ⟨rfl,rfl⟩
 by_cases h4:okDay l.opn
 case neg =>
  rw[Aaw h4]
  have H:=Aac h4
  clear h4
  go_wp2_with fail
  go_ret
  exact⟨by rw[Anh G1.out G2.out (.inr H.out)];rfl,HB.out⟩
 rw[Aav h4]
 have G4:=Aac h4
 clear h4
 by_cases h5:l.opn<l.acq
 ·have t5:decide (l.opn<l.acq)=true:=Aav h5
  have H:=Aac h5
  clear h5
  go_wp2_with fail
  go_ret
  exact⟨by rw[Ani G1.out G2.out G3.out G4.out H.out];rfl,HB.out⟩
 have t5:decide (l.opn<l.acq)=false:=Aaw h5
 have G5:=Aac (show l.acq≤l.opn by omega)
 clear h5
 go_wp2_with fail
 by_cases h6:Can l.qty
 case neg =>
  refine (X1.out h6 _).mono ?_
  rintro e w1 ⟨rfl,rfl⟩
  have H:=Aac h6
  clear h6
  go_wp2_with fail
  go_ret
  exact⟨by rw[Anj G1.out G2.out G3.out G4.out G5.out (.inl H.out)];rfl,HB.out⟩
 refine (Y1.out h6 _).mono ?_
 rintro e w1 ⟨rfl,rfl⟩
 have G6:=Aac h6
 clear h6 Y1 X1
 go_wp2_with fail
 by_cases h7:Can l.cost
 case neg =>
  refine (X2.out h7 _).mono ?_
  rintro e w1 ⟨rfl,rfl⟩
  have H:=Aac h7
  clear h7
  go_wp2_with fail
  go_ret
  exact⟨by rw[Anj G1.out G2.out G3.out G4.out G5.out (.inr (.inl H.out))];rfl,HB.out⟩
 refine (Y2.out h7 _).mono ?_
 rintro e w1 ⟨rfl,rfl⟩
 have G7:=Aac h7
 clear h7 Y2 X2
 go_wp2_with fail
 by_cases h8:Can l.used
 case neg =>
  refine (X3.out h8 _).mono ?_
  rintro e w1 ⟨rfl,rfl⟩
  have H:=Aac h8
  clear h8
  go_wp2_with fail
  go_ret
  exact⟨by rw[Anj G1.out G2.out G3.out G4.out G5.out (.inr (.inr H.out))];rfl,HB.out⟩
 refine (Y3.out h8 _).mono ?_
 rintro e w1 ⟨rfl,rfl⟩
 have G8:=Aac h8
 clear h8 Y3 X3
 go_wp2_with fail
 refine (S1.out _).mono ?_
 rintro e w1 ⟨rfl,rfl⟩
 by_cases h9:0<vl l.qty
 case neg =>
  have t9:=Am4 h9
  have H:=Aac h9
  clear h9
  go_wp2_with fail
  go_ret
  exact⟨by rw[Ank G1.out G2.out G3.out G4.out G5.out G6.out G7.out G8.out (.inl (by have:=H.out;omega))];rfl,HB.out⟩
 have t9:=Am3 h9
 have G9:=Aac h9
 clear h9
 go_wp2_with fail
 refine (S2.out _).mono ?_
 rintro e w1 ⟨rfl,rfl⟩
 by_cases h10:vl l.cost<0
 ·have t10:=Am5 h10
  have H:=Aac h10
  clear h10
  go_wp2_with fail
  go_ret
  exact⟨by rw[Ank G1.out G2.out G3.out G4.out G5.out G6.out G7.out G8.out (.inr (.inl H.out))];rfl,HB.out⟩
 have t10:=Am6 h10
 have G10:=Aac (show 0≤vl l.cost by omega)
 clear h10
 have e1:=Am7 l.used ⟨#[]⟩
 rw[show (⟨#[]⟩:ByteArray).toList=[] from by rw[Lib.toList_data]] at e1
 have e2:=Am7 l.used l.qty
 by_cases h11:l.used=⟨#[]⟩
 ·have G11:=Aac h11
  rw[Aav h11] at e1
  clear h11 e2
  go_wp2_with fail
  go_ret
  exact⟨by rw[lchk_zero.2 ⟨G1.out,G2.out,G3.out,G4.out,G5.out,G6.out,G7.out,G8.out,G9.out,G10.out,.inl G11.out⟩];rfl,HB.out⟩
 rw[Aaw h11] at e1
 have G11:=Aac h11
 clear h11
 by_cases h12:l.used=l.qty
 ·have G12:=Aac h12
  rw[Aav h12] at e2
  clear h12
  go_wp2_with fail
  go_ret
  exact⟨by rw[lchk_zero.2 ⟨G1.out,G2.out,G3.out,G4.out,G5.out,G6.out,G7.out,G8.out,G9.out,G10.out,.inr G12.out⟩];rfl,HB.out⟩
 rw[Aaw h12] at e2
 have G12:=Aac h12
 clear h12
 go_wp2_with fail
 go_ret
 exact⟨by rw[Ank G1.out G2.out G3.out G4.out G5.out G6.out G7.out G8.out (.inr (.inr ⟨G11.out,G12.out⟩))];rfl,HB.out⟩
attribute [local go_sem] Oper.semAt_some
abbrev SLot:={l:Lot // l.sized}
def encL(x:SLot):Array Value:=#[x.1.enc]
def ownL(ls:List SLot)(s:ByteArray):List SLot:=ls.filter fun l=>decide (l.1.inst=s)
theorem Anu{ls:List SLot}{s:ByteArray}{k:Nat}{l:SLot}(hl:ls[k]?=some l):ownL (ls.take (k+1)) s=ownL (ls.take k) s++(if l.1.inst=s then [l] else []):=by
 have hk:k<ls.length:=(Aak.1 hl).1
 have e:ls[k]=l:=by rw[Aae hk] at hl;exact Option.some.inj hl
 unfold ownL
 rw[List.take_succ_eq_append_getElem hk,List.filter_append,e]
 by_cases h:l.1.inst=s<;>simp[h]
theorem Anv(ls:List SLot)(s:ByteArray)(k:Nat):(ownL (ls.take k) s).length≤k:=Aap (List.length_filter_le _ _) (List.length_take_le _ _)
def KpB(n₀ b:Nat)(W W':World):Prop:=Below n₀ W W'∧(b<W.heap.size→W'.heap[b]?=W.heap[b]?)
theorem KpB.trans{n₀ b:Nat}{A B C:World}(h:KpB n₀ b A B)(k:KpB n₀ b B C):KpB n₀ b A C :=
 ⟨h.1.trans k.1,fun hb=>(k.2 (Aah hb h.1.size)).trans (h.2 hb)⟩
theorem KpB.put{n₀ b N:Nat}(hn:n₀≤N)(hb:b<N)(W:World)(l:Nat)(o o':Obj)(hl:N≤l)(h:W.heap[l]?=some o):KpB n₀ b W (W.putObj l o') :=
 ⟨(Below.refl n₀ W).grown (grownBy_putObj' W l o') (by have:=(Aab.1 h).1;omega) (fun k e=>by cases e;omega),fun _=>World.putObj_heap_other (by omega)⟩
theorem KpB.below{n₀ b:Nat}{A B:World}(h:Below A.heap.size A B)(hn:n₀≤A.heap.size):KpB n₀ b A B:=⟨h.mono hn,fun hb=>h.block b hb⟩
def RdB(n₀:Nat)(w:World)(A:Option Addr)(ls:List SLot):Prop :=
 ls≠[]→∃ad:Addr,A=some ad∧ad.block<n₀∧∀(j:Nat) (l:SLot),ls[j]?=some l→LotAt w (ad.add (j*7)) l.1
theorem RdB.below{n₀:Nat}{w w':World}{A:Option Addr}{ls:List SLot}(h:RdB n₀ w A ls)(hb:Below n₀ w w'):RdB n₀ w' A ls:=by
 intro hl
 obtain⟨ad,rfl,h1,h2⟩:=h hl
 exact⟨ad,rfl,h1,fun j l hj=>(h2 j l hj).below hb (by rw[Ach];exact h1)⟩
theorem Anw(a b:ByteArray):(a.toList==b.toList)=decide (a=b):=by
 by_cases h:a=b
 ·subst h;simp
 ·rw[Ac7 h];simp[h]
theorem Anx(n n₀ bl bi:Nat)(A:Option Addr)(ls:List SLot)(c:Nat)(s:ByteArray)(w:World)(hn:1≤n)(hlen:ls.length≤1000000)
 (hbl:Boxed w bl 45 (.slice A ls.length c)) (hbi:Boxed w bi 9 (.string s)) (hR:RdB n₀ w A ls) (hnw:n₀≤w.heap.size) :
 SeqStopsK Fence.wide n Tryz.prog 141 #[.pointer (some ⟨bl,0,none⟩),.pointer (some ⟨bi,0,none⟩)] encL (KpB n₀ bi) (fun xs=>xs=ownL ls s) (fun _=>True) (ls.length+1) w:=by
 intro l J Jx W hW hJ hJx hY hJ0
 have HJ:=Aac hJ
 have HY:=Aac hY
 have hbl':Boxed W bl 45 (.slice A ls.length c):=(hW.block bl hbl.lt).trans hbl
 have hbi':Boxed W bi 9 (.string s):=(hW.block bi hbi.lt).trans hbi
 have HBI:=Aac hbi'
 have HR:=Aac (hR.below (hW.mono hnw))
 have cl:=hbl'.cell
 have hWs:w.heap.size≤W.heap.size:=hW.size
 clear hJ hJx hY hbl hbi hbl' hbi' hR hW
 refine callsIn_of_wp Tryz.func141 rfl trivial ?_ rfl
 simp only[Tryz.ntmps141,List.size_toArray,Aau,List.length_nil,Nat.reduceAdd,Nat.reduceSub,Array.replicate_succ,Array.replicate_zero,List.push_toArray,List.append_toArray,List.nil_append,List.cons_append]
 gi_wp2
 gi_loopw [8] (fun v wr=>∃k:Nat,v=.int .i64 (k:Int)∧k≤ls.length∧Boxed wr bi 9 (.string s)∧RdB n₀ wr A ls∧n₀≤wr.heap.size∧J (ownL (ls.take k) s) wr) (fun v _=>ls.length-(intOf v).toNat)
 case atStart=>exact⟨0,rfl,by omega,HBI.out,HR.out,Aap hnw hWs,hJ0⟩
 case round =>
  obtain⟨k,rfl,hk,hb,hr,hnr,hj⟩:=hrel
  clear HBI HR cl hJ0
  rcases Aam k ls.length with hlt|hge
  ·obtain⟨x,hl⟩:∃x,ls[k]?=some x:=⟨_,Aae hlt⟩
   obtain⟨ad,rfl,had,hcell⟩:=hr (by intro e;rw[e] at hlt;cases hlt)
   have hcx:decide ((k:Int)<(ls.length:Int))=true:=by simp;omega
   obtain⟨c0,c1,c2,c3,c4,c5,c6⟩:=hcell k x hl
   have HOS:=Aac (Anu (s:=s) hl)
   have HOL:=Aac (Anv ls s k)
   obtain⟨W5,hW5⟩:∃W5,wr.alloc (.cells x.1.cells 63)=W5:=⟨_,rfl⟩
   have k5:LotBox W5 wr.heap.size x.1:=by rw[←hW5];exact Aax wr _
   have b5:Below wr.heap.size wr W5:=by rw[←hW5];exact (Below.refl _ wr).alloc (Aad _) _
   have hj5:J (ownL (ls.take k) s) W5:=by rw[←hW5];exact HJ.out _ _ _ none hj (World.grownBy_alloc wr _ none) (fun r e=>by cases e)
   have hb5:Boxed W5 bi 9 (.string s):=(b5.block bi hb.lt).trans hb
   have hr5:RdB n₀ W5 (some ad) ls:=hr.below (b5.mono hnr)
   have hn5:n₀≤W5.heap.size:=Aap hnr b5.size
   obtain⟨m0,m1,m2,m3,m4,m5,m6⟩:=Acp k5
   have cb:=hb5.cell
   have hse:=Anw x.1.inst s
   have HBB:=Aac hb5
   have HRR:=Aac hr5
   have HJJ:=Aac hj5
   clear hb hr hj k5 b5 hb5 hr5 hj5 hcell hl
   unfold Lot.cells at hW5
   by_cases he:x.1.inst=s
   ·rw[Aav he] at hse
    obtain⟨fn,tmps,assign,body,hy,hR⟩:=HY.out _ x W5 HJJ.out (by have:=HOL.out;omega)
    dsimp only[encL,Lot.enc,Lot.cells] at hy
    have HE:=Aac he
    have HRD:=Aac hR
    clear he hR
    gi_wp2
    refine HRD.out.mono ?_
    rintro e W6 (⟨rfl,hj6,hk6⟩|⟨rfl,hjx⟩)
    ·have HB6:Hid (Boxed W6 bi 9 (.string s)):=(hk6.2 HBB.out.lt).trans HBB.out
     have HR6:=Aac (HRR.out.below hk6.1)
     have hn6:n₀≤W6.heap.size:=Aap hn5 hk6.1.size
     have HJ6:Hid (J (ownL (ls.take (k+1)) s) W6):=by rw[Hid,HOS.out,if_pos HE.out];exact hj6
     clear hj6 hk6
     gi_wp2
     go_roundw
     case rel=>exact⟨k+1,by go_num,by omega,HB6.out,HR6.out,hn6,HJ6.out⟩
     case measure=>simp[intOf];omega
    ·gi_wp2
     refine bodyPost_ret (results_none rfl _ _ _) rfl ?_
     exact⟨⟨_,rfl⟩,.inr ⟨_,trivial,hjx⟩⟩
   ·rw[Aaw he] at hse
    have HE:=Aac he
    clear he
    gi_wp2
    refine⟨fun _ h=>(by cases h),?_⟩
    gi_wp2
    go_roundw
    case rel=>exact⟨k+1,by go_num,by omega,HBB.out,HRR.out,hn5,by rw[HOS.out,if_neg HE.out,List.append_nil];exact HJJ.out⟩
    case measure=>simp[intOf];omega
  ·have hcx:decide ((k:Int)<(ls.length:Int))=false:=by simp;omega
   gi_wp2
   go_end0
   refine⟨⟨_,rfl⟩,.inl ⟨_,rfl,?_⟩⟩
   rw[Aai (by omega)] at hj
   exact hj
theorem Anz(A:Option Addr)(k c:Nat)(s:ByteArray)(w:World):
 Calls Tryz.prog 77 #[.slice A k c,.string s] w fun e w'=>e=.returned (.func (.func 141) #[] #[.pointer (some ⟨w.heap.size,0,none⟩),.pointer (some ⟨w.heap.size+1,0,none⟩)])∧w'=(w.alloc (.cells #[.slice A k c] 45)).alloc (.cells #[.string s] 9):=by
 go_enter Tryz.func77,Tryz.ntmps77
 go_wp2_with fail
 go_ret
 exact⟨rfl,rfl⟩
end Go.Proofs.YtcnmoobojdopgaaGreatDoor
namespace Go.Proofs.YtcnmoobojdopgaaGreatDoor
open Go.RowKit Tr Go.Shelf
attribute [local go_sem] Oper.semAt_some
theorem Tryz.infoLot:(Tryz.prog.info? 63).map (fun i=>(i.zero,i.size,i.bytes))=some (some (.agg #[.string ⟨#[]⟩,.string ⟨#[]⟩,.int .i64 0,.int .i64 0,.string ⟨#[]⟩,.string ⟨#[]⟩,.string ⟨#[]⟩]),7,96):=by kernel_rfl
def flatL(ls:List SLot):List Value:=ls.flatMap fun x=>x.1.cells.toList
theorem An0(ls:List SLot)(x:SLot):flatL (ls++[x])=flatL ls++x.1.cells.toList:=by simp[flatL]
theorem An1(w:World)(cs:Array Value)(t:TypeId):∀j u,cs.toList[j]?=some u→(w.alloc (.cells cs t)).cell? ((⟨w.heap.size,0,none⟩:Addr).add j)=some u:=by
 intro j u hj
 have h:=Aax w (.cells cs t)
 have e:(⟨w.heap.size,0,none⟩:Addr).add j=⟨w.heap.size,j,none⟩:=by unfold Addr.add;split<;>simp_all
 rw[e,Aaa h j]
 simpa using hj
theorem An2(n bl bi n₀:Nat)(A:Option Addr)(ls:List SLot)(c:Nat)(s:ByteArray)(w:World)(hn:3≤n)(hlen:ls.length≤1000000)
 (hbl:Boxed w bl 45 (.slice A ls.length c)) (hbi:Boxed w bi 9 (.string s)) (hR:RdB n₀ w A ls) (hnw:n₀≤w.heap.size) :
 CallsIn Fence.wide n Tryz.prog 240 #[.slice none 0 0,.func (.func 141) #[] #[.pointer (some ⟨bl,0,none⟩),.pointer (some ⟨bi,0,none⟩)]] w
  fun e w'=>∃v,e=.returned v∧w'.ownsRow w.heap.size 63 7 v (ownL ls s).length (flatL (ownL ls s))∧Below w.heap.size w w':=by
 have h1:1≤n:=by omega
 obtain⟨i0,hi,hz0,hz1,hz2⟩:=info_parts Tryz.infoLot
 refine callsIn_of_wp_marks Tryz.func240 rfl trivial ?_ rfl
 simp only[Tryz.ntmps240,List.size_toArray,Aau,List.length_nil,Nat.reduceAdd,Nat.reduceSub,Array.replicate_succ,Array.replicate_zero,List.push_toArray,List.append_toArray,List.nil_append,List.cons_append]
 gi_wp2
 obtain⟨W0,hW0⟩:∃W0,w.alloc (.cells #[.slice none 0 0] 45)=W0:=⟨_,rfl⟩
 have hb0:Below w.heap.size w W0:=by rw[←hW0];exact (Below.refl _ w).alloc (Aad _) _
 have hbo:Boxed W0 w.heap.size 45 (.slice none 0 0):=by rw[←hW0];exact Boxed.new w _ _
 have hsz:W0.heap.size=w.heap.size+1:=by rw[←hW0];simp
 rw[hW0]
 have hbl0:Boxed W0 bl 45 (.slice A ls.length c):=(hb0.block bl hbl.lt).trans hbl
 have hbi0:Boxed W0 bi 9 (.string s):=(hb0.block bi hbi.lt).trans hbi
 have hlbi:=hbi.lt
 refine wpIn_rangeFunc_ownH rfl h1 (gf:=141) (lb:=#[.pointer (some ⟨bl,0,none⟩),.pointer (some ⟨bi,0,none⟩)]) rfl trivial (enters_of Tryz.func141 (by kernel_rfl) rfl)
  (Anx (n-1) n₀ bl bi A ls c s W0 (by omega) hlen hbl0 hbi0 (hR.below (hb0.mono hnw)) (by omega)) KpB.trans (fun W l o o' hl h _ _=>KpB.put (N:=W0.heap.size) (by omega) (by omega) W l o o' hl h) (Below.refl _ _) (fun _=>rfl)
  (fun pre W=>(∃v,Boxed W w.heap.size 45 v∧W.ownsRow w.heap.size 63 7 v pre.length (flatL pre)∧(∃A' k' c',v=.slice A' k' c'))∧Below w.heap.size w W) (fun _ _ _=>False)
  (OwnFrom.and ((holdsRow_own w.heap.size w.heap.size 45 63 7 (fun pre=>pre.length) (fun pre=>flatL pre) (fun _ v=>∃A' k' c',v=.slice A' k' c')).from _) (ownFrom_below (Aad _) (by omega)))
  (fun _=>ownFrom_pure _ _) ⟨⟨_,hbo,World.ownsRow_nil _ _ _ _,⟨_,_,_,rfl⟩⟩,hb0⟩
  (fun x a' W=>∃Bx,w.heap.size<Bx∧LotBox W Bx x.1∧a'={tmps:=#[Value.slice none 0 0,Value.func (Fn.func 141) #[] #[Value.pointer (some {block:=bl,off:=0}),Value.pointer (some {block:=bi,off:=0})],Value.pointer (some {block:=w.heap.size,off:=0}),undef,Value.slice none 0 0,Value.pointer (some {block:=Bx,off:=0}),Value.func (Fn.func 141) #[] #[Value.pointer (some {block:=bl,off:=0}),Value.pointer (some {block:=bi,off:=0})],x.1.enc,undef,undef,undef,undef,undef],defers:=[]})
  (fun x a'=>?hAx) ?assign ?body ?done ?stop
 case hAx =>
  rintro _ X Y row ⟨Bx,hB,hx,rfl⟩ hg hr
  refine⟨Bx,hB,(hg.block Bx hx.lt (fun e=>?_)).trans hx,rfl⟩
  obtain⟨_,o,ho,hc⟩:=hr Bx e.symm
  rw[show X.heap[Bx]?=_ from hx] at ho;cases ho;cases hc
 case assign =>
  rintro l pre x W K ⟨⟨v,hv,hrow,hvs⟩,hB⟩ hK
  have hlt:=hv.lt
  obtain⟨W5,hW5⟩:∃W5,W.alloc (.cells x.1.cells 63)=W5:=⟨_,rfl⟩
  have b5:Below W.heap.size W W5:=by rw[←hW5];exact (Below.refl _ W).alloc (Aad _) _
  have HF:Hid (LotBox W5 W.heap.size x.1∧KeepsFrom W0.heap.size W W5∧KpB n₀ bi W W5∧Boxed W5 w.heap.size 45 v∧W5.ownsRow w.heap.size 63 7 v pre.length (flatL pre)∧Below w.heap.size w W5):=by
   refine⟨by rw[←hW5];exact Aax W _,by rw[←hW5];exact (KeepsOthers.alloc _ _).from _,KpB.below b5 (by have:=hB.size;omega),(b5.block _ hlt).trans hv,by rw[←hW5];exact hrow.alloc _,hB.trans (b5.mono hB.size)⟩
  clear b5
  dsimp only[encL,Lot.enc,Lot.cells] at hW5 ⊢
  gi_wp2
  obtain⟨f1,f2,f3,f4,f5,f6⟩:=HF.out
  exact hK _ _ f2 f3 ⟨⟨v,f4,f5,hvs⟩,f6⟩ ⟨W.heap.size,hlt,f1,rfl⟩
 case body =>
  rintro l pre x a' W hl ⟨r,hr⟩ ⟨⟨v,hv,hrow,⟨A',k',c',rfl⟩⟩,hB⟩ ⟨Bx,hBx,bX,rfl⟩ hlt
  have hc:=hv.cell
  obtain⟨m0,m1,m2,m3,m4,m5,m6⟩:=Acp bX
  dsimp only[Lot.enc,Lot.cells]
  gi_wp2_with (gi_at_builtin;refine wpListIn_append_own _ rfl _ _ 45 rfl w.heap.size 63 i0 (.agg #[.string ⟨#[]⟩,.string ⟨#[]⟩,.int .i64 0,.int .i64 0,.string ⟨#[]⟩,.string ⟨#[]⟩,.string ⟨#[]⟩]) 7 96 Tryz.underlying45 hi hz0 hz1 hz2 rfl (by decide) _ _ _ rfl (hrow.alloc _) ⟨W.heap.size,0,none⟩ 1 1 x.1.cells.toList rfl rfl (An1 _ _ _) (by simp[Value.oneCell']) (by unfold maxLen;omega) (by omega) (by have:=hB.size;simp;omega) ?_;intro v' w1 hown' hgrow _;obtain⟨g',cap',rfl⟩:=ownsRow_succ hown';obtain⟨hv1,hv2,hr2,hk2,hb2⟩:=hv.appended (by decide) hrow hB.size (Aad _) hown' hgrow;have hc1:=hv1.cell;have hf1:=hv1.frozen)
  exact⟨hk2.from _,⟨hb2.mono hnw,fun _=>hb2.block bi hlbi⟩,⟨_,hv2,by rw[An0,Aan];exact hr2,⟨_,_,_,rfl⟩⟩,hB.trans hb2⟩
 case done =>
  rintro D xs W hD rfl ⟨⟨v,hv,hrow,hvs⟩,hB⟩ hK
  have hc:=hv.cell
  obtain⟨A',k',c',rfl⟩:=hvs
  gi_wp2
  refine⟨by simp,.inl ⟨_,_,rfl,run_takeDeferred hK,?_⟩⟩
  exact⟨_,results_tmp rfl _ _ _,_,rfl,ownsRow_putObj hrow _ hK rfl,hB.trans (belowK_b (w:=w) (Aad _) W D _ _ (by omega) hK rfl rfl)⟩
 case stop =>
  rintro D c pre W _ _ h _
  exact h.elim
end Go.Proofs.YtcnmoobojdopgaaGreatDoor
namespace Go.Proofs.YtcnmoobojdopgaaGreatDoor
open Go.RowKit Tr Go.Shelf
attribute [local go_sem] Oper.semAt_some
theorem flatL_get:∀(ls:List SLot) (j:Nat) (l:SLot),ls[j]?=some l→∀f,f<7→(flatL ls)[j*7+f]?=l.1.cells[f]?
 | [],j,l,h,f,hf=>by simp at h
 | x::r,0,l,h,f,hf=>by
   simp at h
   subst h
   simp only[flatL,List.flatMap_cons]
   rw[List.getElem?_append_left (by simp;omega)]
   simp
 | x::r,j+1,l,h,f,hf=>by
   simp at h
   have:=flatL_get r j l h f hf
   simp only[flatL,List.flatMap_cons] at this ⊢
   rw[List.getElem?_append_right (by simp;omega)]
   rw[←this]
   congr 1
   simp;omega
theorem An3(g m:Nat):(⟨g,0,none⟩:Addr).add m=⟨g,m,none⟩:=by unfold Addr.add;split<;>simp_all
theorem RdB.of_own{w:World}{base:Nat}{v:Value}{ls:List SLot}(h:w.ownsRow base 63 7 v ls.length (flatL ls)):
 ∃A c,v=.slice A ls.length c∧ls.length≤c∧(∀ad,A=some ad→base≤ad.block)∧RdB w.heap.size w A ls:=by
 rcases h.2 with⟨rfl,h0⟩|⟨g,cap,cur,rfl,hb,hg,hnc,hcm,_⟩
 ·have:ls=[]:=Aag h0
  subst this
  exact⟨none,0,rfl,Aad _,(fun _ e=>by cases e),fun e=>absurd rfl e⟩
 ·refine⟨_,_,rfl,hnc,fun ad e=>by cases e;exact hb,fun _=>⟨_,rfl,(Aab.1 hg).1,fun j l hj=>?_⟩⟩
  have hc:=h.cells (g:=g) rfl
  have q:∀f,f<7→∀u,l.1.cells[f]?=some u→w.cell? ⟨g,j*7+f,none⟩=some u:=by
   intro f hf u hu
   have:=hc (j*7+f) u (by rw[flatL_get ls j l hj f hf];exact hu)
   rwa [An3] at this
  rw[An3]
  exact⟨q 0 (by omega) _ rfl,q 1 (by omega) _ rfl,q 2 (by omega) _ rfl,q 3 (by omega) _ rfl,q 4 (by omega) _ rfl,q 5 (by omega) _ rfl,q 6 (by omega) _ rfl⟩
def An4(w:World)(ls:List SLot)(e:Ending)(w':World):Prop:=∃A c,e=.returned (.slice A ls.length c)∧ls.length≤c∧(∀ad,A=some ad→w.heap.size≤ad.block)∧RdB w'.heap.size w' A ls∧Below w.heap.size w w'
theorem lOf_any(n₀:Nat)(A:Option Addr)(ls:List SLot)(c:Nat)(s:ByteArray)(w:World)(hlen:ls.length≤1000000)(hR:RdB n₀ w A ls)(hnw:n₀≤w.heap.size):
 Calls Tryz.prog 126 #[.slice A ls.length c,.string s] w (An4 w (ownL ls s)):=by
 have hC:∀(W:World) (bl bi:Nat),Boxed W bl 45 (.slice A ls.length c)→Boxed W bi 9 (.string s)→RdB n₀ W A ls→n₀≤W.heap.size →
  Calls Tryz.prog 181 #[.func (.func 141) #[] #[.pointer (some ⟨bl,0,none⟩),.pointer (some ⟨bi,0,none⟩)]] W (An4 W (ownL ls s)):=by
  intro W bl bi k0 k1 k2 k3
  have HA:=Aac ((callsIn_wide (n:=6)).1 (An2 6 bl bi n₀ A ls c s W (by omega) hlen k0 k1 k2 k3))
  clear k0 k1 k2 k3 hR hnw
  go_enter Tryz.func181,Tryz.ntmps181
  go_wp2_with fail
  refine HA.out.mono ?_
  rintro e w1 ⟨v,rfl,hrow,hb⟩
  obtain⟨A',c',rfl,h1,h2,h3⟩:=RdB.of_own hrow
  have HF:Hid (An4 W (ownL ls s) (.returned (.slice A' (ownL ls s).length c')) w1):=⟨A',c',rfl,h1,h2,h3,hb⟩
  clear hrow h1 h2 h3 hb
  go_wp2_with fail
  go_ret
  exact HF.out
 have HC:=Aac hC
 have HR:=Aac hR
 clear hC hR
 go_enter Tryz.func126,Tryz.ntmps126
 go_wp2_with fail
 refine (Anz A ls.length c s w).mono ?_
 rintro e w1 ⟨rfl,hw1⟩
 have b1:Below w.heap.size w w1:=by rw[hw1];exact ((Below.refl _ w).alloc (Aad _) _).alloc (by simp) _
 have k0:Boxed w1 w.heap.size 45 (.slice A ls.length c):=by rw[hw1];exact (Boxed.new w _ _).alloc _
 have k1:Boxed w1 (w.heap.size+1) 9 (.string s):=by
  rw[hw1]
  have:=Boxed.new (w.alloc (.cells #[.slice A ls.length c] 45)) 9 (.string s)
  rwa [World.size_alloc] at this
 have HX:=Aac (HC.out w1 _ _ k0 k1 (HR.out.below (b1.mono hnw)) (Aap hnw b1.size))
 have HB1:=Aac b1
 clear hw1 k0 k1 b1
 go_wp2_with fail
 refine HX.out.mono ?_
 rintro e w2 ⟨A',c',rfl,h1,h2,h3,h4⟩
 have HF:Hid (An4 w (ownL ls s) (.returned (.slice A' (ownL ls s).length c')) w2):=⟨A',c',rfl,h1,fun ad e=>Aap HB1.out.size (h2 ad e),h3,HB1.out.trans (h4.mono HB1.out.size)⟩
 clear h1 h2 h3 h4
 go_wp2_with fail
 go_ret
 exact HF.out
end Go.Proofs.YtcnmoobojdopgaaGreatDoor
namespace Go.Proofs.YtcnmoobojdopgaaGreatDoor
open Go.RowKit Tr Go.Shelf
theorem BdQ.divInt{a b:Int}{k:Nat}(ha:a.natAbs<10^k)(hb:b.natAbs<10^k)(h0:b≠0):BdQ (Rat.divInt a b) k:=BdQ.div ha hb h0
theorem An5(q:Rat):q=Rat.divInt q.num q.den:=(Rat.num_divInt_den q).symm
theorem BdQ.mul{p q:Rat}{a b:Nat}(hp:BdQ p a)(hq:BdQ q b):BdQ (p*q) (a+b):=by
 rw[An5 p,An5 q,Rat.divInt_mul_divInt]
 refine BdQ.div (Ac6 hp.1 hq.1) (Ac6 (by simpa using hp.2) (by simpa using hq.2)) ?_
 have h1:=p.den_pos
 have h2:=q.den_pos
 exact Int.mul_ne_zero (by omega) (by omega)
theorem BdQ.add{p q:Rat}{a b:Nat}(hp:BdQ p a)(hq:BdQ q b):BdQ (p+q) (a+b+1):=by
 have h1:=p.den_pos
 have h2:=q.den_pos
 rw[An5 p,An5 q,Rat.divInt_add_divInt _ _ (by omega) (by omega)]
 refine BdQ.div ?_ ?_ (Int.mul_ne_zero (by omega) (by omega))
 ·have e1:=Ac6 (x:=p.num) (y:=(q.den:Int)) hp.1 (by simpa using hq.2)
  have e2:=Ac6 (x:=q.num) (y:=(p.den:Int)) hq.1 (by simpa using hp.2)
  rw[Nat.add_comm b a] at e2
  exact Ac5 e1 e2 (by omega) (by omega)
 ·exact Aah (Ac6 (x:=(p.den:Int)) (y:=(q.den:Int)) (by simpa using hp.2) (by simpa using hq.2)) (Ac4 (by omega))
theorem BdQ.neg{q:Rat}{a:Nat}(hq:BdQ q a):BdQ (-q) a:=⟨by rw[Rat.neg_num,Int.natAbs_neg];exact hq.1,by rw[Rat.neg_den];exact hq.2⟩
theorem BdQ.sub{p q:Rat}{a b:Nat}(hp:BdQ p a)(hq:BdQ q b):BdQ (p-q) (a+b+1):=by
 rw[Rat.sub_eq_add_neg];exact hp.add hq.neg
theorem BdQ.int{z:Int}{k:Nat}(h:z.natAbs<10^k)(hk:1≤k):BdQ (z:Rat) k:=⟨h,Aah (show 1<10^1 by omega) (Ac4 hk)⟩
theorem BdQ.zero{k:Nat}(hk:1≤k):BdQ 0 k:=BdQ.int (z:=0) (Nat.pow_pos (by omega)) hk
theorem BdQ.div'{p:Rat}{a b:Int}{k m:Nat}(ha:a.natAbs<10^m)(hb:b.natAbs<10^m)(h0:b≠0)(hp:BdQ p k):BdQ (p*((a:Rat) / (b:Rat))) (k+m):=by
 refine hp.mul ?_
 rw[←Rat.divInt_eq_div]
 exact BdQ.div ha hb h0
theorem fAddQ{p q:Rat}{a b:Nat}(hp:BdQ p a)(hq:BdQ q b)(ha:a≤800000)(hb:b≤800000)(w:World)(ht:Tabs w):
 Calls Tryz.prog 51 #[fenc p,fenc q] w fun e w'=>e=.returned (fenc (p+q))∧Below w.heap.size w w':=by
 have:=Ahq (I p.num) (dn p) (I q.num) (dn q) w (by have:=hp.num;omega) (by have:=hp.dn;omega) (by have:=hq.num;omega) (by have:=hq.dn;omega) ht
 rw[Agv,Agv] at this
 exact this
theorem fSubQ{p q:Rat}{a b:Nat}(hp:BdQ p a)(hq:BdQ q b)(ha:a≤800000)(hb:b≤800000)(w:World)(ht:Tabs w):
 Calls Tryz.prog 17 #[fenc p,fenc q] w fun e w'=>e=.returned (fenc (p-q))∧Below w.heap.size w w':=by
 have:=Ahr (I p.num) (dn p) (I q.num) (dn q) w (by have:=hp.num;omega) (by have:=hp.dn;omega) (by have:=hq.num;omega) (by have:=hq.dn;omega) ht
 rw[Agv,Agv] at this
 exact this
theorem fMulQ{p q:Rat}{a b:Nat}(hp:BdQ p a)(hq:BdQ q b)(ha:a≤800000)(hb:b≤800000)(w:World)(ht:Tabs w):
 Calls Tryz.prog 12 #[fenc p,fenc q] w fun e w'=>e=.returned (fenc (p*q))∧Below w.heap.size w w':=by
 have:=Ahs (I p.num) (dn p) (I q.num) (dn q) w (by have:=hp.num;omega) (by have:=hp.dn;omega) (by have:=hq.num;omega) (by have:=hq.dn;omega) ht
 rw[Agv,Agv] at this
 exact this
theorem An6{p:Rat}{a:Nat}(hp:BdQ p a)(ha:a≤800000)(w:World)(ht:Tabs w):
 Calls Tryz.prog 63 #[fenc p] w fun e w'=>e=.returned (.string (I (rnd p)))∧Below w.heap.size w w':=by
 have hR:=fun W hW=>Aia (I p.num) (dn p) W (by have:=hp.num;omega) (by have:=hp.dn;omega) hW
 rw[Agv] at hR
 have HR:=Aac hR
 have HT:=Aac ht
 have HB:=Aac ((Below.refl _ w).alloc (Aad _) (Obj.cells #[.string (I p.num),.string (dn p)] 25))
 generalize rnd p=z at HR ⊢
 clear hR ht
 unfold fenc
 go_enter Tryz.func63,Tryz.ntmps63
 go_wp2_with fail
 refine (HR.out _ (HT.out.below HB.out)).mono ?_
 rintro e w1 ⟨rfl,b1⟩
 have B1:=HB.out.trans (b1.mono HB.out.size)
 clear b1 HB
 go_wp2_with fail
 go_ret
 exact⟨rfl,B1⟩
theorem An7(d:Int)(w:World):
 Calls Tryz.prog 118 #[.int .i64 d] w fun e w'=>e=.returned (.bool (decide (okDay d)))∧w'=w:=by
 go_enter Tryz.func118,Tryz.ntmps118
 go_wp2_with fail
 all_goals (go_ret;refine⟨?_,rfl⟩;first|(rw[Aav (p:=okDay d) (by unfold okDay;omega)];rfl)|(rw[Aaw (p:=okDay d) (by unfold okDay;omega)];rfl)|(simp[okDay, *];done))
theorem An8(n:Int)(h0:-9000000000000000000≤n)(h1:n≤9000000000000000000)(w:World)(ht:Tabs w):
 Calls Tryz.prog 171 #[.int .i64 n] w fun e w'=>e=.returned (fenc (n:Rat))∧Below w.heap.size w w':=by
 have HT:=Aac ht
 clear ht
 obtain⟨W0,hW0⟩:∃W0,w.alloc (.cells #[.string ⟨#[]⟩,.string ⟨#[]⟩] 25)=W0:=⟨_,rfl⟩
 have HB:Hid (Below w.heap.size w W0):=by rw[←hW0];exact (Below.refl _ w).alloc (Aad _) _
 have HK:Hid (W0.heap[w.heap.size]?=some (.cells #[.string ⟨#[]⟩,.string ⟨#[]⟩] 25 (0,0))):=by rw[Hid,←hW0];exact Aax w _
 have HO:=Aac (fun W hW=>Of_any n (by omega) (by omega) W hW)
 have hz:(I n).size≤100:=Aap (Ac3 (z:=n) (k:=20) (by omega)) (by omega)
 have HF:=Aac (fun W hW=>Ahv (I n) W (by omega) hW)
 rw[vl_I] at HF
 generalize (n:Rat)=q at HF ⊢
 go_enter Tryz.func171,Tryz.ntmps171
 go_wp2_with fail
 refine (HO.out _ (HT.out.below HB.out)).mono ?_
 rintro e w1 ⟨rfl,b1⟩
 have HB1:=Aac (HB.out.trans (b1.mono HB.out.size))
 have HK1:=Aac ((b1.block w.heap.size (Aab.1 HK.out).1).trans HK.out)
 clear b1 HB HK
 go_wp2_with fail
 refine (HF.out _ (HT.out.below HB1.out)).mono ?_
 rintro e w2 ⟨rfl,b2⟩
 have hk2:=(b2.block w.heap.size (Aab.1 HK1.out).1).trans HK1.out
 have HB2:=Aac (HB1.out.trans (b2.mono HB1.out.size))
 have g0:=Aaa hk2 0
 have g1:=Aaa hk2 1
 have f0:=Aaf hk2 0
 have f1:=Aaf hk2 1
 simp at g0 g1 f0 f1
 have HK2:=Aac hk2
 clear b2 HB1 HK1 hk2
 unfold fenc
 go_wp2_with fail
 have k6:=set2 HK2.out (.string (I q.num)) (.string (dn q))
 have m0:=Aaa k6 0
 have m1:=Aaa k6 1
 simp at m0 m1
 refine bodyPost_ret (v:=.agg #[.string (I q.num),.string (dn q)]) (by simp[results,Tryz.results171,go_sem,m0,m1]) rfl ?_
 exact⟨rfl,(HB2.out.setCell (p:=⟨w.heap.size,0,none⟩) (by simp) _).setCell (p:=⟨w.heap.size,1,none⟩) (by simp) _⟩
def allQ(i:Inst)(l:Lot):Rat:=fv i.fn i.fd*(vl l.qty:Rat)-(vl l.cost:Rat)
def An9(i:Inst)(l:Lot)(d:Int):Rat :=
 if i.kind≠2∨d<l.opn then 0 else if i.matures≤d then allQ i l else allQ i l*(((d-l.opn:Int):Rat) / ((i.matures-l.opn:Int):Rat))
structure EG(w:World)(i:Inst)(l:Lot)(W:World):Prop where
 ib:InstBox W w.heap.size i
 lb:LotBox W (w.heap.size+1) l
 rb:W.heap[w.heap.size+1+1]?=some (.cells #[.string ⟨#[]⟩,.string ⟨#[]⟩] 25 (0,0))
 be:Below w.heap.size w W
theorem EG.below{w:World}{i:Inst}{l:Lot}{W W':World}(h:EG w i l W)(hb:Below W.heap.size W W'):EG w i l W' :=
 ⟨h.ib.below hb,h.lb.below hb,(hb.block _ (Aab.1 h.rb).1).trans h.rb,h.be.trans (hb.mono h.be.size)⟩
theorem EG.start(w:World)(i:Inst)(l:Lot):EG w i l (((w.alloc (.cells i.cells 27)).alloc (.cells l.cells 63)).alloc (.cells #[.string ⟨#[]⟩,.string ⟨#[]⟩] 25)):=by
 obtain⟨W0,hW0,hB,hz,k0,k1,k2⟩:=box3 w (.cells i.cells 27) (.cells l.cells 63) (.cells #[.string ⟨#[]⟩,.string ⟨#[]⟩] 25)
 rw[←hW0]
 exact⟨k0,k1,k2,hB⟩
theorem EG.done{w:World}{i:Inst}{l:Lot}{W:World}(h:EG w i l W)(q:Rat):
 ((W.setCell ⟨w.heap.size+1+1,0,none⟩ (.string (I q.num))).setCell ⟨w.heap.size+1+1,1,none⟩ (.string (dn q))).heap[w.heap.size+1+1]?=some (.cells #[.string (I q.num),.string (dn q)] 25 (0,0)) ∧
   Below w.heap.size w ((W.setCell ⟨w.heap.size+1+1,0,none⟩ (.string (I q.num))).setCell ⟨w.heap.size+1+1,1,none⟩ (.string (dn q))) :=
 ⟨set2 h.rb _ _,(h.be.setCell (p:=⟨w.heap.size+1+1,0,none⟩) (by simp;omega) _).setCell (p:=⟨w.heap.size+1+1,1,none⟩) (by simp;omega) _⟩
theorem Apa(i:Inst)(l:Lot)(d:Int)(h:i.kind≠2∨d<l.opn)(w:World):
 Calls Tryz.prog 115 #[i.enc,l.enc,.int .i64 d] w fun e w'=>e=.returned (fenc (An9 i l d))∧Below w.heap.size w w':=by
 have HQ:Hid (An9 i l d=0):=by unfold An9;rw[Hid,if_pos h]
 rw[HQ.out]
 have hG:=EG.start w i l
 obtain⟨W0,hW0⟩:∃W0,((w.alloc (.cells i.cells 27)).alloc (.cells l.cells 63)).alloc (.cells #[.string ⟨#[]⟩,.string ⟨#[]⟩] 25)=W0:=⟨_,rfl⟩
 rw[hW0] at hG
 have c1:=Aaa hG.ib 1
 have o3:=Aaa hG.lb 3
 have r0:=Aaa hG.rb 0
 have r1:=Aaa hG.rb 1
 have f0:=Aaf hG.rb 0
 have f1:=Aaf hG.rb 1
 simp at c1 o3 r0 r1 f0 f1
 have HG:=Aac hG
 clear hG
 unfold Inst.enc Inst.cells Lot.enc Lot.cells at *
 by_cases hk:i.kind=2
 ·have t1:(i.kind != 2)=false:=by simp[hk]
  have t2:decide (d<l.opn)=true:=Aav (h.resolve_left (fun x=>x hk))
  clear h hk
  go_enter Tryz.func115,Tryz.ntmps115
  go_wp2_with fail
  have hd:=HG.out.done 0
  rw[show I (0:Rat).num=⟨#[]⟩ from rfl,show dn 0=⟨#[]⟩ from rfl] at hd
  generalize (W0.setCell ⟨w.heap.size+1+1,0,none⟩ (.string ⟨#[]⟩)).setCell ⟨w.heap.size+1+1,1,none⟩ (.string ⟨#[]⟩)=W9 at hd ⊢
  have m0:=Aaa hd.1 0
  have m1:=Aaa hd.1 1
  simp at m0 m1
  exact bodyPost_ret (v:=.agg #[.string ⟨#[]⟩,.string ⟨#[]⟩]) (by simp[results,Tryz.results115,go_sem,m0,m1]) rfl ⟨rfl,hd.2⟩
 ·have t1:(i.kind != 2)=true:=by simp[hk]
  clear h hk
  go_enter Tryz.func115,Tryz.ntmps115
  go_wp2_with fail
  have hd:=HG.out.done 0
  rw[show I (0:Rat).num=⟨#[]⟩ from rfl,show dn 0=⟨#[]⟩ from rfl] at hd
  generalize (W0.setCell ⟨w.heap.size+1+1,0,none⟩ (.string ⟨#[]⟩)).setCell ⟨w.heap.size+1+1,1,none⟩ (.string ⟨#[]⟩)=W9 at hd ⊢
  have m0:=Aaa hd.1 0
  have m1:=Aaa hd.1 1
  simp at m0 m1
  exact bodyPost_ret (v:=.agg #[.string ⟨#[]⟩,.string ⟨#[]⟩]) (by simp[results,Tryz.results115,go_sem,m0,m1]) rfl ⟨rfl,hd.2⟩
def FBox(W:World)(B:Nat)(q:Rat):Prop:=W.heap[B]?=some (.cells #[.string (I q.num),.string (dn q)] 25 (0,0))
theorem FBox.below{W W':World}{B:Nat}{q:Rat}(h:FBox W B q)(hb:Below W.heap.size W W'):FBox W' B q:=(hb.block B (Aab.1 h).1).trans h
theorem FBox.lt{W:World}{B:Nat}{q:Rat}(h:FBox W B q):B<W.heap.size:=(Aab.1 h).1
def E4(w:World)(i:Inst)(l:Lot)(wn:World):Prop:=wn.cell? ⟨w.heap.size,6,none⟩=some (.string i.fn)∧wn.cell? ⟨w.heap.size,7,none⟩=some (.string i.fd)∧wn.cell? ⟨w.heap.size+1,4,none⟩=some (.string l.qty)∧wn.cell? ⟨w.heap.size+1,5,none⟩=some (.string l.cost)
theorem EG.four{w:World}{i:Inst}{l:Lot}{W:World}(h:EG w i l W):E4 w i l W :=
 ⟨Aaa h.ib 6,Aaa h.ib 7,Aaa h.lb 4,Aaa h.lb 5⟩
theorem EG.lt{w:World}{i:Inst}{l:Lot}{W:World}(h:EG w i l W):w.heap.size+1+1<W.heap.size:=(Aab.1 h.rb).1
theorem EG.ne1{w:World}{i:Inst}{l:Lot}{W:World}(h:EG w i l W):W.heap.size≠w.heap.size:=by have:=h.lt;omega
theorem EG.ne2{w:World}{i:Inst}{l:Lot}{W:World}(h:EG w i l W):W.heap.size≠w.heap.size+1:=by have:=h.lt;omega
theorem EG.set2{w:World}{i:Inst}{l:Lot}{W:World}(h:EG w i l W){B:Nat}(hB:w.heap.size+1+1<B)(x y:Value):EG w i l ((W.setCell ⟨B,0,none⟩ x).setCell ⟨B,1,none⟩ y):=by
 have k:∀b,b≤w.heap.size+1+1→((W.setCell ⟨B,0,none⟩ x).setCell ⟨B,1,none⟩ y).heap[b]?=W.heap[b]?:=fun b hb =>
  (Below.heap_setCell _ _ _ _ (by simp;omega)).trans (Below.heap_setCell _ _ _ _ (by simp;omega))
 exact⟨(k _ (by omega)).trans h.ib,(k _ (by omega)).trans h.lb,(k _ (by omega)).trans h.rb,(h.be.setCell (p:=⟨B,0,none⟩) (by simp;omega) _).setCell (p:=⟨B,1,none⟩) (by simp;omega) _⟩
theorem EG.calls{w:World}{i:Inst}{l:Lot}{f:Nat}{args:Array Value}{v:Value}(ht:Tabs w)(h:∀W,Tabs W→Calls Tryz.prog f args W fun e w'=>e=.returned v∧Below W.heap.size W w'):
 ∀W,EG w i l W→Calls Tryz.prog f args W fun e wn=>e=.returned v∧EG w i l wn∧Below W.heap.size W wn∧wn.cell? ⟨w.heap.size,6,none⟩=some (.string i.fn)∧wn.cell? ⟨w.heap.size,7,none⟩=some (.string i.fd)∧wn.cell? ⟨w.heap.size+1,4,none⟩=some (.string l.qty)∧wn.cell? ⟨w.heap.size+1,5,none⟩=some (.string l.cost):=by
 intro W hG
 refine (h W (ht.below hG.be)).mono ?_
 rintro e wn ⟨rfl,bn⟩
 exact⟨rfl,hG.below bn,bn,(hG.below bn).four⟩
structure EF(w:World)(i:Inst)(l:Lot)(B:Nat)(q:Rat)(W:World):Prop where
 eg:EG w i l W
 fb:FBox W B q
 lt:w.heap.size+1+1<B
theorem EF.below{w:World}{i:Inst}{l:Lot}{B:Nat}{q:Rat}{W W':World}(h:EF w i l B q W)(hb:Below W.heap.size W W'):EF w i l B q W':=⟨h.eg.below hb,h.fb.below hb,h.lt⟩
theorem EF.ne1{w:World}{i:Inst}{l:Lot}{B:Nat}{q:Rat}{W:World}(h:EF w i l B q W):W.heap.size≠w.heap.size:=h.eg.ne1
theorem EF.ne2{w:World}{i:Inst}{l:Lot}{B:Nat}{q:Rat}{W:World}(h:EF w i l B q W):W.heap.size≠w.heap.size+1:=h.eg.ne2
theorem EF.blt{w:World}{i:Inst}{l:Lot}{B:Nat}{q:Rat}{W:World}(h:EF w i l B q W):B<W.heap.size:=h.fb.lt
theorem EF.set2{w:World}{i:Inst}{l:Lot}{B:Nat}{q:Rat}{W:World}(h:EF w i l B q W){B':Nat}(hB:B<B')(x y:Value):EF w i l B q ((W.setCell ⟨B',0,none⟩ x).setCell ⟨B',1,none⟩ y) :=
 ⟨h.eg.set2 (by have:=h.lt;omega) x y,((Below.heap_setCell _ _ _ _ (by simp;omega)).trans (Below.heap_setCell _ _ _ _ (by simp;omega))).trans h.fb,h.lt⟩
theorem EF.calls{w:World}{i:Inst}{l:Lot}{B:Nat}{q:Rat}{f:Nat}{args:Array Value}{v:Value}(ht:Tabs w)(h:∀W,Tabs W→Calls Tryz.prog f args W fun e w'=>e=.returned v∧Below W.heap.size W w'):
 ∀W,EF w i l B q W→Calls Tryz.prog f args W fun e wn=>e=.returned v∧EF w i l B q wn∧Below W.heap.size W wn∧wn.cell? ⟨w.heap.size,5,none⟩=some (.int .i64 i.matures)∧wn.cell? ⟨w.heap.size+1,3,none⟩=some (.int .i64 l.opn):=by
 intro W hG
 refine (h W (ht.below hG.eg.be)).mono ?_
 rintro e wn ⟨rfl,bn⟩
 exact⟨rfl,hG.below bn,bn,Aaa (hG.below bn).eg.ib 5,Aaa (hG.below bn).eg.lb 3⟩
theorem Apb(i:Inst)(l:Lot)(d:Int)(hk:i.kind=2)(ho:l.opn≤d)(s1:i.fn.size≤1000)(s2:i.fd.size≤1000)(s3:l.qty.size≤1000)(s4:l.cost.size≤1000)
 (e1:okDay d) (e2:okDay l.opn) (e3:okDay i.matures) (w:World) (ht:Tabs w) :
 Calls Tryz.prog 115 #[i.enc,l.enc,.int .i64 d] w fun e w'=>e=.returned (fenc (An9 i l d))∧Below w.heap.size w w':=by
 have HQ:Hid (An9 i l d=if i.matures≤d then allQ i l else allQ i l*(((d-l.opn:Int):Rat) / ((i.matures-l.opn:Int):Rat))):=by unfold An9;rw[Hid,if_neg (by omega)]
 have HT:=Aac ht
 obtain⟨K,hK⟩:∃K,K=1002:=⟨_,rfl⟩
 have bf:BdQ (fv i.fn i.fd) K:=fv_bd _ _ (by omega) (by omega)
 have bq:BdQ (vl l.qty:Rat) K:=BdQ.int (Aah (vl_lt _) (Ac4 (by omega))) (by omega)
 have bc:BdQ (vl l.cost:Rat) K:=BdQ.int (Aah (vl_lt _) (Ac4 (by omega))) (by omega)
 have bm:=bf.mul bq
 have ba:BdQ (allQ i l) (K+K+K+1):=bm.sub bc
 have HA:Hid (allQ i l=fv i.fn i.fd*(vl l.qty:Rat)-(vl l.cost:Rat)):=rfl
 have C1:=fun W hW=>Ahv l.qty W (by omega) hW
 have C2:=fun W hW=>Ahs i.fn i.fd (I (vl l.qty:Rat).num) (dn (vl l.qty:Rat)) W (by omega) (by omega) (by have:=bq.num;omega) (by have:=bq.dn;omega) hW
 have C3:=fun W hW=>Ahv l.cost W (by omega) hW
 have C4:=fun W hW=>fSubQ bm bc (by omega) (by omega) W hW
 rw[Agv] at C2
 rw[←HA.out] at C4
 generalize (vl l.qty:Rat)=rq at C1 C2 C4 bm bq
 generalize (vl l.cost:Rat)=rc at C3 C4 bc
 generalize fv i.fn i.fd*rq=rm at C2 C4 bm
 generalize allQ i l=ra at C4 ba HQ
 have hG:=EG.start w i l
 obtain⟨W0,hW0⟩:∃W0,((w.alloc (.cells i.cells 27)).alloc (.cells l.cells 63)).alloc (.cells #[.string ⟨#[]⟩,.string ⟨#[]⟩] 25)=W0:=⟨_,rfl⟩
 rw[hW0] at hG
 have HC1:=Aac (EG.calls (i:=i) (l:=l) ht C1)
 have HC2:=Aac (EG.calls (i:=i) (l:=l) ht C2)
 have HC3:=Aac (EG.calls (i:=i) (l:=l) ht C3)
 have HC4:=Aac (EG.calls (i:=i) (l:=l) ht C4)
 have HG:=Aac hG
 have c1:=Aaa hG.ib 1
 have c5:=Aaa hG.ib 5
 have c6:=Aaa hG.ib 6
 have c7:=Aaa hG.ib 7
 have o3:=Aaa hG.lb 3
 have o4:=Aaa hG.lb 4
 have o5:=Aaa hG.lb 5
 simp at c1 c5 c6 c7 o3 o4 o5
 have t1:(i.kind != 2)=false:=by simp[hk]
 have t2:decide (d<l.opn)=false:=Aaw (by omega)
 have HKK:=Aac hK
 have HBM:=Aac (And.intro bm ba)
 clear hG C1 C2 C3 C4 hk ht bf bq bc bm ba HA hK
 unfold Inst.enc Inst.cells Lot.enc Lot.cells at *
 unfold fenc at HC1 HC2 HC3 HC4
 go_enter Tryz.func115,Tryz.ntmps115
 go_wp2_with fail
 go_cut [7] (fun v7 wx=>∃(B:Nat) (wr:World),v7=.pointer (some ⟨B,0,none⟩)∧w.heap.size+1+1<B∧FBox wr B ra∧EG w i l wr∧wr=wx)
 case first =>
  have hg:EG w i l W0.drew:=HG.out.below (Below.refl _ _).drew
  have ne1:=HG.out.ne1
  have ne2:=HG.out.ne2
  have lt1:=HG.out.lt
  clear c1 c5 o3 HG
  go_region_held3 (fun W=>W.cell? ⟨w.heap.size,6,none⟩=some (.string i.fn)∧W.cell? ⟨w.heap.size,7,none⟩=some (.string i.fd)∧W.cell? ⟨w.heap.size+1,4,none⟩=some (.string l.qty)∧W.cell? ⟨w.heap.size+1,5,none⟩=some (.string l.cost))
   (((try dsimp only);refine⟨?_,?_,?_,?_⟩<;>first|assumption|(simp[*,World.cell?_alloc_some,World.cell?_setCell_far];done)|(go_simp;done)))
   (first
     | (go_at_call_of 29 [Value.string l.qty];refine (HC1.out _ ?_).mono ?_;(first|exact hg|exact hg.below ((Below.refl _ _).alloc (Aad _) _));clear hg c6 c7 o4 o5;rintro e wn ⟨rfl,hg,bn,c6,c7,o4,o5⟩;have ne1:=hg.ne1;have ne2:=hg.ne2;have lt1:=hg.lt;(first|(have nb:=(bn.block _ (Aab.1 nb).1).trans nb;have n0:=Aaa nb 0;have n1:=Aaa nb 1;have n2:=Aaf nb 0;have n3:=Aaf nb 1;simp at n0 n1 n2 n3)|(have nb:=(bn.block _ (by simp)).trans (Aax _ _);have n0:=Aaa nb 0;have n1:=Aaa nb 1;have n2:=Aaf nb 0;have n3:=Aaf nb 1;simp at n0 n1 n2 n3)|skip);clear bn)
     | (go_at_call_of 29 [Value.string l.cost];refine (HC3.out _ ?_).mono ?_;(first|exact hg|exact hg.below ((Below.refl _ _).alloc (Aad _) _));clear hg c6 c7 o4 o5;rintro e wn ⟨rfl,hg,bn,c6,c7,o4,o5⟩;have ne1:=hg.ne1;have ne2:=hg.ne2;have lt1:=hg.lt;(first|(have nb:=(bn.block _ (Aab.1 nb).1).trans nb;have n0:=Aaa nb 0;have n1:=Aaa nb 1;have n2:=Aaf nb 0;have n3:=Aaf nb 1;simp at n0 n1 n2 n3)|(have nb:=(bn.block _ (by simp)).trans (Aax _ _);have n0:=Aaa nb 0;have n1:=Aaa nb 1;have n2:=Aaf nb 0;have n3:=Aaf nb 1;simp at n0 n1 n2 n3)|skip);clear bn)
     | (go_at_call_of 12 [Value.agg #[Value.string i.fn,Value.string i.fd],Value.agg #[Value.string (I rq.num),Value.string (dn rq)]];refine (HC2.out _ ?_).mono ?_;(first|exact hg|exact hg.below ((Below.refl _ _).alloc (Aad _) _));clear hg c6 c7 o4 o5;rintro e wn ⟨rfl,hg,bn,c6,c7,o4,o5⟩;have ne1:=hg.ne1;have ne2:=hg.ne2;have lt1:=hg.lt;(first|(have nb:=(bn.block _ (Aab.1 nb).1).trans nb;have n0:=Aaa nb 0;have n1:=Aaa nb 1;have n2:=Aaf nb 0;have n3:=Aaf nb 1;simp at n0 n1 n2 n3)|(have nb:=(bn.block _ (by simp)).trans (Aax _ _);have n0:=Aaa nb 0;have n1:=Aaa nb 1;have n2:=Aaf nb 0;have n3:=Aaf nb 1;simp at n0 n1 n2 n3)|skip);clear bn)
     | (go_at_call_of 17 [Value.agg #[Value.string (I rm.num),Value.string (dn rm)],Value.agg #[Value.string (I rc.num),Value.string (dn rc)]];refine (HC4.out _ ?_).mono ?_;(first|exact hg|exact hg.below ((Below.refl _ _).alloc (Aad _) _));clear hg c6 c7 o4 o5;rintro e wn ⟨rfl,hg,bn,c6,c7,o4,o5⟩;have ne1:=hg.ne1;have ne2:=hg.ne2;have lt1:=hg.lt;(first|(have nb:=(bn.block _ (Aab.1 nb).1).trans nb;have n0:=Aaa nb 0;have n1:=Aaa nb 1;have n2:=Aaf nb 0;have n3:=Aaf nb 1;simp at n0 n1 n2 n3)|(have nb:=(bn.block _ (by simp)).trans (Aax _ _);have n0:=Aaa nb 0;have n1:=Aaa nb 1;have n2:=Aaf nb 0;have n3:=Aaf nb 1;simp at n0 n1 n2 n3)|skip);clear bn))
  all_goals (first|go_wp2_with fail|skip)
  all_goals go_meet
  all_goals first
   | exact⟨_,_,rfl,lt1,Aax _ _,hg.below ((Below.refl _ _).alloc (Aad _) _),rfl⟩
   | (refine⟨_,_,rfl,?_,set2 nb _ _,hg.set2 ?_ _ _,rfl⟩<;>assumption)
 case rest =>
  obtain⟨B,wr,rfl,hBB,hF,hG,rfl⟩:=hcut
  clear c1 c5 c6 c7 o3 o4 o5 HG hW0 HC1 HC2 HC3 HC4
  have c5:wr.cell? ⟨w.heap.size,5,none⟩=some (.int .i64 i.matures):=Aaa hG.ib 5
  have o3:wr.cell? ⟨w.heap.size+1,3,none⟩=some (.int .i64 l.opn):=Aaa hG.lb 3
  have b0:=Aaa hF 0
  have b1:=Aaa hF 1
  have r0:=Aaa hG.rb 0
  have r1:=Aaa hG.rb 1
  have f0:=Aaf hG.rb 0
  have f1:=Aaf hG.rb 1
  simp at b0 b1 r0 r1 f0 f1
  have hg:EF w i l B ra wr:=⟨hG,hF,hBB⟩
  clear hG hF
  by_cases hm:i.matures≤d
  ·have t3:decide (i.matures≤d)=true:=Aav hm
   have HQ2:Hid (An9 i l d=ra):=by rw[Hid,HQ.out,if_pos hm]
   clear hm HQ
   go_wp2_with fail
   have hd:=hg.eg.done ra
   generalize (wr.setCell ⟨w.heap.size+1+1,0,none⟩ (.string (I ra.num))).setCell ⟨w.heap.size+1+1,1,none⟩ (.string (dn ra))=W9 at hd ⊢
   have m0:=Aaa hd.1 0
   have m1:=Aaa hd.1 1
   simp at m0 m1
   refine bodyPost_ret (v:=.agg #[.string (I ra.num),.string (dn ra)]) (by simp[results,Tryz.results115,go_sem,m0,m1]) rfl ⟨?_,hd.2⟩
   rw[HQ2.out];rfl
  ·have t3:decide (i.matures≤d)=false:=Aaw hm
   unfold okDay at e1 e2 e3
   have HQ2:Hid (An9 i l d=ra*(((d-l.opn:Int):Rat) / ((i.matures-l.opn:Int):Rat))):=by rw[Hid,HQ.out,if_neg hm]
   obtain⟨x,hx⟩:∃x,x=d-l.opn:=⟨_,rfl⟩
   obtain⟨y,hy⟩:∃y,y=i.matures-l.opn:=⟨_,rfl⟩
   have wx:IntKind.i64.wrap (d-l.opn)=x:=by rw[hx];exact IntWalk.i64_in _ (by omega)
   have wy:IntKind.i64.wrap (i.matures-l.opn)=y:=by rw[hy];exact IntWalk.i64_in _ (by omega)
   have x0:0≤x∧x<1000000:=by omega
   have y0:0<y∧y<1000000:=by omega
   rw[←hx,←hy] at HQ2
   have D1:=fun W hW=>An8 x (by omega) (by omega) W hW
   have D2:=fun W hW=>An8 y (by omega) (by omega) W hW
   have by':BdQ (y:Rat) 7:=BdQ.int (by omega) (by omega)
   have bx':BdQ (x:Rat) 7:=BdQ.int (by omega) (by omega)
   have D3:=fun W hW=>Aht (I (x:Rat).num) (dn (x:Rat)) (I (y:Rat).num) (dn (y:Rat)) W (by have:=bx'.num;omega) (by have:=bx'.dn;omega) (by have:=by'.num;omega) (by have:=by'.dn;omega) (by rw[vl_I];show y≠0;omega) hW
   rw[Agv,Agv] at D3
   have bp:BdQ ((x:Rat) / (y:Rat)) 7:=by rw[←Rat.divInt_eq_div];exact BdQ.div (by omega) (by omega) (by omega)
   have D4:=fun W hW=>fMulQ HBM.out.2 bp (by have:=HKK.out;omega) (by omega) W hW
   generalize (x:Rat)=rx at *
   generalize (y:Rat)=ry at *
   generalize rx / ry=rp at *
   generalize ra*rp=rz at *
   unfold fenc at D1 D2 D3 D4
   have HD1:=Aac (EF.calls (i:=i) (l:=l) (B:=B) (q:=ra) HT.out D1)
   have HD2:=Aac (EF.calls (i:=i) (l:=l) (B:=B) (q:=ra) HT.out D2)
   have HD3:=Aac (EF.calls (i:=i) (l:=l) (B:=B) (q:=ra) HT.out D3)
   have HD4:=Aac (EF.calls (i:=i) (l:=l) (B:=B) (q:=ra) HT.out D4)
   clear hx hy D1 D2 D3 D4 bx' by' bp e1 e2 e3 hm HQ x0 y0 ho
   go_wp2_with fail
   go_cut [8] (fun v8 wx=>∃(B2:Nat) (wr:World),v8=.pointer (some ⟨B2,0,none⟩)∧FBox wr B2 rp∧EF w i l B ra wr∧wr=wx)
   case first =>
    have ne1:=hg.ne1
    have ne2:=hg.ne2
    have lt1:=hg.blt
    replace hg:EF w i l B ra wr.drew:=hg.below (Below.refl _ _).drew
    clear b0 b1 r0 r1 f0 f1
    go_region_held3 (fun W=>W.cell? ⟨w.heap.size,5,none⟩=some (.int .i64 i.matures)∧W.cell? ⟨w.heap.size+1,3,none⟩=some (.int .i64 l.opn))
     (((try dsimp only);refine⟨?_,?_⟩<;>first|assumption|(simp[*,World.cell?_alloc_some,World.cell?_setCell_far];done)|(go_simp;done)))
     (first
       | (go_at_call_of 171 [Value.int IntKind.i64 x];refine (HD1.out _ ?_).mono ?_;(first|exact hg|exact hg.below ((Below.refl _ _).alloc (Aad _) _));clear hg c5 o3;rintro e wn ⟨rfl,hg,bn,c5,o3⟩;have ne1:=hg.ne1;have ne2:=hg.ne2;have lt1:=hg.blt;(first|(have nb:=(bn.block _ (Aab.1 nb).1).trans nb;have n0:=Aaa nb 0;have n1:=Aaa nb 1;have n2:=Aaf nb 0;have n3:=Aaf nb 1;simp at n0 n1 n2 n3)|(have nb:=(bn.block _ (by simp)).trans (Aax _ _);have n0:=Aaa nb 0;have n1:=Aaa nb 1;have n2:=Aaf nb 0;have n3:=Aaf nb 1;simp at n0 n1 n2 n3)|skip);clear bn)
       | (go_at_call_of 171 [Value.int IntKind.i64 y];refine (HD2.out _ ?_).mono ?_;(first|exact hg|exact hg.below ((Below.refl _ _).alloc (Aad _) _));clear hg c5 o3;rintro e wn ⟨rfl,hg,bn,c5,o3⟩;have ne1:=hg.ne1;have ne2:=hg.ne2;have lt1:=hg.blt;(first|(have nb:=(bn.block _ (Aab.1 nb).1).trans nb;have n0:=Aaa nb 0;have n1:=Aaa nb 1;have n2:=Aaf nb 0;have n3:=Aaf nb 1;simp at n0 n1 n2 n3)|(have nb:=(bn.block _ (by simp)).trans (Aax _ _);have n0:=Aaa nb 0;have n1:=Aaa nb 1;have n2:=Aaf nb 0;have n3:=Aaf nb 1;simp at n0 n1 n2 n3)|skip);clear bn)
       | (go_at_call_of 111 [Value.agg #[Value.string (I rx.num),Value.string (dn rx)],Value.agg #[Value.string (I ry.num),Value.string (dn ry)]];refine (HD3.out _ ?_).mono ?_;(first|exact hg|exact hg.below ((Below.refl _ _).alloc (Aad _) _));clear hg c5 o3;rintro e wn ⟨rfl,hg,bn,c5,o3⟩;have ne1:=hg.ne1;have ne2:=hg.ne2;have lt1:=hg.blt;(first|(have nb:=(bn.block _ (Aab.1 nb).1).trans nb;have n0:=Aaa nb 0;have n1:=Aaa nb 1;have n2:=Aaf nb 0;have n3:=Aaf nb 1;simp at n0 n1 n2 n3)|(have nb:=(bn.block _ (by simp)).trans (Aax _ _);have n0:=Aaa nb 0;have n1:=Aaa nb 1;have n2:=Aaf nb 0;have n3:=Aaf nb 1;simp at n0 n1 n2 n3)|skip);clear bn))
    all_goals (first|go_wp2_with fail|skip)
    all_goals go_meet
    all_goals first
     | exact⟨_,_,rfl,Aax _ _,hg.below ((Below.refl _ _).alloc (Aad _) _),rfl⟩
     | (refine⟨_,_,rfl,set2 nb _ _,hg.set2 ?_ _ _,rfl⟩;assumption)
   case rest =>
    obtain⟨B2,wq,rfl,hF2,hG2,rfl⟩:=hcut
    clear b0 b1 r0 r1 f0 f1 c5 o3
    have b0:=Aaa hG2.fb 0
    have b1:=Aaa hG2.fb 1
    have p0:=Aaa hF2 0
    have p1:=Aaa hF2 1
    simp at b0 b1 p0 p1
    have HG2:=Aac hG2
    clear hG2 hF2 hg
    go_wp2_with fail
    refine (HD4.out _ HG2.out).mono ?_
    rintro e w7 ⟨rfl,hg,_,_⟩
    have r0:=Aaa hg.eg.rb 0
    have r1:=Aaa hg.eg.rb 1
    have f0:=Aaf hg.eg.rb 0
    have f1:=Aaf hg.eg.rb 1
    simp at r0 r1 f0 f1
    have HG:=Aac hg
    clear hg
    go_wp2_with fail
    have hd:=HG.out.eg.done rz
    generalize (w7.setCell ⟨w.heap.size+1+1,0,none⟩ (.string (I rz.num))).setCell ⟨w.heap.size+1+1,1,none⟩ (.string (dn rz))=W9 at hd ⊢
    have m0:=Aaa hd.1 0
    have m1:=Aaa hd.1 1
    simp at m0 m1
    refine bodyPost_ret (v:=.agg #[.string (I rz.num),.string (dn rz)]) (by simp[results,Tryz.results115,go_sem,m0,m1]) rfl ⟨?_,hd.2⟩
    rw[HQ2.out];rfl
def waits(L:List Bool):Nat:=(L.filter fun b=>!b).length
theorem waits_set:∀(L:List Bool) (i:Nat),L[i]?=some false→waits (L.set i true)<waits L
 | [],i,h=>by simp at h
 | b::r,0,h=>by simp at h;subst h;simp[waits]
 | b::r,i+1,h=>by
   simp at h
   have:=waits_set r i h
   unfold waits at *
   cases b<;>simp at*<;> omega
theorem waits_zero:∀(L:List Bool) (i:Nat),waits L=0→L[i]?≠some false
 | [],i,_=>by simp
 | b::r,0,h=>by cases b<;>simp[waits] at h ⊢
 | b::r,i+1,h=>by
   simp
   refine waits_zero r i ?_
   unfold waits at *
   cases b<;>simp at h ⊢<;>exact h
theorem Apc{L:Array Bool}{i:Nat}(h:L.getD i true=false):L.toList[i]?=some false:=by
 rw[Array.getD_eq_getD_getElem?] at h
 rw[Array.getElem?_toList]
 cases hh:L[i]? with
 | none=>rw[hh] at h;cases h
 | some b=>rw[hh] at h;simp at h;rw[h]
variable {F:Fence} {n:Nat} {P:Program} {md:Region.Mode} {ops:Array Oper} {Q:Exit→Act→World→Prop}
theorem Apd(J:Array Bool→Act→World→Prop)
 (hstep:∀L a w,J L a w→∀i∈Region.ready md ops L,wpOpIn F n P ops Q i (J (L.setIfInBounds i true)) a w)
 (hdone:∀L a w,J L a w→Region.ready md ops L=[]→Q .normal a w) :
 ∀(fuel:Nat) (L:Array Bool) (a:Act) (w:World),J L a w→waits L.toList≤fuel→wpAnyIn F n P md ops Q fuel L a w:=by
 intro fuel
 induction fuel with
 | zero =>
   intro L a w hj hw
   have hr:Region.ready md ops L=[]:=by
    refine List.eq_nil_iff_forall_not_mem.2 fun i hi=>?_
    exact waits_zero L.toList i (by omega) (Apc (mem_ready.1 hi).1)
   exact⟨hr,hdone L a w hj hr⟩
 | succ fuel ih =>
   intro L a w hj hw
   refine⟨fun hr=>hdone L a w hj hr,fun i hi=>wpOpIn_mono (fun a' w' h'=>ih _ a' w' h' ?_) (hstep L a w hj i hi)⟩
   have:=waits_set L.toList i (Apc (mem_ready.1 hi).1)
   rw[Array.toList_setIfInBounds]
   omega
theorem Ape{L:Array Bool}{i:Nat}(h:L.getD i true=false):(L.setIfInBounds i true).getD i false=true:=by
 have:=Apc h
 rw[Array.getElem?_toList] at this
 have hi:=(Aab.1 this).1
 simp[Array.getD_eq_getD_getElem?,hi]
theorem Apf{L:Array Bool}{i j:Nat}(h:i≠j):(L.setIfInBounds i true).getD j false=L.getD j false:=by
 simp[Array.getD_eq_getD_getElem?,Array.getElem?_setIfInBounds,h]
theorem Apg{L:Array Bool}{i:Nat}(h:L.getD i true=false):L.getD i false=false:=by
 have:=Apc h
 rw[Array.getElem?_toList] at this
 simp[Array.getD_eq_getD_getElem?,this]
theorem Aph{L:Array Bool}{i j:Nat}(hun:L.getD i true=false)(h:L.getD j false=true):(L.setIfInBounds i true).getD j false=true:=by
 by_cases e:i=j
 ·subst e;exact Ape hun
 ·rw[Apf e];exact h
theorem Api{L:Array Bool}{i j:Nat}(h:(L.setIfInBounds i true).getD j false=true)(e:i≠j:=by decide):L.getD j false=true:=by rwa [Apf e] at h
theorem Apj{L:Array Bool}{i j:Nat}(h:(L.setIfInBounds i true).getD j false=false)(e:i≠j:=by decide):L.getD j false=false:=by rwa [Apf e] at h
theorem Apk{L:Array Bool}{i:Nat}(h:L.getD i false=false)(k:L.getD i false=true):False:=by rw[h] at k;cases k
theorem Apm(L:Array Bool)(i:Nat):L.getD i false=false∨L.getD i false=true:=by cases L.getD i false<;>simp
theorem Apn{L:Array Bool}{i:Nat}{o:Oper}(hsz:i<L.size)(hoff:L.getD i false=false)(ho:ops[i]?=some o)(ha:∀e∈o.after,Region.binds md e=true→L.getD e.on false=true):i∈Region.ready md ops L :=
 mem_ready.2 ⟨by rw[Array.getD_eq_getD_getElem?] at *;rw[Array.getElem?_eq_getElem hsz] at *;simpa using hoff,o,ho,ha⟩
theorem Uz{L:Array Bool}{i j:Nat}(h:(L.setIfInBounds i true).getD j false=true)(e:i≠j:=by decide):L.getD j false=true:=Api h e
theorem Um{L:Array Bool}{i j:Nat}{X:Prop}(f:L.getD j false=true→X)(e:i≠j:=by decide):(L.setIfInBounds i true).getD j false=true→X:=fun h=>f (Api h e)
theorem Dz{L:Array Bool}{i j:Nat}(h:(L.setIfInBounds i true).getD j false=false)(e:i≠j:=by decide):L.getD j false=false:=Apj h e
theorem hI{p:Prop}(h:p):Hid p:=h
theorem Hq{m:Region.Mode}{o:Oper}{L:Array Bool}(hall:∀e∈o.after,Region.binds m e=true→L.getD e.on false=true)(j:Nat)(h:(o.after.toList.any fun e=>Nat.beq e.on j&&Region.binds m e)=true:=by decide):Hid (L.getD j false=true):=by
 rw[List.any_eq_true] at h
 obtain⟨e,he,h2⟩:=h
 rw[Bool.and_eq_true] at h2
 rw[←Nat.eq_of_beq_eq_true h2.1]
 exact hall e (Array.mem_toList_iff.1 he) h2.2
theorem App{P:Program}{ops:Array Oper}{Q:Exit→Act→World→Prop}{i:Nat}{o:Oper}{K:Act→World→Prop}{a:Act}{w:World}(ho:ops[i]?=some o)(h:∀K':Act→World→Prop,Hid (∀a w,K a w→K' a w)→if Region.wanted o (yielded ops a.tmps)=true then Oper.wp P o a w K' Q else K' (a.put o.dst undef) w):wpOp P ops Q i K a w:=wpOp_step ho fun K' hK=>h K' hK
theorem Un{L:Array Bool}{i j k:Nat}{X:Prop}(f:L.getD j false=true→L.getD k false=false→X)(e:i≠j:=by decide)(d:i≠k:=by decide):(L.setIfInBounds i true).getD j false=true→(L.setIfInBounds i true).getD k false=false→X:=fun h g=>f (Api h e) (Apj g d)
theorem Uf{L:Array Bool}{i k:Nat}{X:Prop}(f:L.getD k false=false→X)(d:i≠k:=by decide):(L.setIfInBounds i true).getD k false=false→X:=fun g=>f (Apj g d)
theorem Uq{L:Array Bool}{i j k:Nat}(hun:L.getD i true=false)(f:L.getD j false=true→L.getD k false=true)(e:i≠j:=by decide):(L.setIfInBounds i true).getD j false=true→(L.setIfInBounds i true).getD k false=true:=fun h=>Aph hun (f (Api h e))
theorem Uq2{L:Array Bool}{i j k m:Nat}(hun:L.getD i true=false)(f:L.getD j false=true→L.getD k false=true∧L.getD m false=true)(e:i≠j:=by decide):(L.setIfInBounds i true).getD j false=true→(L.setIfInBounds i true).getD k false=true∧(L.setIfInBounds i true).getD m false=true:=fun h=>⟨Aph hun (f (Api h e)).1,Aph hun (f (Api h e)).2⟩
theorem Uq3{L:Array Bool}{i j k m n:Nat}(hun:L.getD i true=false)(f:L.getD j false=true→L.getD k false=true∧L.getD m false=true∧L.getD n false=true)(e:i≠j:=by decide):(L.setIfInBounds i true).getD j false=true→(L.setIfInBounds i true).getD k false=true∧(L.setIfInBounds i true).getD m false=true∧(L.setIfInBounds i true).getD n false=true:=fun h=>⟨Aph hun (f (Api h e)).1,Aph hun (f (Api h e)).2.1,Aph hun (f (Api h e)).2.2⟩
def Apq(md:Region.Mode)(ops:Array Oper)(n:Nat):Bool :=
 (List.range n).all fun i=>match ops[i]? with
   | none=>false
   | some o=>o.after.all fun e=>!Region.binds md e||Nat.blt e.on i
theorem Apr{md:Region.Mode}{ops:Array Oper}{L:Array Bool}{n:Nat}(hr:Region.ready md ops L=[])(hsz:L.size=n)(hc:Apq md ops n=true):∀i,i<n→L.getD i false=true:=by
 intro i
 induction i using Nat.strongRecOn with
 | ind i ih =>
   intro hi
   have hh:=List.all_eq_true.1 hc i (List.mem_range.2 hi)
   cases ho:ops[i]? with
   | none=>rw[ho] at hh;cases hh
   | some o =>
     rw[ho] at hh
     simp only[Array.all_eq_true_iff_forall_mem,Bool.or_eq_true,Bool.not_eq_true'] at hh
     refine (Apm L i).resolve_left fun h=>?_
     refine List.eq_nil_iff_forall_not_mem.1 hr i (Apn (by rw[hsz];exact hi) h ho (fun e he hbd=>?_))
     rcases hh e he with hb|hb
     ·rw[hb] at hbd;cases hbd
     ·rw[Nat.blt_eq] at hb
      exact ih e.on hb (Nat.lt_trans hb hi)
end Go.Proofs.YtcnmoobojdopgaaGreatDoor
