/-
  The iterator of accrual.amounts: it gives the exact amortizations of the lots of an instrument.
-/
import Derived.Test.YtcmgmemffncbhabGreatDoorT21
import Derived.Deep.DeepCutAuto
import Derived.Deep.RegionHeld3
set_option linter.unusedVariables false
set_option linter.unusedSimpArgs false
set_option maxHeartbeats 16000000
set_option maxRecDepth 100000
namespace Go.Proofs.YtcmgmemffncbhabGreatDoor
open Go.RowKit Tr Go.Shelf
attribute [local go_sem] Oper.semAt_some
def KpZ(m b:Nat)(W W':World):Prop:=Below m W W'∧∀(k:Nat) (o:Obj),k≠b→W.heap[k]?=some o→o.isCells=true→W'.heap[k]?=some o
theorem KpZ.trans{m b:Nat}{A B C:World}(h:KpZ m b A B)(k:KpZ m b B C):KpZ m b A C:=⟨h.1.trans k.1,fun i o hi ho hc=>k.2 i o hi (h.2 i o hi ho hc) hc⟩
theorem KpZ.put{m b:Nat}(W:World)(l:Nat)(o o':Obj)(hm:m≤l)(hl:W.heap[l]?=some o)(ho:o.isCells=false):KpZ m b W (W.putObj l o'):=by
 refine⟨(Below.refl m W).grown (grownBy_putObj' W l o') (by have:=(Aab.1 hl).1;omega) (fun k e=>by cases e;omega),fun k o2 _ hk hc=>?_⟩
 rcases Nat.decEq k l with h|h
 ·exact (World.putObj_heap_other (by omega)).trans hk
 ·subst h;rw[hl] at hk;injection hk with hk;subst hk;rw[ho] at hc;cases hc
theorem KpZ.below{m b:Nat}{A B:World}(h:Below A.heap.size A B)(hm:m≤A.heap.size):KpZ m b A B:=⟨h.mono hm,fun k o _ hk _=>(h.block k (Aab.1 hk).1).trans hk⟩
theorem KpZ.cell{m b:Nat}{W W':World}(h:KpZ m b W W'){p:Addr}(hp:p.block≠b){v:Value}(hc:W.cell? p=some v):W'.cell? p=some v:=by
 obtain⟨o,ho,hoc⟩:=cells_of_cell hc
 have:=h.2 _ o hp ho hoc
 rw[←hc]
 unfold World.cell?
 rw[ho,this]
end Go.Proofs.YtcmgmemffncbhabGreatDoor
namespace Go.Proofs.YtcmgmemffncbhabGreatDoor
open Go.RowKit Tr Go.Shelf
attribute [local go_sem] Oper.semAt_some
end Go.Proofs.YtcmgmemffncbhabGreatDoor
namespace Go.Proofs.YtcmgmemffncbhabGreatDoor
open Go.RowKit Tr Go.Shelf
structure Inst.small(i:Inst):Prop where
 id:i.id.size≤1000
 cur:i.cur.size≤1000
 fn:i.fn.size≤1000
 fd:i.fd.size≤1000
 cn:i.cn.size≤1000
 cd:i.cd.size≤1000
 other:i.other.size≤1000
 sn:i.sn.size≤1000
 sd:i.sd.size≤1000
theorem Inst.small.sized{i:Inst}(h:i.small):i.sized:=by
 obtain⟨h1,h2,h3,h4,h5,h6,h7,h8,h9⟩:=h
 exact⟨by omega,by omega,by omega,by omega,by omega,by omega,by omega,by omega,by omega⟩
structure AOk(i:Inst)(ls:List SLot)(d:Int):Prop where
 small:i.small
 ok:i.ok
 lots:LotsOk (ls.map Subtype.val)
 len:ls.length≤99
 dy:okDay d
theorem Inst.tiny.small{i:Inst}(h:i.tiny):i.small:=by
 obtain⟨h1,h2,h3,h4,h5,h6,h7,h8,h9⟩:=h
 exact⟨by omega,by omega,by omega,by omega,by omega,by omega,by omega,by omega,by omega⟩
theorem RdL.drewN{w:World}{A:Option Addr}{ls:List Lot}(h:RdL w A ls)(n:Nat):RdL (w.drewN n) A ls:=h.below (Acz (Below.refl _ _) n)
theorem Amq{α:Type}{ls:List α}{k:Nat}{l:α}(h:ls[k]?=some l):ls.take (k+1)=ls.take k++[l]:=by
 obtain⟨hlt,he⟩:=Aak.1 h
 rw[List.take_succ_eq_append_getElem hlt,he]
theorem Amr(A:Option Addr)(ls:List Lot)(c:Nat)(hlm:ls.length≤9223372036854775807)(w:World)(hR:RdL w A ls):
 Calls Tryz.prog 15 #[.slice A ls.length c] w (Ajz w ((ls.length≤12∨999≤ls.length)∧∀l∈ls,l.tiny)):=by
 have HR:=hI hR
 clear hR
 by_cases h1:12<ls.length∧ls.length<999
 ·have t1:decide ((12:Int)<(ls.length:Int))=true:=Aa3 (by omega)
  have t2:decide ((ls.length:Int)<999)=true:=Aa3 (by omega)
  clear h1
  go_enter Tryz.func15,Tryz.ntmps15
  go_wp2_with fail
  go_ret
  exact⟨true,rfl,fun h=>(by cases h),Below.refl _ _⟩
 by_cases h2:1002<ls.length
 ·have t1:decide ((12:Int)<(ls.length:Int))=true:=Aa3 (by omega)
  have t2:decide ((ls.length:Int)<999)=false:=Aa4 (by omega)
  have t3:decide ((1002:Int)<(ls.length:Int))=true:=Aa3 (by omega)
  clear h1 h2
  go_enter Tryz.func15,Tryz.ntmps15
  go_wp2_with fail
  go_ret
  exact⟨true,rfl,fun h=>(by cases h),Below.refl _ _⟩
 have H1:=hI (show (ls.length≤12∨999≤ls.length) by omega)
 have t3:decide ((1002:Int)<(ls.length:Int))=false:=Aa4 (by omega)
 have hlz:ls.length≤1002:=by omega
 rcases Classical.em (12<ls.length) with h3|h3
 ·have t1:decide ((12:Int)<(ls.length:Int))=true:=Aa3 (by omega)
  have t2:decide ((ls.length:Int)<999)=false:=Aa4 (by omega)
  clear h1 h2 hlm h3
  go_enter Tryz.func15,Tryz.ntmps15
  go_wp2_with fail
  go_loopw [3] (fun v wr=>∃k:Nat,v=.int .i64 (k:Int)∧k≤ls.length∧(∀l∈ls.take k,l.tiny)∧Below w.heap.size w wr) (fun v _=>ls.length-(intOf v).toNat)
  case atStart=>exact⟨0,rfl,by omega,fun l hl=>by simp at hl,Below.refl _ _⟩
  case round =>
   obtain⟨k,rfl,hk,hti,hb⟩:=hrel
   have HTI:=hI hti
   have HB:=hI hb
   clear hti hb
   rcases Aam k ls.length with hlt|hge
   ·obtain⟨l,hl⟩:∃l,ls[k]?=some l:=⟨_,Aae hlt⟩
    obtain⟨ad,rfl,had,hcell⟩:=HR.out (by intro e;rw[e] at hlt;cases hlt)
    have hcx:decide ((k:Int)<(ls.length:Int))=true:=by simp;omega
    obtain⟨c0,c1,c2,c3,c4,c5,c6⟩:=(hcell k l hl).below HB.out (by rw[Acv];exact had)
    have HSN:=hI (Amq hl)
    clear hcell hl
    go_wp2_with fail
    refine (Aky l _).mono ?_
    rintro e w1 ⟨g,rfl,hg,b1⟩
    have HB1:=hI (HB.out.trans (b1.mono HB.out.size))
    clear b1 c0 c1 c2 c3 c4 c5 c6
    cases g
    ·have HG:=hI (hg rfl)
     clear hg
     go_wp2_with fail
     go_roundw
     case rel =>
      refine⟨k+1,by go_num,by omega,fun x hx=>?_,HB1.out⟩
      rw[HSN.out,List.mem_append] at hx
      rcases hx with hx|hx
      ·exact HTI.out x hx
      ·rw[List.mem_singleton] at hx;subst hx;exact HG.out
     case measure=>simp[intOf];omega
    ·go_wp2_with fail
     go_ret
     exact⟨true,rfl,fun h=>(by cases h),HB1.out⟩
   ·have hcx:decide ((k:Int)<(ls.length:Int))=false:=by simp;omega
    go_wp2_with fail
    go_ret
    refine⟨false,rfl,fun _=>⟨H1.out,fun l hl=>HTI.out l ?_⟩,HB.out⟩
    rw[Aai (by omega)]
    exact hl
 ·have t1:decide ((12:Int)<(ls.length:Int))=false:=Aa4 (by omega)
  clear h1 h2 hlm h3
  go_enter Tryz.func15,Tryz.ntmps15
  go_wp2_with fail
  go_loopw [3] (fun v wr=>∃k:Nat,v=.int .i64 (k:Int)∧k≤ls.length∧(∀l∈ls.take k,l.tiny)∧Below w.heap.size w wr) (fun v _=>ls.length-(intOf v).toNat)
  case atStart=>exact⟨0,rfl,by omega,fun l hl=>by simp at hl,Below.refl _ _⟩
  case round =>
   obtain⟨k,rfl,hk,hti,hb⟩:=hrel
   have HTI:=hI hti
   have HB:=hI hb
   clear hti hb
   rcases Aam k ls.length with hlt|hge
   ·obtain⟨l,hl⟩:∃l,ls[k]?=some l:=⟨_,Aae hlt⟩
    obtain⟨ad,rfl,had,hcell⟩:=HR.out (by intro e;rw[e] at hlt;cases hlt)
    have hcx:decide ((k:Int)<(ls.length:Int))=true:=by simp;omega
    obtain⟨c0,c1,c2,c3,c4,c5,c6⟩:=(hcell k l hl).below HB.out (by rw[Acv];exact had)
    have HSN:=hI (Amq hl)
    clear hcell hl
    go_wp2_with fail
    refine (Aky l _).mono ?_
    rintro e w1 ⟨g,rfl,hg,b1⟩
    have HB1:=hI (HB.out.trans (b1.mono HB.out.size))
    clear b1 c0 c1 c2 c3 c4 c5 c6
    cases g
    ·have HG:=hI (hg rfl)
     clear hg
     go_wp2_with fail
     go_roundw
     case rel =>
      refine⟨k+1,by go_num,by omega,fun x hx=>?_,HB1.out⟩
      rw[HSN.out,List.mem_append] at hx
      rcases hx with hx|hx
      ·exact HTI.out x hx
      ·rw[List.mem_singleton] at hx;subst hx;exact HG.out
     case measure=>simp[intOf];omega
    ·go_wp2_with fail
     go_ret
     exact⟨true,rfl,fun h=>(by cases h),HB1.out⟩
   ·have hcx:decide ((k:Int)<(ls.length:Int))=false:=by simp;omega
    go_wp2_with fail
    go_ret
    refine⟨false,rfl,fun _=>⟨H1.out,fun l hl=>HTI.out l ?_⟩,HB.out⟩
    rw[Aai (by omega)]
    exact hl
end Go.Proofs.YtcmgmemffncbhabGreatDoor
namespace Go.Proofs.YtcmgmemffncbhabGreatDoor
open Go.RowKit Tr Go.Shelf Go.Maps Go.WideMaps
open Classical in
noncomputable def lallF(pre:List Lot):List Lot→Int
 | []=>0
 | l::r=>if lchk l≠0 then lchk l else if l.id∈pre.map Lot.id then 5 else lallF (pre++[l]) r
open Classical in
noncomputable def lall(ls:List Lot):Int:=if 1000<ls.length then 4 else lallF [] ls
theorem Ams{ls:List Lot}{k:Nat}{l:Lot}(hlen:ls.length≤1000)(hg:lallF (ls.take k) (ls.drop k)=lall ls)(hl:ls[k]?=some l):
 (lchk l≠0→lall ls=lchk l)∧(lchk l=0→l.id∈(ls.take k).map Lot.id→lall ls=5)∧(lchk l=0→l.id ∉ (ls.take k).map Lot.id→lallF (ls.take (k+1)) (ls.drop (k+1))=lall ls):=by
 have hk:k<ls.length:=(Aak.1 hl).1
 have hd:ls.drop k=l::ls.drop (k+1):=by
  rw[Aa2 hk]
  congr 1
  rw[Aae hk] at hl
  exact Option.some.inj hl
 rw[hd] at hg
 unfold lallF at hg
 refine⟨fun h=>?_,fun h h2=>?_,fun h h2=>?_⟩
 ·rw[if_pos h] at hg;exact hg.symm
 ·rw[if_neg (fun x=>x h),if_pos h2] at hg;exact hg.symm
 ·rw[if_neg (fun x=>x h),if_neg h2] at hg
  rw[Amq hl];exact hg
theorem Amt{ls:List Lot}(h:ls.length≤1000):lallF (ls.take 0) (ls.drop 0)=lall ls:=by unfold lall;rw[if_neg (by omega)];rfl
theorem Amu{ls:List Lot}(hg:lallF (ls.take ls.length) (ls.drop ls.length)=lall ls):lall ls=0:=by
 rw[List.drop_length] at hg;exact hg.symm
theorem Amv{ls:List Lot}(h:1000<ls.length):lall ls=4:=by unfold lall;rw[if_pos h]
theorem Amw(u z:DataW Unit)(k:Lit)(hk:WideAt.IsKeyLit k):∀(acc:List Lit) (m:DataW Unit),IsMap m→(k∈acc∨m.atKey k z=u)→(acc.foldl (fun m x=>m.put x u) m).atKey k z=u
 | [],m,_,h=>h.resolve_left (fun x=>by cases x)
 | x :: r, m, hm, h => by
   rw[List.foldl_cons]
   refine Amw u z k hk r _ (hm.put _ _) ?_
   by_cases hx:x=k
   ·subst hx;exact .inr (atKey_put_same hm hk _ _)
   ·rcases h with h|h
    ·rcases List.mem_cons.1 h with h|h
     ·exact absurd h.symm hx
     ·exact .inl h
    ·exact .inr ((atKey_put_other (fun e=>hx e.symm) _ _).trans h)
theorem Amx(u z:DataW Unit)(k:Lit)(hk:WideAt.IsKeyLit k)(acc:List Lit)(h:k∈acc):(setOf u acc).atKey k z=u :=
 Amw u z k hk acc _ isMap_empty (.inl h)
theorem Amy{w:World}{b n:Nat}{ls:List Lot}{l:Lot}(h:w.ownsMap Tryz.prog 9 (plainElem Tryz.prog 4) b n (seenD ls))(hs:l.id.size≤maxLen)(hn:l.id∈ls.map Lot.id):
 (Instr.lookup 74 (.map (some b)) (.string l.id) false).run Tryz.prog w=.ok (.bool true) w:=by
 obtain⟨v,ps,hrun,hv⟩:=h.lookup strKeyed Tryz.underlying74 (Aj2 w) (plainElem_bool Tryz.underlying4 false) (keyOf_string_mk Tryz.underlying9 hs)
 have hh:=Amx (.lit (.bool true)) (.lit (.bool false)) (.string l.id.data.toList:Lit) trivial (ls.map idKey) (by
  obtain⟨x,hx,e⟩:=List.mem_map.1 hn
  exact List.mem_map.2 ⟨x,hx,by unfold idKey;rw[e]⟩)
 have hv':=hv
 unfold seenD at hv'
 rw[hh] at hv'
 obtain⟨a,rfl,ha⟩:=Aj3 Tryz.underlying4 hv'
 simp at ha
 rw[hrun,←ha.1]
theorem Amz(A:Option Addr)(c:Nat)(ls:List Lot)(hc:ls.length≤c)(hlm:ls.length≤9223372036854775807)(w:World)(hr:RdL w A ls)(hsz:∀l∈ls,l.sized)(ht:Tabs w):
 Calls Tryz.prog 19 #[.slice A ls.length c] w fun e w'=>e=.returned (.int .i64 (lall ls))∧Below w.heap.size w w':=by
 have HR:=hI hr
 have HT:=hI ht
 have H:=hI hsz
 clear hr ht hsz
 by_cases hgr:1000<ls.length
 ·have hgt:decide ((1000:Int)<(ls.length:Int))=true:=by simp;omega
  have HG:=hI (Amv hgr)
  clear hgr
  go_enter Tryz.func19,Tryz.ntmps19
  go_wp2_with fail
  go_ret
  exact⟨by rw[HG.out];rfl,Below.refl _ _⟩
 have hgt:decide ((1000:Int)<(ls.length:Int))=false:=by simp;omega
 have hlen:ls.length≤1000:=by omega
 clear hgr
 have hmm:=@run_makeMap Tryz.prog
 go_enter Tryz.func19,Tryz.ntmps19
 go_wp2_with fail
 go_loopw [13] (fun v wr=>∃k:Nat,v=.int .i64 (k:Int)∧k≤ls.length∧lallF (ls.take k) (ls.drop k)=lall ls∧wr.ownsMap Tryz.prog 9 (plainElem Tryz.prog 4) w.heap.size k (seenD (ls.take k))∧Below w.heap.size w wr) (fun v _=>ls.length-(intOf v).toNat)
 case atStart=>exact⟨0,rfl,by omega,Amt hlen,World.ownsMap_made _ _ _ _,(Below.refl _ _).alloc (Aad _) _⟩
 case round =>
  obtain⟨k,rfl,hk,hg,hown,hb⟩:=hrel
  have HO:=hI hown
  have HB:=hI hb
  have HG:=hI hg
  clear hown hb hg
  rcases Aam k ls.length with hlt|hge
  ·obtain⟨l,hl⟩:∃l,ls[k]?=some l:=⟨_,Aae hlt⟩
   obtain⟨ad,rfl,had,hcell⟩:=HR.out (by intro e;rw[e] at hlt;cases hlt)
   have hcx:decide ((k:Int)<(ls.length:Int))=true:=by simp;omega
   obtain⟨c0,c1,c2,c3,c4,c5,c6⟩:=(hcell k l hl).below HB.out (by rw[Acv];exact had)
   have hs:=H.out l (Aas hl)
   have hzid:l.id.size≤maxLen:=by unfold maxLen;have:=hs.1;omega
   have HSN:=hI (Amq hl)
   have HAT:=hI (Ams hlen HG.out hl)
   have HC:=hI (fun W hW=>Amg l hs W hW)
   clear hcell hl hs
   obtain⟨W5,hW5⟩:∃W5,wr.alloc (.cells l.cells 38)=W5:=⟨_,rfl⟩
   have k5:LotBox W5 wr.heap.size l:=by rw[←hW5];exact Aa5 wr _
   have b5:Below wr.heap.size wr W5:=by rw[←hW5];exact (Below.refl _ wr).alloc (Aad _) _
   have HK5:=hI k5
   have HB5:=hI (HB.out.trans (b5.mono HB.out.size))
   have HO5:=hI (Aj5 HO.out b5)
   obtain⟨m0,m1,m2,m3,m4,m5,m6⟩:=Ac0 k5
   clear k5 b5 HO
   unfold Lot.cells at hW5
   go_wp2_with fail
   refine (HC.out _ (HT.out.below HB5.out)).mono ?_
   rintro e w6 ⟨rfl,b6⟩
   have k6:=HK5.out.below b6
   have HB6:=hI (HB5.out.trans (b6.mono HB5.out.size))
   have hO6:=Aj5 HO5.out b6
   by_cases h0:lchk l=0
   case neg =>
    have t1:(lchk l==0)=false:=Aaj.2 h0
    have t1':(lchk l != 0)=true:=by rw[bne,t1];rfl
    have HN:=hI (HAT.out.1 h0)
    clear h0 hO6 b6 k6 m0 m1 m2 m3 m4 m5 m6 hW5
    go_wp2_with fail
    go_ret
    exact⟨by rw[HN.out];rfl,HB6.out⟩
   have H0:=hI h0
   rw[h0]
   clear h0
   clear m0 m1 m2 m3 m4 m5 m6
   obtain⟨m0,m1,m2,m3,m4,m5,m6⟩:=Ac0 k6
   by_cases hid:l.id∈(ls.take k).map Lot.id
   ·have hlk:=Amy hO6 hzid hid
    have HN:=hI (HAT.out.2.1 H0.out hid)
    clear hid hO6 b6 k6
    go_wp2_with fail
    go_ret
    exact⟨by rw[HN.out];rfl,HB6.out⟩
   have hlk:=Aj4 hO6 hzid (fun x hx e=>hid (List.mem_map.2 ⟨x,hx,e⟩))
   have HN:=hI (HAT.out.2.2 H0.out hid)
   obtain⟨w7,hup,hO7,hg7⟩:=hO6.update strKeyed Tryz.underlying74 (by unfold maxLen;omega) (keyOf_string_mk Tryz.underlying9 hzid) (plainElem_bool Tryz.underlying4 true)
   have HO7:Hid (w7.ownsMap Tryz.prog 9 (plainElem Tryz.prog 4) w.heap.size (k+1) (seenD (ls.take (k+1)))):=by
    rw[HSN.out,Aj1];exact hO7
   have HB7:=hI (HB6.out.grown hg7 HB6.out.size (fun j hj=>by cases hj;exact Aad _))
   clear hid hO6 hO7 hg7 b6 k6 HO5 HB5 HK5
   go_wp2_with fail
   go_roundw
   case rel=>exact⟨k+1,by go_num,by omega,HN.out,HO7.out,HB7.out⟩
   case measure=>simp[intOf];omega
  ·have hcx:decide ((k:Int)<(ls.length:Int))=false:=by simp;omega
   have hkk:k=ls.length:=by omega
   subst hkk
   have HN:=hI (Amu HG.out)
   go_wp2_with fail
   go_ret
   exact⟨by rw[HN.out];rfl,HB.out⟩
end Go.Proofs.YtcmgmemffncbhabGreatDoor
namespace Go.Proofs.YtcmgmemffncbhabGreatDoor
open Go.RowKit Tr Go.Shelf
def ith(ds:List Int)(k:Nat):Int:=ds.getD k 0
def RdD(w:World)(A:Option Addr)(ds:List Int):Prop :=
 ds≠[]→∃ad:Addr,A=some ad∧ad.block<w.heap.size∧∀j,j<ds.length→w.cell? (ad.add j)=some (.int .i64 (ith ds j))
theorem RdD.below{w w':World}{A:Option Addr}{ds:List Int}(h:RdD w A ds)(hb:Below w.heap.size w w'):RdD w' A ds:=by
 intro hl
 obtain⟨ad,rfl,h1,h2⟩:=h hl
 exact⟨ad,rfl,Aah h1 hb.size,fun j hj=>(hb.cell (by rw[Acv];exact h1)).trans (h2 j hj)⟩
structure BOk(i:Inst)(l:Lot):Prop where
 small:i.small
 ok:i.ok
 sized:l.sized
 lok:l.ok
 inst:l.inst=i.id
theorem Am0(n d:ByteArray)(w:World)(s1:n.size≤3000000)(s2:d.size≤3000000)(h0:vl d≠0)(ht:Tabs w):
 Calls Tryz.prog 86 #[.string n,.string d] w fun e w'=>e=.returned (.tuple #[fenc (Rat.divInt (vl n) (vl d)),.int .i64 0])∧Below w.heap.size w w':=by
 have HB:=Aac ((Below.refl _ w).alloc (Aad _) (Obj.cells #[.string ⟨#[]⟩,.string ⟨#[]⟩] 112))
 have HC:=Aac (Agu d ⟨#[]⟩ (w.alloc (Obj.cells #[.string ⟨#[]⟩,.string ⟨#[]⟩] 112)) (by omega) (by show 0≤_;omega))
 rw[show vl (⟨#[]⟩:ByteArray)=0 from by rw[zero_eq,vl_I]] at HC
 have hc:(cmpI (vl d) 0==0)=false:=Aaj.2 (fun h=>h0 (cmpI_eq.1 h))
 obtain⟨W0,hW0⟩:∃W0,w.alloc (Obj.cells #[.string ⟨#[]⟩,.string ⟨#[]⟩] 112)=W0:=⟨_,rfl⟩
 have hk:W0.heap[w.heap.size]?=some (Obj.cells #[.string ⟨#[]⟩,.string ⟨#[]⟩] 112):=by rw[←hW0];exact Aa5 w _
 have hs:W0.heap.size=w.heap.size+1:=by rw[←hW0];simp
 rw[hW0] at HB HC
 have HT:=Aac ht
 have HM:=Aac (fun W hW=>Aij n d W s1 s2 h0 hW)
 generalize Rat.divInt (vl n) (vl d)=q at HM ⊢
 clear ht h0
 go_enter Tryz.func86,Tryz.ntmps86
 go_wp2_with fail
 try rw[hW0]
 refine HC.out.mono ?_
 rintro e w1 ⟨rfl,B1⟩
 have k1:=Aac ((B1.block w.heap.size (by omega)).trans hk)
 have HB1:=Aac (HB.out.trans (B1.mono HB.out.size))
 clear B1 HB hk HC
 go_wp2_with fail
 refine (HM.out w1 (HT.out.below HB1.out)).mono ?_
 rintro e w2 ⟨rfl,B2⟩
 have hs1:w.heap.size<w1.heap.size:=(Aab.1 k1.out).1
 have k2:=(B2.block w.heap.size hs1).trans k1.out
 have HB2:=Aac (HB1.out.trans (B2.mono HB1.out.size))
 unfold fenc
 have a0:=Aaa k2 0
 have a1:=Aaa k2 1
 simp at a0 a1
 have f0:=Aaf k2 0
 have f1:=Aaf k2 1
 have K2:=Aac k2
 clear k2 k1 B2 HB1 hc
 go_wp2_with fail
 have k3:=set2 K2.out (.string (I q.num)) (.string (dn q))
 have m0:=Aaa k3 0
 have m1:=Aaa k3 1
 simp at m0 m1
 refine bodyPost_ret (v:=.tuple #[.agg #[.string (I q.num),.string (dn q)],.int .i64 0]) (by simp[results,Tryz.results86,go_sem,m0,m1]) rfl ?_
 exact⟨by unfold fenc;rfl,(HB2.out.setCell (p:=⟨w.heap.size,0,none⟩) (Aad _) _).setCell (p:=⟨w.heap.size,1,none⟩) (Aad _) _⟩
def Am1(t p a:Int):Rat:=Rat.divInt (t*p) a
def Am2(t p a:Int):Int:=rnd (Am1 t p a)
theorem rnd_le{p:Rat}{c:Int}(h:p.num≤c*(p.den:Int)):rnd p≤c:=by
 have h1:=Aji p
 have hd:0<(p.den:Int):=by have:=p.den_pos;omega
 rcases Int.lt_or_le c (rnd p) with h2|h2
 ·exfalso
  have h3:(c+1)*(p.den:Int)≤rnd p*(p.den:Int):=Int.mul_le_mul_of_nonneg_right (by omega) (by omega)
  rw[Int.add_mul,Int.one_mul] at h3
  generalize rnd p*(p.den:Int)=x at *
  generalize c*(p.den:Int)=y at *
  omega
 ·exact h2
theorem rnd_nn{p:Rat}(h:0≤p.num):0≤rnd p:=by
 have h1:=Aji p
 have hd:0<(p.den:Int):=by have:=p.den_pos;omega
 rcases Int.lt_or_le (rnd p) 0 with h2|h2
 ·exfalso
  have h3:rnd p*(p.den:Int)≤(-1)*(p.den:Int):=Int.mul_le_mul_of_nonneg_right (by omega) (by omega)
  generalize rnd p*(p.den:Int)=x at *
  omega
 ·exact h2
theorem Am3{t p a:Int}(ha:0<a):(Am1 t p a).num*a=t*p*((Am1 t p a).den:Int):=by
 unfold Am1
 have h:=Rat.num_divInt_den (Rat.divInt (t*p) a)
 have hd:((Rat.divInt (t*p) a).den:Int)≠0:=by have:=(Rat.divInt (t*p) a).den_pos;omega
 rw[Rat.divInt_eq_divInt_iff hd (by omega)] at h
 exact h
theorem Am4{t p a:Int}(ht:0≤t)(hp:0≤p)(ha:0<a)(hpa:p≤a):0≤Am2 t p a∧Am2 t p a≤t:=by
 have hc:=Am3 (t:=t) (p:=p) ha
 have hd:0<((Am1 t p a).den:Int):=by have:=(Am1 t p a).den_pos;omega
 constructor
 ·refine rnd_nn ?_
  have h1:0≤t*p*((Am1 t p a).den:Int):=Int.mul_nonneg (Int.mul_nonneg ht hp) (by omega)
  rw[←hc] at h1
  exact Int.nonneg_of_mul_nonneg_left h1 ha
 ·refine rnd_le ?_
  have h1:t*p*((Am1 t p a).den:Int)≤t*a*((Am1 t p a).den:Int):=Int.mul_le_mul_of_nonneg_right (Int.mul_le_mul_of_nonneg_left hpa ht) (by omega)
  rw[←hc,show t*a*((Am1 t p a).den:Int)=t*((Am1 t p a).den:Int)*a from by rw[Int.mul_assoc,Int.mul_comm a,←Int.mul_assoc]] at h1
  exact Int.le_of_mul_le_mul_right h1 ha
theorem Am5(a:ByteArray)(w:World)(s:a.size≤4000000)(h:¬vl a<0):
 Calls Tryz.prog 85 #[.string a] w fun e w'=>e=.returned (.bool false)∧Below w.heap.size w w':=by
 have HC:=Aac (Agu a ⟨#[]⟩ w s (by show 0≤_;omega))
 rw[show vl (⟨#[]⟩:ByteArray)=0 from by rw[zero_eq,vl_I]] at HC
 have hc:decide (cmpI (vl a) 0<0)=false:=Aa4 (by rw[cmpI_lt];exact h)
 go_enter Tryz.func85,Tryz.ntmps85
 go_wp2_with fail
 refine HC.out.mono ?_
 rintro e w1 ⟨rfl,B1⟩
 clear HC
 go_wp2_with fail
 go_ret
 exact⟨rfl,B1⟩
theorem Am6(t p a:Int)(w:World)(st:(I t).size≤1000)(sp:(I p).size≤1000)(sa:(I a).size≤1000)(t0:0≤t)(p0:0≤p)(a0:0<a)(pa:p≤a)(ht:Tabs w):
 Calls Tryz.prog 51 #[.string (I t),.string (I p),.string (I a)] w fun e w'=>e=.returned (.tuple #[.string (I (Am2 t p a)),.string (I (t-Am2 t p a)),.int .i64 0])∧Below w.heap.size w w':=by
 have HT:=Aac ht
 have zm:(I (t*p)).size≤2001:=by have:=Aim (a:=I t) (b:=I p) st sp;rwa [vl_I,vl_I] at this
 obtain⟨K,hK⟩:∃K,K=2001:=⟨_,rfl⟩
 have zk:(I a).size≤K:=by omega
 have zk2:(I t).size≤K:=by omega
 rw[←hK] at zm
 have bq:BdQ (Rat.divInt (t*p) a) K:=BdQ.div (by have:=vl_lt (I (t*p));rw[vl_I] at this;exact Aah this (Aep zm)) (by have:=vl_lt (I a);rw[vl_I] at this;exact Aah this (Aep zk)) (by omega)
 have zn:=bq.num
 have zd:=bq.dn
 have zr:(I (Am2 t p a)).size≤K+1:=Aen (by
  obtain⟨h1,h2⟩:=Am4 t0 p0 a0 pa
  have h3:=vl_lt (I t)
  rw[vl_I] at h3
  have h4:t.natAbs<10^K:=Aah h3 (Aep zk2)
  omega)
 have HS:=Aac (show rnd (fv (I (Rat.divInt (t*p) a).num) (dn (Rat.divInt (t*p) a)))=Am2 t p a from by rw[fv_enc];rfl)
 have HC1:=Aac (fun W=>Agq (I t) W (by omega) (by unfold Can;rw[vl_I]))
 have HC2:=Aac (fun W=>Agq (I p) W (by omega) (by unfold Can;rw[vl_I]))
 have HC3:=Aac (fun W=>Agq (I a) W (by omega) (by unfold Can;rw[vl_I]))
 have hz:=Ajd a
 rw[Aa4 (by omega)] at hz
 have HN1:=Aac (fun W=>Am5 (I a) W (by omega) (by rw[vl_I];omega))
 have HN2:=Aac (fun W=>Am5 (I p) W (by omega) (by rw[vl_I];omega))
 have hc1:decide (0<cmpI p a)=false:=Aa4 (by rw[cmpI_gt];omega)
 have hc2:decide (cmpI p a > 0)=false:=hc1
 generalize Am2 t p a=r at HS zr ⊢
 clear ht t0 p0 pa bq
 go_enter Tryz.func51,Tryz.ntmps51
 go_wp2_with fail
 refine (HC1.out _).mono ?_
 rintro e w1 ⟨rfl,B1⟩
 go_wp2_with fail
 refine (HC2.out _).mono ?_
 rintro e w2 ⟨rfl,B2⟩
 have B2:=B1.trans (B2.mono B1.size)
 clear B1
 go_wp2_with fail
 refine (HC3.out _).mono ?_
 rintro e w3 ⟨rfl,B3⟩
 have B3:=B2.trans (B3.mono B2.size)
 clear B2 HC1 HC2 HC3
 go_wp2_with fail
 refine (HN1.out _).mono ?_
 rintro e w4 ⟨rfl,B4⟩
 have B4:=B3.trans (B4.mono B3.size)
 clear B3
 go_wp2_with fail
 refine (HN2.out _).mono ?_
 rintro e w5 ⟨rfl,B5⟩
 have B5:=B4.trans (B5.mono B4.size)
 clear B4 HN1 HN2
 go_wp2_with fail
 refine (Agu (I p) (I a) _ (by omega) (by omega)).mono ?_
 rintro e w6 ⟨rfl,B6⟩
 have B6:=Aac (B5.trans (B6.mono B5.size))
 rw[vl_I,vl_I]
 clear B5
 go_wp2_with fail
 refine (Agn (I t) (I p) w6 (by omega) (by omega) (HT.out.below B6.out)).mono ?_
 rintro e w7 ⟨rfl,B7⟩
 have B7:=Aac (B6.out.trans (B7.mono B6.out.size))
 rw[vl_I,vl_I]
 clear B6 hc1 hc2 hz
 go_wp2_with fail
 refine (Am0 (I (t*p)) (I a) w7 (by omega) (by omega) (by rw[vl_I];omega) (HT.out.below B7.out)).mono ?_
 rintro e w8 ⟨rfl,B8⟩
 have B8:=Aac (B7.out.trans (B8.mono B7.out.size))
 rw[vl_I,vl_I]
 unfold fenc
 clear B7
 generalize Rat.divInt (t*p) a=q at *
 go_wp2_with fail
 refine (Ajg (I q.num) (dn q) _ (by omega) (by omega) (HT.out.below (B8.out.alloc (by simp[B8.out.size]) _))).mono ?_
 rintro e w9 ⟨rfl,B9⟩
 have B9:=Aac ((B8.out.alloc B8.out.size (Obj.cells #[.string (I q.num),.string (dn q)] 112)).trans (B9.mono (B8.out.alloc B8.out.size (Obj.cells #[.string (I q.num),.string (dn q)] 112)).size))
 rw[HS.out]
 clear B8
 go_wp2_with fail
 refine (Agm (I t) (I r) w9 (by omega) (by omega) (HT.out.below B9.out)).mono ?_
 rintro e w10 ⟨rfl,B10⟩
 rw[vl_I,vl_I]
 go_wp2_with fail
 refine bodyPost_ret (v:=.tuple #[.string (I r),.string (I (t-r)),.int .i64 0]) (by simp[results,Tryz.results51,go_sem]) rfl ?_
 exact⟨rfl,B9.out.trans (B10.mono B9.out.size)⟩
theorem Am7(p:Rat):rawN (I p.num) (dn p)=I p.num∧rawD (dn p)=I (p.den:Int):=by
 have hp:0<p.den:=p.den_pos
 unfold rawN rawD dn
 by_cases h:p.den=1
 ·rw[if_pos h,show vl (⟨#[]⟩:ByteArray)=0 from rfl,if_neg (by omega),if_pos rfl,h]
  exact⟨rfl,one1_eq⟩
 ·rw[if_neg h,vl_I,if_neg (by omega),if_neg (by omega),if_neg (by omega)]
  exact⟨rfl,rfl⟩
theorem rRawQ{p:Rat}{k:Nat}(h:BdQ p k)(hk:k≤30000)(w:World):Calls Tryz.prog 158 #[fenc p] w fun e w'=>e=.returned (.tuple #[.string (I p.num),.string (I (p.den:Int))])∧Below w.heap.size w w':=by
 have:=Air (I p.num) (dn p) (by have:=h.num;omega) (by have:=h.dn;omega) w
 rw[(Am7 p).1,(Am7 p).2] at this
 exact this
theorem rMulI{x y:Int}{a b:Nat}(hx:x.natAbs<10^a)(hy:y.natAbs<10^b)(ha:a≤60000)(hb:b≤60000)(w:World):Calls Tryz.prog 96 #[.string (I x),.string (I y)] w fun e w'=>e=.returned (.string (I (x*y)))∧Below w.heap.size w w':=by
 have:=rMul_any (I x) (I y) (by have:=Aen hx;omega) (by have:=Aen hy;omega) w
 rw[vl_I,vl_I] at this
 exact this
theorem rAddI{x y:Int}{a:Nat}(hx:x.natAbs<10^a)(hy:y.natAbs<10^a)(ha:a≤60000)(w:World):Calls Tryz.prog 30 #[.string (I x),.string (I y)] w fun e w'=>e=.returned (.string (I (x+y)))∧Below w.heap.size w w':=by
 have:=Aiy (I x) (I y) (by have:=Aen hx;omega) (by have:=Aen hy;omega) w
 rw[vl_I,vl_I] at this
 exact this
theorem rRedI{x y:Int}{a:Nat}(hx:x.natAbs<10^a)(hy:y.natAbs<10^a)(hp:0<y)(ha:a≤60000)(w:World):Calls Tryz.prog 159 #[.string (I x),.string (I y)] w fun e w'=>e=.returned (fenc (Rat.divInt x y))∧Below w.heap.size w w':=by
 have:=Ajm (I x) (I y) a (by omega) (by have:=Aen hx;omega) (by have:=Aen hy;omega) (by rw[vl_I];exact hx) (by rw[vl_I];exact hy) (by rw[vl_I];exact hp) w
 rw[vl_I,vl_I] at this
 exact this
theorem add_lt{x y:Int}{a:Nat}(hx:x.natAbs<10^a)(hy:y.natAbs<10^a):(x+y).natAbs<10^(a+1):=by rw[Nat.pow_succ];omega
theorem Am8{p:Rat}{k:Nat}(h:BdQ p k):((p.den:Int)).natAbs<10^k:=by rw[Int.natAbs_natCast];exact h.2
theorem add_eq(p q:Rat):Rat.divInt (p.num*(q.den:Int)+q.num*(p.den:Int)) ((p.den:Int)*(q.den:Int))=p+q:=by
 conv=>rhs;rw[Amp p,Amp q]
 rw[Rat.divInt_add_divInt _ _ (by have:=p.den_pos;omega) (by have:=q.den_pos;omega)]
theorem neg_eq(p:Rat):Rat.divInt (-p.num) (p.den:Int)=-p:=by
 conv=>rhs;rw[Amp p]
 rw[Rat.neg_divInt]
theorem of_eq(z:Int):Rat.divInt z 1=(z:Rat):=by
 have:=Amp (z:Rat)
 rw[Rat.num_intCast,Rat.den_intCast] at this
 exact this.symm
theorem Am9(a:ByteArray)(ha:a.size≤50000)(w:World):Calls Tryz.prog 162 #[.string a] w fun e w'=>e=.returned (fenc (vl a:Rat))∧Below w.heap.size w w':=by
 have H2:=fun W=>Ajm a one1 (a.size+1) (by omega) (by omega) (by decide) (Aah (vl_lt a) (Aep (by omega))) (Aah (vl_lt one1) (Aep (by show 1≤_;omega))) (by rw[one1_eq,vl_I];omega) W
 rw[show vl one1=1 from by rw[one1_eq,vl_I],of_eq] at H2
 have H2:=Aac H2
 have H1:=Aac (fun W=>Aip W)
 clear ha
 obtain⟨W0,hW0⟩:∃W0,w.alloc (.cells #[.string ⟨#[]⟩,.string ⟨#[]⟩] 112)=W0:=⟨_,rfl⟩
 have K1:Hid (W0.heap[w.heap.size]?=some (.cells #[.string ⟨#[]⟩,.string ⟨#[]⟩] 112)):=by rw[Hid,←hW0];exact Aa5 w _
 have C1:Hid (Below w.heap.size w W0):=by rw[Hid,←hW0];exact (Below.refl _ w).alloc (Aad _) _
 go_enter Tryz.func162,Tryz.ntmps162
 go_wp2_with fail
 try rw[hW0]
 refine (H1.out _).mono ?_
 rintro e w1 ⟨rfl,rfl⟩
 go_wp2_with fail
 refine (H2.out _).mono ?_
 rintro e w2 ⟨rfl,c2⟩
 have C2:=Aac (C1.out.trans (c2.mono C1.out.size))
 have K2:=Aac ((c2.block _ (Aab.1 K1.out).1).trans K1.out)
 clear c2 C1 K1 H2
 obtain⟨rq,hrq⟩:∃rq,(vl a:Rat)=rq:=⟨_,rfl⟩
 rw[hrq]
 have HRQ:=Aac hrq
 clear hrq
 have a0:=Aaa K2.out 0
 have a1:=Aaa K2.out 1
 simp at a0 a1
 have f0:=Aaf K2.out 0
 have f1:=Aaf K2.out 1
 unfold fenc
 go_wp2_with fail
 have k2:=set2 K2.out (.string (I rq.num)) (.string (dn rq))
 have m0:=Aaa k2 0
 have m1:=Aaa k2 1
 simp at m0 m1
 refine bodyPost_ret (v:=.agg #[.string (I rq.num),.string (dn rq)]) (by simp[results,Tryz.results162,go_sem,m0,m1]) rfl ?_
 exact⟨by rw[HRQ.out];rfl,(C2.out.setCell (p:=⟨w.heap.size,0,none⟩) (by show w.heap.size≤w.heap.size;omega) _).setCell (p:=⟨w.heap.size,1,none⟩) (by show w.heap.size≤w.heap.size;omega) _⟩
theorem rfNegQ{p:Rat}{k:Nat}(h:BdQ p k)(hk:k≤30000)(w:World):Calls Tryz.prog 200 #[fenc p] w fun e w'=>e=.returned (fenc (-p))∧Below w.heap.size w w':=by
 have H1:=Aac (fun W=>rRawQ h hk W)
 have H2:=fun W=>Ahe (I p.num) (by have:=h.num;omega) W
 rw[vl_I] at H2
 have H2:=Aac H2
 have H3:=fun W=>rRedI (x:=-p.num) (y:=(p.den:Int)) (a:=k) (by rw[Int.natAbs_neg];exact h.1) (Am8 h) (by have:=p.den_pos;omega) (by omega) W
 rw[neg_eq] at H3
 have H3:=Aac H3
 clear h hk
 obtain⟨W0,hW0,hb0,hs0,k0,k1⟩:=box2 w (.cells #[.string (I p.num),.string (dn p)] 112) (.cells #[.string ⟨#[]⟩,.string ⟨#[]⟩] 112)
 have b0:=Aaa k0 0
 have b1:=Aaa k0 1
 simp at b0 b1
 have C0:=Aac hb0
 have K0:=Aac k1
 clear hb0 k0 k1 hs0
 unfold fenc at H1
 show Calls Tryz.prog 200 #[.agg #[.string (I p.num),.string (dn p)]] w _
 go_enter Tryz.func200,Tryz.ntmps200
 go_wp2_with fail
 try rw[←hW0]
 refine (H1.out _).mono ?_
 rintro e w1 ⟨rfl,c1⟩
 have C1:=Aac (C0.out.trans (c1.mono C0.out.size))
 have K1:=Aac ((c1.block _ (Aab.1 K0.out).1).trans K0.out)
 clear c1 C0 K0 H1 b0 b1 hW0
 go_wp2_with fail
 refine (H2.out _).mono ?_
 rintro e w2 ⟨rfl,rfl⟩
 go_wp2_with fail
 refine (H3.out _).mono ?_
 rintro e w2 ⟨rfl,c2⟩
 have C2:=Aac (C1.out.trans (c2.mono C1.out.size))
 have K2:=Aac ((c2.block _ (Aab.1 K1.out).1).trans K1.out)
 clear c2 C1 K1 H3
 obtain⟨rq,hrq⟩:∃rq,-p=rq:=⟨_,rfl⟩
 rw[hrq]
 have HRQ:=Aac hrq
 clear hrq
 have a0:=Aaa K2.out 0
 have a1:=Aaa K2.out 1
 simp at a0 a1
 have f0:=Aaf K2.out 0
 have f1:=Aaf K2.out 1
 unfold fenc
 go_wp2_with fail
 have k2:=set2 K2.out (.string (I rq.num)) (.string (dn rq))
 have m0:=Aaa k2 0
 have m1:=Aaa k2 1
 simp at m0 m1
 refine bodyPost_ret (v:=.agg #[.string (I rq.num),.string (dn rq)]) (by simp[results,Tryz.results200,go_sem,m0,m1]) rfl ?_
 exact⟨by rw[HRQ.out];rfl,(C2.out.setCell (p:=⟨w.heap.size+1,0,none⟩) (by show w.heap.size≤w.heap.size+1;omega) _).setCell (p:=⟨w.heap.size+1,1,none⟩) (by show w.heap.size≤w.heap.size+1;omega) _⟩
theorem rfAddQ{p q:Rat}{k:Nat}(h:BdQ p k)(h':BdQ q k)(hk:k≤20000)(w:World):Calls Tryz.prog 199 #[fenc p,fenc q] w fun e w'=>e=.returned (fenc (p+q))∧Below w.heap.size w w':=by
 have H1:=Aac (fun W=>rRawQ h (by omega) W)
 have H2:=Aac (fun W=>rRawQ h' (by omega) W)
 have H3:=Aac (fun W=>rMulI (x:=p.num) (y:=(q.den:Int)) h.1 (Am8 h') (by omega) (by omega) W)
 have H4:=Aac (fun W=>rMulI (x:=q.num) (y:=(p.den:Int)) h'.1 (Am8 h) (by omega) (by omega) W)
 have H5:=Aac (fun W=>rAddI (x:=p.num*(q.den:Int)) (y:=q.num*(p.den:Int)) (a:=k+k) (Aer h.1 (Am8 h')) (Aer h'.1 (Am8 h)) (by omega) W)
 have H6:=Aac (fun W=>rMulI (x:=(p.den:Int)) (y:=(q.den:Int)) (Am8 h) (Am8 h') (by omega) (by omega) W)
 have H7:=fun W=>rRedI (x:=p.num*(q.den:Int)+q.num*(p.den:Int)) (y:=(p.den:Int)*(q.den:Int)) (a:=k+k+1) (add_lt (Aer h.1 (Am8 h')) (Aer h'.1 (Am8 h))) (Aah (Aer (Am8 h) (Am8 h')) (Aep (by omega))) (Int.mul_pos (by have:=p.den_pos;omega) (by have:=q.den_pos;omega)) (by omega) W
 rw[add_eq] at H7
 have H7:=Aac H7
 clear h h' hk
 obtain⟨W0,hW0,hb0,hs0,k0,k1,k2⟩:=box3 w (.cells #[.string (I p.num),.string (dn p)] 112) (.cells #[.string (I q.num),.string (dn q)] 112) (.cells #[.string ⟨#[]⟩,.string ⟨#[]⟩] 112)
 have b0:=Aaa k0 0
 have b1:=Aaa k0 1
 have d0:=Aaa k1 0
 have d1:=Aaa k1 1
 simp at b0 b1 d0 d1
 have C0:=Aac hb0
 have K0:=Aac k2
 clear hb0 k0 k1 k2 hs0
 unfold fenc at H1 H2
 show Calls Tryz.prog 199 #[.agg #[.string (I p.num),.string (dn p)],.agg #[.string (I q.num),.string (dn q)]] w _
 go_enter Tryz.func199,Tryz.ntmps199
 go_wp2_with fail
 try rw[←hW0]
 refine (H1.out _).mono ?_
 rintro e w1 ⟨rfl,c1⟩
 have e0:=(c1.cell (Afv d0)).trans d0
 have e1:=(c1.cell (Afv d1)).trans d1
 have C1:=Aac (C0.out.trans (c1.mono C0.out.size))
 have K1:=Aac ((c1.block _ (Aab.1 K0.out).1).trans K0.out)
 clear c1 C0 K0 H1 b0 b1 d0 d1 hW0
 go_wp2_with fail
 refine (H2.out _).mono ?_
 rintro e w2 ⟨rfl,c2⟩
 have C2:=Aac (C1.out.trans (c2.mono C1.out.size))
 have K2:=Aac ((c2.block _ (Aab.1 K1.out).1).trans K1.out)
 clear c2 C1 K1 H2
 clear e0 e1
 go_wp2_with fail
 refine (H3.out _).mono ?_
 rintro e w3 ⟨rfl,c3⟩
 have C3:=Aac (C2.out.trans (c3.mono C2.out.size))
 have K3:=Aac ((c3.block _ (Aab.1 K2.out).1).trans K2.out)
 clear c3 C2 K2 H3
 go_wp2_with fail
 refine (H4.out _).mono ?_
 rintro e w4 ⟨rfl,c4⟩
 have C4:=Aac (C3.out.trans (c4.mono C3.out.size))
 have K4:=Aac ((c4.block _ (Aab.1 K3.out).1).trans K3.out)
 clear c4 C3 K3 H4
 go_wp2_with fail
 refine (H5.out _).mono ?_
 rintro e w5 ⟨rfl,c5⟩
 have C5:=Aac (C4.out.trans (c5.mono C4.out.size))
 have K5:=Aac ((c5.block _ (Aab.1 K4.out).1).trans K4.out)
 clear c5 C4 K4 H5
 go_wp2_with fail
 refine (H6.out _).mono ?_
 rintro e w6 ⟨rfl,c6⟩
 have C6:=Aac (C5.out.trans (c6.mono C5.out.size))
 have K6:=Aac ((c6.block _ (Aab.1 K5.out).1).trans K5.out)
 clear c6 C5 K5 H6
 go_wp2_with fail
 refine (H7.out _).mono ?_
 rintro e w7 ⟨rfl,c7⟩
 have C7:=Aac (C6.out.trans (c7.mono C6.out.size))
 have K7:=Aac ((c7.block _ (Aab.1 K6.out).1).trans K6.out)
 clear c7 C6 K6 H7
 obtain⟨rq,hrq⟩:∃rq,p+q=rq:=⟨_,rfl⟩
 rw[hrq]
 have HRQ:=Aac hrq
 clear hrq
 have a0:=Aaa K7.out 0
 have a1:=Aaa K7.out 1
 simp at a0 a1
 have f0:=Aaf K7.out 0
 have f1:=Aaf K7.out 1
 unfold fenc
 go_wp2_with fail
 have k2:=set2 K7.out (.string (I rq.num)) (.string (dn rq))
 have m0:=Aaa k2 0
 have m1:=Aaa k2 1
 simp at m0 m1
 refine bodyPost_ret (v:=.agg #[.string (I rq.num),.string (dn rq)]) (by simp[results,Tryz.results199,go_sem,m0,m1]) rfl ?_
 exact⟨by rw[HRQ.out];rfl,(C7.out.setCell (p:=⟨w.heap.size+1+1,0,none⟩) (by show w.heap.size≤w.heap.size+1+1;omega) _).setCell (p:=⟨w.heap.size+1+1,1,none⟩) (by show w.heap.size≤w.heap.size+1+1;omega) _⟩
structure SBx(w:World)(p q:Rat)(W:World):Prop where
 k0:W.heap[w.heap.size]?=some (.cells #[.string (I p.num),.string (dn p)] 112 (0,0))
 k1:W.heap[w.heap.size+1]?=some (.cells #[.string (I q.num),.string (dn q)] 112 (0,0))
 k2:W.heap[w.heap.size+1+1]?=some (.cells #[.string ⟨#[]⟩,.string ⟨#[]⟩] 112 (0,0))
 bel:Below w.heap.size w W
theorem SBx.below{w:World}{p q:Rat}{W W':World}(h:SBx w p q W)(hb:Below W.heap.size W W'):SBx w p q W' :=
 ⟨(hb.block _ (Aab.1 h.k0).1).trans h.k0,(hb.block _ (Aab.1 h.k1).1).trans h.k1,(hb.block _ (Aab.1 h.k2).1).trans h.k2,h.bel.trans (hb.mono h.bel.size)⟩
theorem SBx.calls{w:World}{p q:Rat}{f:Nat}{args:Array Value}{v:Value}(h:∀W,Calls Tryz.prog f args W fun e w'=>e=.returned v∧Below W.heap.size W w'):
 ∀W,SBx w p q W→Calls Tryz.prog f args W fun e wn=>e=.returned v∧SBx w p q wn∧(wn.cell? ⟨w.heap.size,0,none⟩=some (.string (I p.num))∧wn.cell? ⟨w.heap.size,1,none⟩=some (.string (dn p))∧wn.cell? ⟨w.heap.size+1,0,none⟩=some (.string (I q.num))∧wn.cell? ⟨w.heap.size+1,1,none⟩=some (.string (dn q)))∧wn.cell? ⟨w.heap.size+1+1,0,none⟩=some (.string ⟨#[]⟩)∧wn.cell? ⟨w.heap.size+1+1,1,none⟩=some (.string ⟨#[]⟩)∧wn.frozen? ⟨w.heap.size+1+1,0,none⟩=false∧wn.frozen? ⟨w.heap.size+1+1,1,none⟩=false:=by
 intro W hW
 refine (h W).mono ?_
 rintro e wn ⟨rfl,bn⟩
 have hn:=hW.below bn
 exact⟨rfl,hn,⟨Aaa hn.k0 0,Aaa hn.k0 1,Aaa hn.k1 0,Aaa hn.k1 1⟩,Aaa hn.k2 0,Aaa hn.k2 1,Aaf hn.k2 0,Aaf hn.k2 1⟩
theorem rfSubQ{p q:Rat}{k:Nat}(h:BdQ p k)(h':BdQ q k)(hk:k≤20000)(w:World):Calls Tryz.prog 161 #[fenc p,fenc q] w fun e w'=>e=.returned (fenc (p-q))∧Below w.heap.size w w':=by
 have C1:=fun W=>rfNegQ h' (by omega) W
 have C2:=fun W=>rfAddQ h h'.neg hk W
 rw[←Rat.sub_eq_add_neg] at C2
 have HC1:=Aac (SBx.calls (w:=w) (p:=p) (q:=q) C1)
 have HC2:=Aac (SBx.calls (w:=w) (p:=p) (q:=q) C2)
 obtain⟨rn,hrn⟩:∃rn,-q=rn:=⟨_,rfl⟩
 obtain⟨rq,hrq⟩:∃rq,p-q=rq:=⟨_,rfl⟩
 rw[hrn] at HC1 HC2
 rw[hrq] at HC2 ⊢
 clear h h' hk C1 C2 hrn hrq
 obtain⟨W0,hW0,hb0,hs0,k0,k1,k2⟩:=box3 w (.cells #[.string (I p.num),.string (dn p)] 112) (.cells #[.string (I q.num),.string (dn q)] 112) (.cells #[.string ⟨#[]⟩,.string ⟨#[]⟩] 112)
 have hg0:SBx w p q W0:=⟨k0,k1,k2,hb0⟩
 have b0:=Aaa k0 0
 have b1:=Aaa k0 1
 have d0:=Aaa k1 0
 have d1:=Aaa k1 1
 simp at b0 b1 d0 d1
 clear hb0 k0 k1 k2 hs0
 unfold fenc at HC1 HC2 ⊢
 go_enter Tryz.func161,Tryz.ntmps161
 go_wp2_with fail
 rw[←hW0]
 clear hW0
 have hg:SBx w p q W0.drew:=hg0.below (Below.refl _ _).drew
 clear hg0
 go_region_held3 (fun W=>W.cell? ⟨w.heap.size,0,none⟩=some (.string (I p.num))∧W.cell? ⟨w.heap.size,1,none⟩=some (.string (dn p))∧W.cell? ⟨w.heap.size+1,0,none⟩=some (.string (I q.num))∧W.cell? ⟨w.heap.size+1,1,none⟩=some (.string (dn q)))
  (((try dsimp only);refine⟨?_,?_,?_,?_⟩<;>first|assumption|(go_simp;done)))
  (first
    | (go_at_call 200;refine (HC1.out _ hg).mono ?_;clear hg b0 b1 d0 d1;rintro e wn ⟨rfl,hg,⟨b0,b1,d0,d1⟩,m0,m1,f0,f1⟩)
    | (go_at_call 199;refine (HC2.out _ hg).mono ?_;clear hg b0 b1 d0 d1;rintro e wn ⟨rfl,hg,⟨b0,b1,d0,d1⟩,m0,m1,f0,f1⟩))
 go_wp2_with fail
 have k2:=set2 hg.k2 (.string (I rq.num)) (.string (dn rq))
 have j0:=Aaa k2 0
 have j1:=Aaa k2 1
 simp at j0 j1
 refine bodyPost_ret (v:=.agg #[.string (I rq.num),.string (dn rq)]) (by simp[results,Tryz.results161,go_sem,j0,j1]) rfl ?_
 exact⟨rfl,(hg.bel.setCell (p:=⟨w.heap.size+1+1,0,none⟩) (by show w.heap.size≤w.heap.size+1+1;omega) _).setCell (p:=⟨w.heap.size+1+1,1,none⟩) (by show w.heap.size≤w.heap.size+1+1;omega) _⟩
theorem Ana{x y:Int}(h:0<y):rawN (I x) (I y)=I x∧rawD (I y)=I y:=by
 unfold rawN rawD
 rw[vl_I,if_neg (by omega),if_neg (by omega),if_neg (by omega)]
 exact⟨rfl,rfl⟩
theorem Anb{x y:Int}{a:Nat}(hx:x.natAbs<10^a)(hy:y.natAbs<10^a)(hp:0<y)(ha:a≤60000)(w:World):Calls Tryz.prog 131 #[.agg #[.string (I x),.string (I y)]] w fun e w'=>e=.returned (fenc (Rat.divInt x y))∧Below w.heap.size w w':=by
 have H1:=fun W=>Air (I x) (I y) (by have:=Aen hx;omega) (by have:=Aen hy;omega) W
 rw[(Ana (x:=x) hp).1,(Ana (x:=x) hp).2] at H1
 have H1:=Aac H1
 have H2:=Aac (fun W=>rRedI hx hy hp ha W)
 clear hx hy hp ha
 obtain⟨W0,hW0,hb0,hs0,k0,k1⟩:=box2 w (.cells #[.string (I x),.string (I y)] 112) (.cells #[.string ⟨#[]⟩,.string ⟨#[]⟩] 112)
 have b0:=Aaa k0 0
 have b1:=Aaa k0 1
 simp at b0 b1
 have C0:=Aac hb0
 have K0:=Aac k1
 clear hb0 k0 k1 hs0
 go_enter Tryz.func131,Tryz.ntmps131
 go_wp2_with fail
 try rw[←hW0]
 refine (H1.out _).mono ?_
 rintro e w1 ⟨rfl,c1⟩
 have C1:=Aac (C0.out.trans (c1.mono C0.out.size))
 have K1:=Aac ((c1.block _ (Aab.1 K0.out).1).trans K0.out)
 clear c1 C0 K0 H1 b0 b1 hW0
 go_wp2_with fail
 refine (H2.out _).mono ?_
 rintro e w2 ⟨rfl,c2⟩
 have C2:=Aac (C1.out.trans (c2.mono C1.out.size))
 have K2:=Aac ((c2.block _ (Aab.1 K1.out).1).trans K1.out)
 clear c2 C1 K1 H2
 obtain⟨rq,hrq⟩:∃rq,Rat.divInt x y=rq:=⟨_,rfl⟩
 rw[hrq]
 have HRQ:=Aac hrq
 clear hrq
 have a0:=Aaa K2.out 0
 have a1:=Aaa K2.out 1
 simp at a0 a1
 have f0:=Aaf K2.out 0
 have f1:=Aaf K2.out 1
 unfold fenc
 go_wp2_with fail
 have k2:=set2 K2.out (.string (I rq.num)) (.string (dn rq))
 have m0:=Aaa k2 0
 have m1:=Aaa k2 1
 simp at m0 m1
 refine bodyPost_ret (v:=.agg #[.string (I rq.num),.string (dn rq)]) (by simp[results,Tryz.results131,go_sem,m0,m1]) rfl ?_
 exact⟨by rw[HRQ.out];rfl,(C2.out.setCell (p:=⟨w.heap.size+1,0,none⟩) (by show w.heap.size≤w.heap.size+1;omega) _).setCell (p:=⟨w.heap.size+1,1,none⟩) (by show w.heap.size≤w.heap.size+1;omega) _⟩
theorem Anc{x y:Int}{a:Nat}(hx:x.natAbs<10^a)(hy:y.natAbs<10^a)(hp:0<y)(ha:a≤60000)(w:World):Calls Tryz.prog 95 #[.string (I x),.string (I y)] w fun e w'=>e=.returned (.tuple #[fenc (Rat.divInt x y),.int .i64 0])∧Below w.heap.size w w':=by
 have H1:=fun W=>Aiq (I y) (by have:=Aen hy;omega) W
 rw[vl_I,show (y==0)=false from by rw[Aaj];omega] at H1
 have H1:=Aac H1
 have H2:=Aac (fun W=>Anb hx hy hp ha W)
 clear hx hy hp ha
 obtain⟨W0,hW0⟩:∃W0,w.alloc (.cells #[.string ⟨#[]⟩,.string ⟨#[]⟩] 112)=W0:=⟨_,rfl⟩
 have K1:Hid (W0.heap[w.heap.size]?=some (.cells #[.string ⟨#[]⟩,.string ⟨#[]⟩] 112)):=by rw[Hid,←hW0];exact Aa5 w _
 have C1:Hid (Below w.heap.size w W0):=by rw[Hid,←hW0];exact (Below.refl _ w).alloc (Aad _) _
 go_enter Tryz.func95,Tryz.ntmps95
 go_wp2_with fail
 try rw[hW0]
 refine (H1.out _).mono ?_
 rintro e w1 ⟨rfl,rfl⟩
 go_wp2_with fail
 refine (H2.out _).mono ?_
 rintro e w2 ⟨rfl,c2⟩
 have C2:=Aac (C1.out.trans (c2.mono C1.out.size))
 have K2:=Aac ((c2.block _ (Aab.1 K1.out).1).trans K1.out)
 clear c2 C1 K1 H2
 obtain⟨rq,hrq⟩:∃rq,Rat.divInt x y=rq:=⟨_,rfl⟩
 rw[hrq]
 have HRQ:=Aac hrq
 clear hrq
 have a0:=Aaa K2.out 0
 have a1:=Aaa K2.out 1
 simp at a0 a1
 have f0:=Aaf K2.out 0
 have f1:=Aaf K2.out 1
 unfold fenc
 go_wp2_with fail
 have k2:=set2 K2.out (.string (I rq.num)) (.string (dn rq))
 have m0:=Aaa k2 0
 have m1:=Aaa k2 1
 simp at m0 m1
 refine bodyPost_ret (v:=.tuple #[.agg #[.string (I rq.num),.string (dn rq)],.int .i64 0]) (by simp[results,Tryz.results95,go_sem,m0,m1]) rfl ?_
 exact⟨by rw[HRQ.out];rfl,(C2.out.setCell (p:=⟨w.heap.size,0,none⟩) (by show w.heap.size≤w.heap.size;omega) _).setCell (p:=⟨w.heap.size,1,none⟩) (by show w.heap.size≤w.heap.size;omega) _⟩
theorem Ane(n:Int)(d:Nat)(hd:0<d):n / (d:Int)*(d:Int)≤n:=Int.ediv_mul_le n (by omega)
theorem Anf{n:Int}{d k:Nat}(hn:n.natAbs<10^k)(hd:0<d):(n / (d:Int)).natAbs<10^(k+1):=by
 have h1:(n / (d:Int)).natAbs≤n.natAbs:=by
  rcases Int.lt_or_le n 0 with h|h
  ·have a1:n / (d:Int)<0:=Int.ediv_neg_of_neg_of_pos h (by omega)
   have a2:n≤n / (d:Int):=by
    refine (Int.le_ediv_iff_mul_le (by omega)).2 ?_
    have:=Int.mul_le_mul_of_nonpos_left (a:=n) (b:=(d:Int)) (c:=1) (by omega) (by omega)
    omega
   omega
  ·have a1:0≤n / (d:Int):=Int.ediv_nonneg h (by omega)
   have a2:n / (d:Int)≤n:=Int.ediv_le_self _ h
   omega
 rw[Nat.pow_succ];omega
theorem rFloorQ{p:Rat}{k:Nat}(h:BdQ p k)(hk:k≤20000)(w:World):Calls Tryz.prog 160 #[fenc p] w fun e w'=>e=.returned (.string (I (p.num / (p.den:Int))))∧Below w.heap.size w w':=by
 have hdp:0<p.den:=p.den_pos
 have H1:=Aac (fun W=>rRawQ h (by omega) W)
 have H2:=fun W=>Ajb (I p.num) (I (p.den:Int)) (by have:=h.num;omega) (by have:=Aen (Am8 h);omega) (by rw[vl_I];omega) W
 rw[vl_I,vl_I] at H2
 have H2:=Aac H2
 have H3:=Aac (fun W=>rMulI (x:=p.num / (p.den:Int)) (y:=(p.den:Int)) (Anf h.1 hdp) (Am8 h) (by omega) (by omega) W)
 have hz1:(I (p.num / (p.den:Int)*(p.den:Int))).size≤1000000:=by
  have:=Aen (Aer (Anf h.1 hdp) (Am8 h));omega
 have H4:=fun W=>Ahh (I (p.num / (p.den:Int)*(p.den:Int))) (I p.num) hz1 (by have:=h.num;omega) W
 rw[vl_I,vl_I] at H4
 have H4:=Aac H4
 have t1:decide (0<cmpI (p.num / (p.den:Int)*(p.den:Int)) p.num)=false:=Aa4 (by rw[cmpI_gt];have:=Ane p.num p.den hdp;omega)
 obtain⟨W0,hW0⟩:∃W0,w.alloc (.cells #[.string (I p.num),.string (dn p)] 112)=W0:=⟨_,rfl⟩
 have hk0:W0.heap[w.heap.size]?=some (.cells #[.string (I p.num),.string (dn p)] 112):=by rw[←hW0];exact Aa5 w _
 have C0:Hid (Below w.heap.size w W0):=by rw[Hid,←hW0];exact (Below.refl _ w).alloc (Aad _) _
 have b0:=Aaa hk0 0
 have b1:=Aaa hk0 1
 simp at b0 b1
 unfold fenc at H1
 show Calls Tryz.prog 160 #[.agg #[.string (I p.num),.string (dn p)]] w _
 obtain⟨fl,hfl⟩:∃fl,p.num / (p.den:Int)=fl:=⟨_,rfl⟩
 rw[hfl] at H2 H3 H4 t1 ⊢
 clear h hk hdp hz1 hk0 hfl
 go_enter Tryz.func160,Tryz.ntmps160
 go_wp2_with fail
 try rw[hW0]
 refine (H1.out _).mono ?_
 rintro e w1 ⟨rfl,c1⟩
 have C1:=Aac (C0.out.trans (c1.mono C0.out.size))
 clear c1 C0 H1 b0 b1 hW0
 go_wp2_with fail
 refine (H2.out _).mono ?_
 rintro e w2 ⟨rfl,c2⟩
 have C2:=Aac (C1.out.trans (c2.mono C1.out.size))
 clear c2 C1 H2
 go_wp2_with fail
 refine (H3.out _).mono ?_
 rintro e w3 ⟨rfl,c3⟩
 have C3:=Aac (C2.out.trans (c3.mono C2.out.size))
 clear c3 C2 H3
 go_wp2_with fail
 refine (H4.out _).mono ?_
 rintro e w4 ⟨rfl,rfl⟩
 go_wp2_with fail
 go_ret
 exact⟨rfl,C3.out⟩
theorem Ang{p q:Rat}{k:Nat}(h:BdQ p k)(h':BdQ q k)(hk:k≤20000)(w:World):Calls Tryz.prog 163 #[fenc p,fenc q] w fun e w'=>e=.returned (.int .i64 (cmpI (p.num*(q.den:Int)) (q.num*(p.den:Int))))∧Below w.heap.size w w':=by
 have H1:=Aac (fun W=>rRawQ h (by omega) W)
 have H2:=Aac (fun W=>rRawQ h' (by omega) W)
 have H3:=Aac (fun W=>rMulI (x:=p.num) (y:=(q.den:Int)) h.1 (Am8 h') (by omega) (by omega) W)
 have H4:=Aac (fun W=>rMulI (x:=q.num) (y:=(p.den:Int)) h'.1 (Am8 h) (by omega) (by omega) W)
 have H5:=fun W=>Ahh (I (p.num*(q.den:Int))) (I (q.num*(p.den:Int))) (by have:=Aen (Aer h.1 (Am8 h'));omega) (by have:=Aen (Aer h'.1 (Am8 h));omega) W
 rw[vl_I,vl_I] at H5
 have H5:=Aac H5
 clear h h' hk
 obtain⟨W0,hW0,hb0,hs0,k0,k1⟩:=box2 w (.cells #[.string (I p.num),.string (dn p)] 112) (.cells #[.string (I q.num),.string (dn q)] 112)
 have a0:=Aaa k0 0
 have a1:=Aaa k0 1
 have b0:=Aaa k1 0
 have b1:=Aaa k1 1
 simp at a0 a1 b0 b1
 have HB:=Aac hb0
 clear hb0 k0 k1 hs0
 unfold fenc at H1 H2
 show Calls Tryz.prog 163 #[.agg #[.string (I p.num),.string (dn p)],.agg #[.string (I q.num),.string (dn q)]] w _
 go_enter Tryz.func163,Tryz.ntmps163
 go_wp2_with fail
 try rw[←hW0]
 refine (H1.out _).mono ?_
 rintro e w1 ⟨rfl,c1⟩
 have e0:=(c1.cell (Afv b0)).trans b0
 have e1:=(c1.cell (Afv b1)).trans b1
 have C1:=Aac (HB.out.trans (c1.mono HB.out.size))
 clear c1 a0 a1 b0 b1 HB H1 hW0
 go_wp2_with fail
 refine (H2.out _).mono ?_
 rintro e w2 ⟨rfl,c2⟩
 have C2:=Aac (C1.out.trans (c2.mono C1.out.size))
 clear c2 e0 e1 C1 H2
 go_wp2_with fail
 refine (H3.out _).mono ?_
 rintro e w3 ⟨rfl,c3⟩
 have C3:=Aac (C2.out.trans (c3.mono C2.out.size))
 clear c3 C2 H3
 go_wp2_with fail
 refine (H4.out _).mono ?_
 rintro e w4 ⟨rfl,c4⟩
 have C4:=Aac (C3.out.trans (c4.mono C3.out.size))
 clear c4 C3 H4
 go_wp2_with fail
 refine (H5.out _).mono ?_
 rintro e w5 ⟨rfl,rfl⟩
 go_wp2_with fail
 go_ret
 exact⟨rfl,C4.out⟩
theorem Anh{z:Int}(h:z≠0):∃m,(I z).size=m+1∧(byt (I z) m).toNat=48+z.natAbs % 10:=by
 have hp:0<z.natAbs:=by omega
 have hd:=Ab2 hp
 have hl:(I z).data.toList=can z:=by unfold I;exact Aei _
 have hs:(I z).size=(can z).length:=by rw[Lib.size_eq,hl]
 have hc:∃pre,can z=pre++[dchar (z.natAbs % 10)]:=by
  unfold can
  split
  ·exact⟨45::digits (z.natAbs / 10),by rw[hd];rfl⟩
  ·exact⟨_,hd⟩
 obtain⟨pre,hpre⟩:=hc
 refine⟨pre.length,by rw[hs,hpre];simp,?_⟩
 unfold byt
 rw[hl,hpre,Aau,Aa1 (Aad _)]
 simp
 exact Ab5 (Nat.mod_lt _ (by omega))
theorem Ani(z:Int):(z % 2=0)↔(z.natAbs % 10 % 2=0):=by omega
theorem Anj(z:Int)(hz:(I z).size≤1000000)(w:World):Calls Tryz.prog 164 #[.string (I z)] w fun e w'=>e=.returned (.bool (decide (z % 2=0)))∧w=w':=by
 have H1:=fun W=>Ag5 (I z) hz W
 rw[vl_I] at H1
 have H1:=Aac H1
 by_cases h0:z=0
 ·subst h0
  have q6:((I 0).toList==[])=true:=by rw[Ajd];rfl
  clear hz
  go_enter Tryz.func164,Tryz.ntmps164
  go_wp2_with fail
  refine (H1.out _).mono ?_
  rintro e w1 ⟨rfl,rfl⟩
  go_wp2_with fail
  go_ret
  exact⟨rfl,rfl⟩
 ·obtain⟨m,hm,hb⟩:=Anh h0
  have q6:((I z).toList==[])=false:=by rw[Ajd];exact Aa4 h0
  have he:=Ani z
  obtain⟨d,hd⟩:∃d,z.natAbs % 10=d:=⟨_,rfl⟩
  have hd10:d<10:=by omega
  rw[hd] at hb he
  have HE:=Aac he
  obtain⟨s,hs⟩:∃s,I z=s:=⟨_,rfl⟩
  rw[hs] at hm hb q6 H1 hz ⊢
  have hlt:m<s.size:=by omega
  have hg:(s[m]'hlt).toNat=48+d:=by rw[Aev];exact hb
  clear h0 hd he hb hs
  by_cases h2:d % 2=0
  ·have HR:Hid (decide (z % 2=0)=true):=Aa3 (HE.out.2 h2)
   have t1:((48+(d:Int)-48) % 2==0)=true:=by rw[beq_iff_eq];omega
   clear h2
   go_enter Tryz.func164,Tryz.ntmps164
   go_wp2_with fail
   refine (H1.out _).mono ?_
   rintro e w1 ⟨rfl,rfl⟩
   go_wp2_with fail
   go_ret
   exact⟨by rw[HR.out];rfl,rfl⟩
  ·have HR:Hid (decide (z % 2=0)=false):=Aa4 (fun e=>h2 (HE.out.1 e))
   have t1:((48+(d:Int)-48) % 2==0)=false:=by rw[Aaj];omega
   clear h2
   go_enter Tryz.func164,Tryz.ntmps164
   go_wp2_with fail
   refine (H1.out _).mono ?_
   rintro e w1 ⟨rfl,rfl⟩
   go_wp2_with fail
   go_ret
   exact⟨by rw[HR.out];rfl,rfl⟩
theorem rest_eq(p:Rat):p-((p.num / (p.den:Int):Int):Rat)=Rat.divInt (p.num % (p.den:Int)) (p.den:Int):=by
 have hd:(p.den:Int)≠0:=by have:=p.den_pos;omega
 rw[show p-((p.num / (p.den:Int):Int):Rat)=Rat.divInt p.num (p.den:Int)-Rat.divInt (p.num / (p.den:Int)) 1 from by rw[of_eq,←Amp p]]
 rw[Rat.divInt_sub_divInt _ _ hd (by omega)]
 congr 1
 ·have:=Int.emod_add_mul_ediv p.num (p.den:Int)
  rw[Int.mul_one]
  generalize p.num / (p.den:Int)=x at *
  rw[Int.mul_comm x]
  omega
 ·omega
theorem Ank(p:Rat):(p-((p.num / (p.den:Int):Int):Rat)).num=p.num % (p.den:Int)∧(p-((p.num / (p.den:Int):Int):Rat)).den=p.den:=by
 have hd:0<(p.den:Int):=by have:=p.den_pos;omega
 have hg:Int.gcd (p.num % (p.den:Int)) (p.den:Int)=1:=by
  obtain⟨g,hgd⟩:∃g,Int.gcd (p.num % (p.den:Int)) (p.den:Int)=g:=⟨_,rfl⟩
  have h1:(g:Int)∣p.num % (p.den:Int):=by rw[←hgd];exact Int.gcd_dvd_left ..
  have h2:(g:Int)∣(p.den:Int):=by rw[←hgd];exact Int.gcd_dvd_right ..
  have h3:(g:Int)∣p.num:=by
   rw[←Int.emod_add_mul_ediv p.num (p.den:Int)]
   exact Int.dvd_add h1 (Int.dvd_trans h2 (Int.dvd_mul_right _ _))
  have h4:g∣p.num.natAbs:=Int.ofNat_dvd_left.1 h3
  have h5:g∣p.den:=Int.natCast_dvd_natCast.1 h2
  have h6:g∣1:=by
   have:=Nat.dvd_gcd h4 h5
   rwa [show Nat.gcd p.num.natAbs p.den=1 from p.reduced] at this
  rw[hgd]
  exact Nat.dvd_one.1 h6
 rw[rest_eq]
 have e1:=Aif (a:=p.num % (p.den:Int)) hd
 have e2:=Aig (a:=p.num % (p.den:Int)) hd
 rw[hg,Aie (by omega)] at e1 e2
 constructor
 ·rw[←e1];simp
 ·have:((Rat.divInt (p.num % (p.den:Int)) (p.den:Int)).den:Int)=(p.den:Int):=by rw[←e2];simp
  omega
theorem Anm(p:Rat):rnd p=if (p.den:Int)<2*(p.num % (p.den:Int))∨((p.den:Int)=2*(p.num % (p.den:Int))∧p.num / (p.den:Int) % 2≠0) then p.num / (p.den:Int)+1 else p.num / (p.den:Int):=rfl
def BX(w:World)(l:List (Nat×Obj))(W:World):Prop:=Below w.heap.size w W∧∀x,x∈l→W.heap[x.1]?=some x.2
theorem BX.below{w:World}{l:List (Nat×Obj)}{W W':World}(h:BX w l W)(hb:Below W.heap.size W W'):BX w l W' :=
 ⟨h.1.trans (hb.mono h.1.size),fun x hx=>(hb.block _ (Aab.1 (h.2 x hx)).1).trans (h.2 x hx)⟩
theorem BX.push{w:World}{l:List (Nat×Obj)}{W:World}(h:BX w l W)(o:Obj):BX w ((W.heap.size,o)::l) (W.alloc o):=by
 have h2:=h.below ((Below.refl _ W).alloc (Aad _) o)
 refine⟨h2.1,fun x hx=>?_⟩
 rcases List.mem_cons.1 hx with rfl|hx
 ·exact Aa5 W o
 ·exact h2.2 x hx
theorem BX.get{w:World}{l:List (Nat×Obj)}{W:World}(h:BX w l W)(k:Nat){b:Nat}{o:Obj}(hk:l[k]?=some (b,o)):W.heap[b]?=some o:=h.2 _ (Aas hk)
theorem BX.lt{w:World}{l:List (Nat×Obj)}{W:World}(h:BX w l W)(k:Nat){b:Nat}{o:Obj}(hk:l[k]?=some (b,o)):b<W.heap.size:=(Aab.1 (h.get k hk)).1
abbrev fobj(q:Rat):Obj:=.cells #[.string (I q.num),.string (dn q)] 112 (0,0)
theorem BX.set2{w:World}{l:List (Nat×Obj)}{W:World}{B:Nat}{a b:Value}{t:TypeId}{m:Nat×Nat}(h:BX w l W)(hB:w.heap.size≤B)(hk:W.heap[B]?=some (.cells #[a,b] t m))(hn:∀x,x∈l→x.1≠B)(x y:Value):
 BX w ((B,.cells #[x,y] t m)::l) ((W.setCell ⟨B,0,none⟩ x).setCell ⟨B,1,none⟩ y):=by
 refine⟨Ai7 hB h.1 _ _,fun z hz=>?_⟩
 rcases List.mem_cons.1 hz with rfl|hz
 ·exact Go.Proofs.YtcmgmemffncbhabGreatDoor.set2 hk _ _
 ·exact (Ai6 (hn z hz) _ _).trans (h.2 z hz)
abbrev RP(w:World)(p:Rat)(W:World):Prop:=BX w [(w.heap.size,fobj p)] W
theorem RP.two{w:World}{p:Rat}{W:World}(h:RP w p W):W.cell? ⟨w.heap.size,0,none⟩=some (.string (I p.num))∧W.cell? ⟨w.heap.size,1,none⟩=some (.string (dn p)) :=
 ⟨Aaa (h.get 0 rfl) 0,Aaa (h.get 0 rfl) 1⟩
theorem RP.calls{w:World}{p:Rat}{f:Nat}{args:Array Value}{v:Value}(h:∀W,Calls Tryz.prog f args W fun e w'=>e=.returned v∧Below W.heap.size W w'):
 ∀W,RP w p W→Calls Tryz.prog f args W fun e wn=>e=.returned v∧RP w p wn∧Below W.heap.size W wn∧wn.cell? ⟨w.heap.size,0,none⟩=some (.string (I p.num))∧wn.cell? ⟨w.heap.size,1,none⟩=some (.string (dn p)):=by
 intro W hW
 refine (h W).mono ?_
 rintro e wn ⟨rfl,bn⟩
 have:=hW.below bn
 exact⟨rfl,this,bn,RP.two this⟩
theorem half_num:(Rat.divInt 1 2).num=1∧(Rat.divInt 1 2).den=2:=by constructor<;>kernel_rfl
theorem zero_nd:((0:Int):Rat).num=0∧((0:Int):Rat).den=1:=⟨rfl,rfl⟩
theorem Ann{p:Rat}{k:Nat}(h:BdQ p k)(hk1:1≤k)(hk:k≤9000)(w:World):Calls Tryz.prog 134 #[fenc p,.int .i64 1] w fun e w'=>e=.returned (.string (I (rnd p)))∧Below w.heap.size w w':=by
 have hdp:0<p.den:=p.den_pos
 obtain⟨r1,r2⟩:=Ank p
 have hfb:=Anf h.1 hdp
 have H1:=fun W=>rFloorQ h (by omega) W
 have H2:=fun W=>Am9 (I (p.num / (p.den:Int))) (by have:=Aen hfb;omega) W
 rw[vl_I] at H2
 have H3:=fun W=>rfSubQ (h.mono (show k≤k+1 by omega)) (BdQ.int hfb (by omega)) (by omega) W
 have H4:=Aac (fun W=>Am9 ⟨#[]⟩ (by show 0≤_;omega) W)
 rw[show vl (⟨#[]⟩:ByteArray)=0 from by rw[zero_eq,vl_I]] at H4
 have hrem:p.num % (p.den:Int)<(p.den:Int)∧0≤p.num % (p.den:Int):=⟨Int.emod_lt_of_pos _ (by omega),Int.emod_nonneg _ (by omega)⟩
 have hrb:BdQ (p-((p.num / (p.den:Int):Int):Rat)) k:=by
  refine⟨?_,?_⟩
  ·rw[r1];have:=h.2;omega
  ·rw[r2];exact h.2
 have hzb:BdQ ((0:Int):Rat) k:=BdQ.zero hk1
 have hhb:BdQ (Rat.divInt 1 2) k:=by
  have:10^1≤10^k:=Nat.pow_le_pow_right (by omega) hk1
  refine⟨?_,?_⟩
  ·rw[half_num.1];show 1<_;omega
  ·rw[half_num.2];omega
 have H5:=fun W=>Ang hrb hzb (by omega) W
 have H6:=fun W=>rAddI (x:=p.num / (p.den:Int)) (y:=1) (a:=k+1) hfb (by show 1<_;exact Aah (show 1<10^1 by omega) (Nat.pow_le_pow_right (by omega) (by omega))) (by omega) W
 have H7:=Aac (fun W=>Anc (x:=1) (y:=2) (a:=1) (by decide) (by decide) (by omega) (by omega) W)
 have H8:=fun W=>Ang hrb hhb (by omega) W
 have H9:=fun W=>Ang h hzb (by omega) W
 have H10:=Aac (fun W=>Anj (p.num / (p.den:Int)) (by have:=Aen hfb;omega) W)
 have HR:=Aac (Anm p)
 rw[r1,r2,zero_nd.1,zero_nd.2] at H5
 rw[r1,r2,half_num.1,half_num.2] at H8
 obtain⟨fl,hfl⟩:∃fl,p.num / (p.den:Int)=fl:=⟨_,rfl⟩
 obtain⟨re,hre⟩:∃re,p.num % (p.den:Int)=re:=⟨_,rfl⟩
 obtain⟨de,hde⟩:∃de:Int,(p.den:Int)=de:=⟨_,rfl⟩
 rw[hfl] at H1 H2 H3 H5 H6 H8 H10 HR
 rw[hre] at H5 H8 HR hrem
 rw[hde] at H5 H8 HR hrem
 rw[show cmpI (re*((1:Nat):Int)) (0*de)=cmpI re 0 from by rw[Int.zero_mul];simp] at H5
 rw[show cmpI (re*((2:Nat):Int)) (1*de)=cmpI (re*2) de from by rw[Int.one_mul];rfl] at H8
 obtain⟨rr,hrr⟩:∃rr:Rat,p-((fl:Int):Rat)=rr:=⟨_,rfl⟩
 obtain⟨rf,hrf⟩:∃rf:Rat,((fl:Int):Rat)=rf:=⟨_,rfl⟩
 obtain⟨rz,hrz⟩:∃rz:Rat,((0:Int):Rat)=rz:=⟨_,rfl⟩
 obtain⟨rh,hrh⟩:∃rh:Rat,Rat.divInt 1 2=rh:=⟨_,rfl⟩
 rw[hrr] at H3 H5 H8
 rw[hrf] at H2 H3
 rw[hrz] at H4 H5 H9
 rw[hrh] at H7 H8
 unfold fenc at H1 H2 H3 H4 H5 H7 H8 H9 ⊢
 have HC1:=Aac (RP.calls (w:=w) (p:=p) H1)
 have HC2:=Aac (RP.calls (w:=w) (p:=p) H2)
 have HC3:=Aac (RP.calls (w:=w) (p:=p) H3)
 replace H5:=Aac H5
 replace H6:=Aac H6
 replace H8:=Aac H8
 replace H9:=Aac H9
 have HRE:=Aac hrem
 have hg:RP w p (w.alloc (fobj p)):=⟨(Below.refl _ w).alloc (Aad _) _,fun x hx=>by
  rcases List.mem_cons.1 hx with rfl|hx
  ·exact Aa5 w _
  ·cases hx⟩
 obtain⟨W0,hW0⟩:∃W0,w.alloc (fobj p)=W0:=⟨_,rfl⟩
 rw[hW0] at hg
 obtain⟨a0,a1⟩:=RP.two hg
 generalize cmpI (p.num*((rz.den:Nat):Int)) (rz.num*((p.den:Nat):Int))=cneg at H9
 clear h hk1 hk hdp r1 r2 hfb H1 H2 H3 hrb hzb hhb hfl hre hde hrr hrf hrz hrh hrem
 go_enter Tryz.func134,Tryz.ntmps134
 go_wp2_with fail
 refine (HC1.out _ hg).mono ?_
 clear hg a0 a1
 rintro e w1 ⟨rfl,hg,_,a0,a1⟩
 go_wp2_with fail
 go_cut [6] (fun v6 wx=>∃(B:Nat) (wr:World),v6=.pointer (some ⟨B,0,none⟩)∧w.heap.size<B∧BX w [(B,fobj rr),(w.heap.size,fobj p)] wr∧wr=wx)
 case first =>
  have ne1:w1.heap.size≠w.heap.size:=by have:=hg.lt 0 rfl;omega
  have lt1:w.heap.size<w1.heap.size:=hg.lt 0 rfl
  replace hg:RP w p w1.drew:=hg.below (Below.refl _ _).drew
  go_region_held3 (fun W=>W.cell? ⟨w.heap.size,0,none⟩=some (.string (I p.num))∧W.cell? ⟨w.heap.size,1,none⟩=some (.string (dn p)))
   (((try dsimp only);refine⟨?_,?_⟩<;>first|assumption|(simp[*,World.cell?_alloc_some,World.cell?_setCell_far];done)|(go_simp;done)))
   (first
     | (go_at_call_of 162 [Value.string (I fl)];refine (HC2.out _ ?_).mono ?_;(first|exact hg|exact hg.below ((Below.refl _ _).alloc (Aad _) _));clear hg a0 a1;rintro e wn ⟨rfl,hg,bn,a0,a1⟩;have ne1:wn.heap.size≠w.heap.size:=(by have:=hg.lt 0 rfl;omega);have lt1:w.heap.size<wn.heap.size:=hg.lt 0 rfl;(first|(have nb:=(bn.block _ (Aab.1 nb).1).trans nb;have n0:=Aaa nb 0;have n1:=Aaa nb 1;have n2:=Aaf nb 0;have n3:=Aaf nb 1;simp at n0 n1 n2 n3)|(have nb:=(bn.block _ (by simp)).trans (Aa5 _ _);have n0:=Aaa nb 0;have n1:=Aaa nb 1;have n2:=Aaf nb 0;have n3:=Aaf nb 1;simp at n0 n1 n2 n3)|skip);clear bn)
     | (go_at_call_of 161 [Value.agg #[Value.string (I p.num),Value.string (dn p)],Value.agg #[Value.string (I rf.num),Value.string (dn rf)]];refine (HC3.out _ ?_).mono ?_;(first|exact hg|exact hg.below ((Below.refl _ _).alloc (Aad _) _));clear hg a0 a1;rintro e wn ⟨rfl,hg,bn,a0,a1⟩;have ne1:wn.heap.size≠w.heap.size:=(by have:=hg.lt 0 rfl;omega);have lt1:w.heap.size<wn.heap.size:=hg.lt 0 rfl;(first|(have nb:=(bn.block _ (Aab.1 nb).1).trans nb;have n0:=Aaa nb 0;have n1:=Aaa nb 1;have n2:=Aaf nb 0;have n3:=Aaf nb 1;simp at n0 n1 n2 n3)|(have nb:=(bn.block _ (by simp)).trans (Aa5 _ _);have n0:=Aaa nb 0;have n1:=Aaa nb 1;have n2:=Aaf nb 0;have n3:=Aaf nb 1;simp at n0 n1 n2 n3)|skip);clear bn))
  all_goals (first|go_wp2_with fail|skip)
  all_goals go_meet
  all_goals first
   | exact⟨_,_,rfl,lt1,hg.push _,rfl⟩
   | (refine⟨_,_,rfl,?_,hg.set2 ?_ nb ?_ _ _,rfl⟩<;>first|assumption|omega|(intro x hx;simp at hx;rcases hx with rfl;simp;omega)|(simp;omega))
 case rest =>
  obtain⟨B,wr,rfl,hBB,hg,rfl⟩:=hcut
  clear a0 a1 HC1 HC2 HC3 hW0
  go_wp2_with fail
  refine (H4.out _).mono ?_
  rintro e w3 ⟨rfl,b3⟩
  replace hg:=hg.below b3
  clear b3 H4
  have HG:=Aac hg
  clear hg
  go_upto_region 4 with fail
  have hg:=HG.out.push (fobj rz)
  generalize w3.heap.size=B3 at hg ⊢
  generalize w3.alloc (fobj rz)=W4 at hg ⊢
  have z0:=Aaa (hg.get 0 rfl) 0
  have z1:=Aaa (hg.get 0 rfl) 1
  have r0:=Aaa (hg.get 1 rfl) 0
  have r1:=Aaa (hg.get 1 rfl) 1
  simp at z0 z1 r0 r1
  replace HG:=Aac hg
  clear hg
  go_wp2_with fail
  refine (H5.out _).mono ?_
  rintro e w5 ⟨rfl,b5⟩
  replace HG:=Aac (HG.out.below b5)
  clear b5 z0 z1 r0 r1 H5
  by_cases h0:re=0
  ·have t0:(cmpI re 0==0)=true:=beq_iff_eq.2 (cmpI_eq.2 h0)
   have HZ:=Aac h0
   clear h0
   go_wp2_with fail
   go_ret
   refine⟨?_,HG.out.1⟩
   rw[HR.out,if_neg (by have:=HZ.out;have:=HRE.out;omega)]
   rfl
  have t0:(cmpI re 0==0)=false:=Aaj.2 (fun e=>h0 (cmpI_eq.1 e))
  clear h0
  go_wp2_with fail
  refine (H6.out _).mono ?_
  rintro e w6 ⟨rfl,b6⟩
  replace HG:=Aac (HG.out.below b6)
  clear b6 H6 t0
  go_wp2_with fail
  refine (H7.out _).mono ?_
  rintro e w7 ⟨rfl,b7⟩
  replace HG:=Aac (HG.out.below b7)
  clear b7 H7
  go_upto_region 8 with fail
  have hg:=HG.out.push (fobj rh)
  generalize w7.heap.size=B7 at hg ⊢
  generalize w7.alloc (fobj rh)=W8 at hg ⊢
  have h0:=Aaa (hg.get 0 rfl) 0
  have h1:=Aaa (hg.get 0 rfl) 1
  have r0:=Aaa (hg.get 2 rfl) 0
  have r1:=Aaa (hg.get 2 rfl) 1
  simp at h0 h1 r0 r1
  replace HG:=Aac hg
  clear hg
  go_wp2_with fail
  refine (H8.out _).mono ?_
  rintro e w8 ⟨rfl,b8⟩
  replace HG:=Aac (HG.out.below b8)
  clear b8 H8 h0 h1 r0 r1
  have z0:=Aaa (HG.out.get 1 rfl) 0
  have z1:=Aaa (HG.out.get 1 rfl) 1
  have a0:=Aaa (HG.out.get 3 rfl) 0
  have a1:=Aaa (HG.out.get 3 rfl) 1
  simp at z0 z1 a0 a1
  go_wp2_with fail
  refine (H9.out _).mono ?_
  rintro e w9 ⟨rfl,b9⟩
  replace HG:=Aac (HG.out.below b9)
  clear b9 H9 z0 z1 a0 a1
  obtain⟨c,hc⟩:∃c,cmpI (re*2) de=c:=⟨_,rfl⟩
  rw[hc]
  have HC:=Aac hc
  clear hc
  rcases Int.lt_trichotomy c 0 with hl|hl|hl
  ·have t1:decide (0<c)=false:=Aa4 (by omega)
   have t2:(c==0)=false:=Aaj.2 (by omega)
   have HL:Hid (re*2<de):=cmpI_lt.1 (by rw[HC.out];exact hl)
   clear hl
   go_wp2_with fail
   go_ret
   refine⟨?_,HG.out.1⟩
   rw[HR.out,if_neg (by have:=HL.out;omega)]
   rfl
  ·have t1:decide (0<c)=false:=Aa4 (by omega)
   have t2:(c==0)=true:=beq_iff_eq.2 hl
   have HL:Hid (re*2=de):=cmpI_eq.1 (by rw[HC.out];exact hl)
   clear hl
   go_wp2_with fail
   refine (H10.out _).mono ?_
   rintro e w10 ⟨rfl,rfl⟩
   by_cases he:fl % 2=0
   ·rw[Aa3 he]
    have HE:=Aac he
    clear he
    go_wp2_with fail
    go_ret
    refine⟨?_,HG.out.1⟩
    rw[HR.out,if_neg (by have:=HL.out;have:=HE.out;omega)]
    rfl
   ·rw[Aa4 he]
    have HE:=Aac he
    clear he
    go_wp2_with fail
    go_ret
    refine⟨?_,HG.out.1⟩
    rw[HR.out,if_pos (.inr ⟨by have:=HL.out;omega,HE.out⟩)]
    rfl
  ·have t1:decide (0<c)=true:=Aa3 hl
   have HL:Hid (de<re*2):=cmpI_gt.1 (by rw[HC.out];exact hl)
   clear hl
   go_wp2_with fail
   go_ret
   refine⟨?_,HG.out.1⟩
   rw[HR.out,if_pos (.inl (by have:=HL.out;omega))]
   rfl
theorem Anp(A:Option Addr)(ls:List Lot)(c:Nat)(hcap:ls.length≤c)(hlm:ls.length≤9223372036854775807)(hti:∀l∈ls,l.tiny)(w:World)(hR:RdL w A ls):
 Calls Tryz.prog 52 #[.slice A ls.length c] w fun e w'=>e=.returned (.int .i64 (lall ls))∧Below w.heap.size w w':=by
 have HR:=hI hR
 have HTI:=hI hti
 clear hR hti
 by_cases hgr:1000<ls.length
 ·have t0:decide ((1000:Int)<(ls.length:Int))=true:=Aa3 (by omega)
  have HG:=hI (Amv hgr)
  clear hgr
  go_enter Tryz.func52,Tryz.ntmps52
  go_wp2_with fail
  go_ret
  exact⟨by rw[HG.out];rfl,Below.refl _ _⟩
 have hlen:ls.length≤1000:=by omega
 have t0:decide ((1000:Int)<(ls.length:Int))=false:=Aa4 (by omega)
 clear hgr
 go_enter Tryz.func52,Tryz.ntmps52
 go_wp2_with fail
 go_loopw [3,4,5,6,24] (fun v _ _ _ _ wr=>∃k:Nat,v=.int .i64 (k:Int)∧k≤ls.length∧lallF (ls.take k) (ls.drop k)=lall ls∧Below w.heap.size w wr) (fun v _ _ _ _ _=>ls.length-(intOf v).toNat)
 case atStart=>exact⟨0,rfl,by omega,Amt hlen,Below.refl _ _⟩
 case round =>
  obtain⟨k,rfl,hk,hg,hb⟩:=hrel
  have HG:=hI hg
  have HB:=hI hb
  clear hg hb
  rcases Aam k ls.length with hlt|hge
  ·obtain⟨l,hl⟩:∃l,ls[k]?=some l:=⟨_,Aae hlt⟩
   have HR2:=hI HR.out
   obtain⟨ad,rfl,had,hcell⟩:=HR.out (by intro e;rw[e] at hlt;cases hlt)
   have hcx:decide ((k:Int)<(ls.length:Int))=true:=by simp;omega
   have HCE:=hI (hcell k l hl)
   have HAD:=hI had
   obtain⟨c0,c1,c2,c3,c4,c5,c6⟩:=(hcell k l hl).below HB.out (by rw[Acv];exact had)
   have HSN:=hI (Amq hl)
   have hlt1:=HTI.out l (Aas hl)
   have HAT:=hI (Ams hlen HG.out hl)
   have HC:=hI (fun W=>Amn l hlt1 W)
   clear hcell hl hlt1 had
   go_wp2_with fail
   refine (HC.out _).mono ?_
   rintro e w1 ⟨rfl,b1⟩
   obtain⟨n,hn⟩:∃n,lchk l=n:=⟨_,rfl⟩
   rw[hn]
   rw[hn] at HAT
   have HB1:=hI (HB.out.trans (b1.mono HB.out.size))
   clear b1 c0 c1 c2 c3 c4 c5 c6
   by_cases h0:n=0
   case neg =>
    have t1:(n==0)=false:=Aaj.2 h0
    have t2:(n != 0)=true:=by simp[bne,t1]
    have H0:=hI h0
    clear h0 hn
    go_wp2_with fail
    go_ret
    exact⟨by rw[HAT.out.1 H0.out];rfl,HB1.out⟩
   clear hn
   subst h0
   obtain⟨c0,c1,c2,c3,c4,c5,c6⟩:=HCE.out.below HB1.out (by rw[Acv];exact HAD.out)
   have HF:=hI (fun n=>Ain (Ak6 (some ad) ls k c (by omega) (by omega) l.id (w1.drewN n) ((HR2.out.below HB1.out).drewN n)))
   have HFF:=hI (findR_false (ls.take k) l.id 0)
   have HFT:=hI (fun (h:∀x∈ls.take k,x.id≠l.id)=>congrArg Prod.snd (Ak4 h 0))
   clear HC
   go_wp2_with fail
   generalize findR (ls.take k) l.id 0=fr at HF HFF HFT
   obtain⟨fn,fb⟩:=fr
   go_quiet ((go_at_call 28;exact HF.out _))
   cases fb
   ·have HNE:=hI (HFF.out rfl)
    go_wp2_with fail
    go_roundw
    case rel =>
     exact⟨k+1,by go_num,by omega,HAT.out.2.2 (by trivial) (fun h=>by obtain⟨x,hx,e⟩:=List.mem_map.1 h;exact HNE.out x hx e),Acz HB1.out _⟩
    case measure=>simp[intOf];omega
   ·go_wp2_with fail
    go_ret
    refine⟨?_,Acz HB1.out _⟩
    rw[HAT.out.2.1 (by trivial) (Classical.byContradiction (fun hn=>by
     have:=HFT.out (fun x hx e=>hn (List.mem_map.2 ⟨x,hx,e⟩))
     cases this))]
    rfl
  ·have hcx:decide ((k:Int)<(ls.length:Int))=false:=by simp;omega
   have hkm:k=ls.length:=by omega
   subst hkm
   go_wp2_with fail
   go_ret
   exact⟨by rw[Amu HG.out];rfl,HB.out⟩
end Go.Proofs.YtcmgmemffncbhabGreatDoor
