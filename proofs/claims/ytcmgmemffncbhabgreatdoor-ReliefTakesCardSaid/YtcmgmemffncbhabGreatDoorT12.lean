/-
  The walks of trancheref01.digits,Canonical,Check.
-/
import Derived.Test.YtcmgmemffncbhabGreatDoorT04
import Derived.Deep.DeepCutAuto
import Derived.BigQuiet
set_option linter.unusedVariables false
set_option linter.unusedSimpArgs false
set_option maxHeartbeats 16000000
set_option maxRecDepth 100000
namespace Go.Proofs.YtcmgmemffncbhabGreatDoor
open Go.RowKit Tr
theorem Agy(t:ByteArray)(i:Nat):t.extract i t.size=bs (t.data.toList.drop i):=by
 apply ByteArray.ext
 apply Array.ext'
 rw[Lib.extract_data]
 simp only[bs]
 rw[Aai (by rw[List.length_drop,←Lib.size_eq];exact Aad _)]
theorem Agz{L:List UInt8}(h:L.getD 0 0=45):signOf L=(true,L.drop 1):=by
 cases L with
 | nil=>simp at h
 | cons c t=>simp at h;simp[signOf,h]
theorem Ag0{L:List UInt8}(h:L.getD 0 0≠45):signOf L=(false,L):=by
 cases L with
 | nil=>rfl
 | cons c t=>simp at h;simp[signOf,h]
theorem Ag1{z:Int}{n:Nat}{nb:Bool}(h:z=if nb=true then -(n:Int) else (n:Int))(hp:0<n):z.natAbs=n∧decide (z<0)=nb:=by
 subst h;cases nb<;>simp<;>omega
def strLen:Value→Nat|.string s=>s.size|_=>0
theorem Ag2{l:List UInt8}(h0:0<l.length)(h:l.getD 0 0=48):strip l=strip (l.drop 1):=by
 cases l with
 | nil=>simp at h0
 | cons c t=>simp at h;subst h;simp[strip]
theorem Ag3{u:ByteArray}(h:byt u 0≠48):strip u.data.toList=u.data.toList:=by
 unfold byt at h
 cases hu:u.data.toList with
 | nil=>rfl
 | cons c t=>rw[hu] at h;simp at h;simp[strip,h]
theorem Ag4(a:ByteArray)(ha:a.size≤1000000)(w:World):
 Calls Tryz.prog 74 #[.string a] w fun e w'=>e=.returned (.tuple #[.string (bs (digits (vl a).natAbs)),.bool (decide (vl a<0))])∧w=w':=by
 rcases Aaq a.size with h0|h0
 ·have hL:a.data.toList=[]:=Aag (by rw[←Lib.size_eq];exact h0)
  have hv:vl a=0:=by unfold vl;rw[hL];rfl
  have hz:a=bs []:=by rw[←bs_of a,hL]
  have HV:=Aac hv
  subst hz
  clear hv hL h0
  go_enter Tryz.func74,Tryz.ntmps74
  go_wp2_with fail
  refine wp_loop_rounds 1 ?_
  rw[rounds_succ]
  go_wp2_with fail
  refine wp_loop_rounds 1 ?_
  rw[rounds_succ]
  go_wp2_with fail
  go_ret2
  exact⟨by rw[HV.out];rfl,rfl⟩
 have hne:decide ((0:Int)<(a.size:Int))=true:=by simp;omega
 go_enter Tryz.func74,Tryz.ntmps74
 go_upto_if 16 with fail
 go_cut [4] (fun v4 wx=>∃(t:ByteArray),v4=.string t∧signOf a.data.toList=(((a[0].toNat:Int)==45),t.data.toList)∧t.size≤1000000∧w=wx)
 case first =>
  by_cases hm:byt a 0=45
  ·have h3:((a[0].toNat:Int)==45)=true:=by rw[Aev,hm];rfl
   have HM:=Aac hm
   clear hm
   go_wp2_with fail
   go_meet
   refine⟨_,rfl,?_,?_,rfl⟩
   ·rw[Agy,Aei];rw[h3];exact Agz HM.out
   ·rw[Agy,Aej,List.length_drop,←Lib.size_eq];omega
  ·have h3:((a[0].toNat:Int)==45)=false:=by
    rw[Aev,Aaj];intro e
    exact hm (UInt8.toNat.inj (by simpa using (show (byt a 0).toNat=45 from by omega)))
   have HM:=Aac hm
   clear hm
   go_wp2_with fail
   go_meet
   exact⟨_,rfl,by rw[h3];exact Ag0 HM.out,ha,rfl⟩
 case rest =>
  obtain⟨t,rfl,hsg,htz,rfl⟩:=hcut
  generalize ((a[0].toNat:Int)==45)=nb at hsg ⊢
  have HV:Hid (vl a=if t.data.toList.all Ab1 then (if nb then -(dval t.data.toList:Int) else (dval t.data.toList:Int)) else 0):=by
   show val _=_
   unfold val;rw[hsg]
  clear hsg hne h0 ha
  go_wp2_with fail
  go_loop [6] (fun v=>∃k:Nat,v=.int .i64 (k:Int)∧k≤t.size∧(t.data.toList.take k).all Ab1=true) (fun v=>t.size-(intOf v).toNat)
  case atStart=>exact⟨0,rfl,by omega,rfl⟩
  case round =>
   obtain⟨k,rfl,hk,hall⟩:=hrel
   have HA:=Aac hall
   clear hall
   rcases Aam k t.size with hlt|hge
   ·have hb:=(byt t k).toNat_lt
    have hg:t[k].toNat=(byt t k).toNat:=by rw[Aev]
    generalize hbb:(byt t k).toNat=bb at hb hg
    have HBB:=Aac hbb
    clear hbb
    rcases (show (48≤bb∧bb≤57)∨bb<48∨57<bb from by omega) with a1|a1|a1
    ·have c1:decide ((bb:Int)<48)=false:=Aa4 (by omega)
     have c2:decide (57<(bb:Int))=false:=Aa4 (by omega)
     have HD:Hid (Ab1 (byt t k)=true):=(Ab6 _).2 (by rw[HBB.out];exact a1)
     clear a1
     go_wp2_with fail
     go_round
     case rel=>exact⟨k+1,by go_num,by omega,Aew HA.out hlt HD.out⟩
     case measure=>simp[intOf];omega
    ·have c1:decide ((bb:Int)<48)=true:=Aa3 (by omega)
     have HD:Hid (Ab1 (byt t k)=false):=by
      rw[Hid,←Bool.not_eq_true,Ab6,HBB.out];omega
     clear a1
     go_wp2_with fail
     go_ret2
     refine⟨?_,rfl⟩
     rw[HV.out,if_neg (by rw[Aex hlt HD.out];simp)];rfl
    ·have c1:decide ((bb:Int)<48)=false:=Aa4 (by omega)
     have c2:decide (57<(bb:Int))=true:=Aa3 (by omega)
     have HD:Hid (Ab1 (byt t k)=false):=by
      rw[Hid,←Bool.not_eq_true,Ab6,HBB.out];omega
     clear a1
     go_wp2_with fail
     go_ret2
     refine⟨?_,rfl⟩
     rw[HV.out,if_neg (by rw[Aex hlt HD.out];simp)];rfl
   ·have hall:t.data.toList.all Ab1=true:=by
     have:=HA.out
     rwa [Aai (by rw[←Lib.size_eq];omega)] at this
    have HV2:Hid (vl a=if nb then -(dval t.data.toList:Int) else (dval t.data.toList:Int)):=by rw[Hid,HV.out,if_pos hall]
    have HD:=Aac (Ach _ hall)
    have hc:decide ((k:Int)<(t.size:Int))=false:=by simp;omega
    clear hall HA HV
    go_wp2_with fail
    go_loop [4] (fun v=>∃u:ByteArray,v=.string u∧u.size≤1000000∧strip u.data.toList=strip t.data.toList) (fun v=>strLen v)
    case atStart=>exact⟨t,rfl,htz,rfl⟩
    case round =>
     obtain⟨u,rfl,huz,hst⟩:=hrel
     have HS:=Aac hst
     clear hst
     rcases Aaq u.size with h0|h0
     ·have hL:u.data.toList=[]:=Aag (by rw[←Lib.size_eq];exact h0)
      obtain rfl:u=bs []:=by rw[←bs_of u,hL]
      have HZ:Hid (dval t.data.toList=0):=HD.out.2.2 HS.out.symm
      clear h0 hL
      go_wp2_with fail
      all_goals
       go_ret2
       refine⟨?_,rfl⟩
       rw[show vl a=0 from by rw[HV2.out,HZ.out];split<;>rfl];rfl
     ·have hne:decide ((0:Int)<(u.size:Int))=true:=by simp;omega
      by_cases hz:byt u 0=48
      ·have h3:((u[0].toNat:Int)==48)=true:=by rw[Aev,hz];rfl
       have HZ:=Aac hz
       clear hz
       go_wp2_with fail
       go_round
       case rel =>
        refine⟨_,rfl,?_,?_⟩
        ·rw[Agy,Aej,List.length_drop,←Lib.size_eq];omega
        ·rw[Agy,Aei,←HS.out];exact (Ag2 (by rw[←Lib.size_eq];exact h0) HZ.out).symm
       case measure=>simp only[strLen];rw[Agy,Aej,List.length_drop,←Lib.size_eq];omega
      ·have h3:((u[0].toNat:Int)==48)=false:=by
        rw[Aev,Aaj];intro e
        exact hz (UInt8.toNat.inj (by simpa using (show (byt u 0).toNat=48 from by omega)))
       have HE:Hid (u=bs (digits (dval t.data.toList))):=by
        rw[Hid,HD.out.1,←HS.out,Ag3 hz];rfl
       have HP:Hid (0<dval t.data.toList):=by
        rw[Hid,Nat.pos_iff_ne_zero];intro e
        have:=HD.out.2.1 e
        rw[←HS.out,Ag3 hz] at this
        have:=congrArg List.length this
        rw[←Lib.size_eq] at this;simp only[List.length_nil] at this;omega
       clear hz
       have HF:=Aac (Ag1 HV2.out HP.out)
       clear HV2
       cases nb
       all_goals
        go_wp2_with fail
        go_ret2
        refine⟨?_,rfl⟩
        have hf:=HF.out
        rw[hf.1,hf.2,←HE.out];rfl
theorem Ag5(a:ByteArray)(ha:a.size≤1000000)(w:World):
 Calls Tryz.prog 89 #[.string a] w fun e w'=>e=.returned (.string (I (vl a)))∧w=w':=by
 have hlen:(digits (vl a).natAbs).length≤a.size:=by rw[digits_length_le_iff];exact vl_lt a
 have hz:(bs (digits (vl a).natAbs)).size=(digits (vl a).natAbs).length:=Aej _
 have HD:=Aac (Ag4 a ha w)
 by_cases hn:vl a<0
 ·have hd:decide (vl a<0)=true:=by simpa using hn
  have HI:Hid (I (vl a)=bs ([45]++digits (vl a).natAbs)):=by rw[Hid,I,can,if_pos hn];rfl
  clear hn
  go_enter Tryz.func89,Tryz.ntmps89
  go_wp2_with fail
  refine HD.out.mono ?_
  rintro e w1 ⟨rfl,rfl⟩
  go_wp2_with fail
  go_ret
  exact⟨by rw[HI.out];rfl,rfl⟩
 ·have hd:decide (vl a<0)=false:=by simpa using hn
  have HI:Hid (I (vl a)=bs (digits (vl a).natAbs)):=by rw[Hid,I,can,if_neg hn]
  clear hn
  go_enter Tryz.func89,Tryz.ntmps89
  go_wp2_with fail
  refine HD.out.mono ?_
  rintro e w1 ⟨rfl,rfl⟩
  go_wp2_with fail
  go_ret
  exact⟨by rw[HI.out];rfl,rfl⟩
theorem Ag6(a:ByteArray)(ha:a.size≤1000000)(h:Can a)(w:World):
 Calls Tryz.prog 53 #[.string a] w fun e w'=>e=.returned (.int .i64 0)∧w=w':=by
 have HC:=Aac (Ag5 a ha w)
 unfold Can at h
 rw[h] at HC
 clear h
 go_enter Tryz.func53,Tryz.ntmps53
 go_wp2_with fail
 refine HC.out.mono ?_
 rintro e w1 ⟨rfl,rfl⟩
 go_wp2_with fail
 go_ret
 exact⟨rfl,rfl⟩
theorem Ag7(a:ByteArray)(ha:a.size≤1000000)(h:¬Can a)(w:World):
 Calls Tryz.prog 53 #[.string a] w fun e w'=>e=.returned (.int .i64 1)∧w=w':=by
 have HC:=Aac (Ag5 a ha w)
 unfold Can at h
 have hq:=Aes h
 clear h
 go_enter Tryz.func53,Tryz.ntmps53
 go_wp2_with fail
 refine HC.out.mono ?_
 rintro e w1 ⟨rfl,rfl⟩
 go_wp2_with fail
 go_ret
 exact⟨rfl,rfl⟩
theorem Ag8{ds:List UInt8}{k:Nat}(h:k<ds.length):dval (ds.take (k+1))=10*dval (ds.take k)+((byt (bs ds) k).toNat-48):=by
 rw[List.take_succ_eq_append_getElem h,Ab9]
 unfold byt
 rw[Aei,Aau,Aae h,Option.getD_some]
theorem Ag9{ds:List UInt8}(hd:ds.all Ab1=true){k:Nat}(h:k<ds.length):48≤(byt (bs ds) k).toNat∧(byt (bs ds) k).toNat≤57:=by
 rw[←Ab6]
 unfold byt
 rw[Aei,Aau,Aae h,Option.getD_some]
 rw[List.all_eq_true] at hd
 exact hd _ (List.getElem_mem h)
theorem Aha{ds:List UInt8}(hd:ds.all Ab1=true)(k:Nat):dval (ds.take k)<10^k:=by
 have h1:=Acp (ds.take k) (by rw[List.all_eq_true] at *;exact fun x hx=>hd x (List.mem_of_mem_take hx))
 exact Aah h1 (Aep (List.length_take_le _ _))
theorem Ahb{k:IntKind}{a b:Int}(h:a=b):Value.int k a=.int k b:=by rw[h]
theorem Ahc(a:ByteArray)(ha:a.size≤1000000)(hl:(digits (vl a).natAbs).length≤17)(w:World):
 Calls Tryz.prog 62 #[.string a] w fun e w'=>e=.returned (.tuple #[.int .i64 (vl a),.bool true])∧w=w':=by
 have HD:=Aac (Ag4 a ha w)
 have hz:(bs (digits (vl a).natAbs)).size=(digits (vl a).natAbs).length:=Aej _
 have hall:=all_digits (vl a).natAbs
 have hdv:=dval_digits (vl a).natAbs
 generalize hds:digits (vl a).natAbs=ds at *
 have HZ:=Aac hz
 have HALL:=Aac hall
 have HDV:=Aac hdv
 have hzz:(bs ds).size≤17:=by omega
 clear hz hall hdv hds
 go_enter Tryz.func62,Tryz.ntmps62
 go_wp2_with fail
 refine HD.out.mono ?_
 rintro e w1 ⟨rfl,rfl⟩
 clear HD
 go_wp2_with fail
 go_loop [6,7] (fun v u=>∃k:Nat,u=.int .i64 (k:Int)∧k≤(bs ds).size∧v=.int .i64 (dval (ds.take k):Nat)) (fun _ v=>(bs ds).size-(intOf v).toNat)
 case atStart=>exact⟨0,rfl,by omega,rfl⟩
 case round =>
  obtain⟨k,rfl,hk,rfl⟩:=hrel
  rcases Aam k (bs ds).size with hlt|hge
  ·have hb:=Ag9 HALL.out (k:=k) (by have:=HZ.out;omega)
   have hlt2:=Aah (Aha HALL.out k) (Aep (show k≤17 by omega))
   have HS:=Aac (Ag8 (ds:=ds) (k:=k) (by have:=HZ.out;omega))
   have hg:(bs ds)[k].toNat=(byt (bs ds) k).toNat:=by rw[Aev]
   generalize (byt (bs ds) k).toNat=bb at hb hg HS
   generalize dval (ds.take k)=dv at hlt2 HS ⊢
   have hc:decide ((k:Int)<((bs ds).size:Int))=true:=by simp;omega
   have hlt3:dv<100000000000000000:=by simpa using hlt2
   clear hlt2
   go_wp2_with fail
   go_round
   case rel=>exact⟨k+1,by go_num,by omega,Ahb (by rw[HS.out];omega)⟩
   case measure=>simp[intOf];omega
  ·have hc:decide ((k:Int)<((bs ds).size:Int))=false:=by simp;omega
   have HE:Hid (dval (ds.take k)=(vl a).natAbs):=by rw[Hid,Aai (by have:=HZ.out;omega)];exact HDV.out
   rw[HE.out]
   have hsm:(vl a).natAbs<100000000000000000:=by
    have:=Aha HALL.out k
    rw[HE.out] at this
    have h2:=Aah this (Aep (show k≤17 by omega))
    simpa using h2
   clear HE HDV
   go_wp2_with fail
   all_goals
    go_ret2
    refine⟨?_,rfl⟩
    refine congrArg (fun z=>Ending.returned (.tuple #[.int .i64 z,.bool true])) (show (_:Int)=vl a from ?_)
    omega
theorem Ahd(a:ByteArray)(ha:a.size≤1000000)(hl:17<(digits (vl a).natAbs).length)(w:World):
 Calls Tryz.prog 62 #[.string a] w fun e w'=>e=.returned (.tuple #[.int .i64 0,.bool false])∧w=w':=by
 have HD:=Aac (Ag4 a ha w)
 have hz:(bs (digits (vl a).natAbs)).size=(digits (vl a).natAbs).length:=Aej _
 generalize hds:digits (vl a).natAbs=ds at *
 have hzz:17<(bs ds).size:=by omega
 have hc:decide ((17:Int)<((bs ds).size:Int))=true:=by simp;omega
 clear hz hds
 go_enter Tryz.func62,Tryz.ntmps62
 go_wp2_with fail
 refine HD.out.mono ?_
 rintro e w1 ⟨rfl,rfl⟩
 clear HD
 go_wp2_with fail
 go_ret2
 exact⟨rfl,rfl⟩
theorem Ahe(a:ByteArray)(ha:a.size≤1000000)(w:World):
 Calls Tryz.prog 93 #[.string a] w fun e w'=>e=.returned (.string (I (-vl a)))∧w=w':=by
 have HD:=Aac (Ag4 a ha w)
 have hz:(bs (digits (vl a).natAbs)).size=(digits (vl a).natAbs).length:=Aej _
 have hlen:(digits (vl a).natAbs).length≤a.size:=by rw[digits_length_le_iff];exact vl_lt a
 rcases Int.lt_trichotomy (vl a) 0 with hn|hn|hn
 ·have hd:decide (vl a<0)=true:=by simpa using hn
  have HI:Hid (I (-vl a)=bs (digits (vl a).natAbs)):=by rw[Hid,I,can,if_neg (by omega),Int.natAbs_neg]
  clear hn
  go_enter Tryz.func93,Tryz.ntmps93
  go_wp2_with fail
  refine HD.out.mono ?_
  rintro e w1 ⟨rfl,rfl⟩
  go_wp2_with fail
  go_ret
  exact⟨by rw[HI.out];rfl,rfl⟩
 ·rw[hn,show bs (digits (0:Int).natAbs)=⟨#[]⟩ from rfl] at HD
  have HN:=Aac hn
  clear hn hz hlen
  go_enter Tryz.func93,Tryz.ntmps93
  go_wp2_with fail
  refine HD.out.mono ?_
  rintro e w1 ⟨rfl,rfl⟩
  go_wp2_with fail
  go_ret
  exact⟨by rw[HN.out];rfl,rfl⟩
 ·have hd:decide (vl a<0)=false:=Aa4 (by omega)
  have HI:Hid (I (-vl a)=bs ([45]++digits (vl a).natAbs)):=by rw[Hid,I,can,if_pos (by omega),Int.natAbs_neg];rfl
  have he:((bs (digits (vl a).natAbs)).toList==[])=false:=by
   rw[Aaj,Lib.toList_data,Aei];exact Ab3 (by omega)
  clear hn
  go_enter Tryz.func93,Tryz.ntmps93
  go_wp2_with fail
  refine HD.out.mono ?_
  rintro e w1 ⟨rfl,rfl⟩
  go_wp2_with fail
  go_ret
  exact⟨by rw[HI.out];rfl,rfl⟩
theorem Ahf(a:ByteArray)(w:World):
 Calls Tryz.prog 75 #[.string a] w fun e w'=>e=.returned (.bool (decide (13<a.size)))∧w=w':=by
 by_cases h:13<a.size
 ·have hc:decide ((13:Int)<(a.size:Int))=true:=by simp;omega
  have hd:decide (13<a.size)=true:=by simpa using h
  go_enter Tryz.func75,Tryz.ntmps75
  go_wp2_with fail
  go_ret
  exact⟨by rw[hd];rfl,rfl⟩
 ·have hc:decide ((13:Int)<(a.size:Int))=false:=by simp;omega
  have hd:decide (13<a.size)=false:=by simpa using h
  go_enter Tryz.func75,Tryz.ntmps75
  go_wp2_with fail
  go_ret
  exact⟨by rw[hd];rfl,rfl⟩
theorem bytesLess_dval:∀(s t:List UInt8),s.length=t.length→s.all Ab1=true→t.all Ab1=true→Op.bytesLess s t=decide (dval s<dval t)
 | [],[],_,_,_=>by simp[Op.bytesLess]
 | [],_::_,h,_,_=>by simp at h
 | _::_,[],h,_,_=>by simp at h
 | c::s,d::t,h,hs,ht=>by
   simp only[Aa0,Nat.add_right_cancel_iff] at h
   simp only[List.all_cons,Bool.and_eq_true] at hs ht
   have hc:=(Ab6 c).1 hs.1
   have hd:=(Ab6 d).1 ht.1
   have a1:=Acp s hs.2
   have a2:=Acp t ht.2
   rw[h] at a1
   rw[Op.bytesLess,bytesLess_dval s t h hs.2 ht.2,Acd,Acd,h]
   generalize 10^t.length=P at *
   rcases Nat.lt_trichotomy c.toNat d.toNat with k|k|k
   ·have e1:decide (c<d)=true:=by simp[UInt8.lt_iff_toNat_lt];exact k
    rw[e1,Bool.true_or,eq_comm,decide_eq_true_eq]
    obtain⟨j,hj⟩:∃j,d.toNat-48=(c.toNat-48)+1+j:=⟨d.toNat-c.toNat-1,by omega⟩
    rw[hj,Nat.add_mul,Nat.add_mul]
    omega
   ·have e:c=d:=UInt8.toNat.inj k
    subst e
    have e1:decide (c<c)=false:=by simp
    rw[e1,Bool.false_or,beq_self_eq_true,Bool.true_and]
    congr 1
    simp
   ·have e1:decide (c<d)=false:=by simp[UInt8.lt_iff_toNat_lt];omega
    have e2:(c==d)=false:=by rw[Aaj];intro e;rw[e] at k;omega
    rw[e1,e2,Bool.false_or,Bool.false_and,eq_comm,decide_eq_false_iff_not]
    obtain⟨j,hj⟩:∃j,c.toNat-48=(d.toNat-48)+1+j:=⟨c.toNat-d.toNat-1,by omega⟩
    rw[hj,Nat.add_mul,Nat.add_mul]
    omega
theorem Ahg{m n:Nat}(h:(digits m).length<(digits n).length):m<n:=by
 have h1:=(digits_length_le_iff (digits m).length m).1 (Aad _)
 have h2:=mt (digits_length_le_iff (digits m).length n).2 (by omega)
 omega
theorem seen(m n:Nat):∃s t:ByteArray,s=bs (digits m)∧t=bs (digits n) ∧
 ((m<n∧(((s.size:Int)==(t.size:Int))=false∧decide (s.size<t.size)=true∨((s.size:Int)==(t.size:Int))=true∧Op.bytesLess s.toList t.toList=true)) ∨
  (m=n∧s=t∧Op.bytesLess s.toList s.toList=false) ∨
  (n<m∧(((s.size:Int)==(t.size:Int))=false∧decide (s.size<t.size)=false∨((s.size:Int)==(t.size:Int))=true∧Op.bytesLess s.toList t.toList=false∧(s.toList==t.toList)=false))):=by
 refine⟨_,_,rfl,rfl,?_⟩
 simp only[Lib.toList_data,Aei,Aej]
 rcases Nat.lt_trichotomy m n with h|h|h
 ·left
  refine⟨h,?_⟩
  rcases Nat.lt_trichotomy (digits m).length (digits n).length with k|k|k
  ·left;refine⟨?_,?_⟩
   ·rw[Aaj];omega
   ·simp;omega
  ·right
   refine⟨by rw[beq_iff_eq];omega,?_⟩
   rw[bytesLess_dval _ _ k (all_digits m) (all_digits n),dval_digits,dval_digits];simpa using h
  ·have:=Ahg k;omega
 ·right;left
  subst h
  refine⟨rfl,rfl,?_⟩
  rw[bytesLess_dval _ _ rfl (all_digits m) (all_digits m)];simp
 ·right;right
  refine⟨h,?_⟩
  rcases Nat.lt_trichotomy (digits m).length (digits n).length with k|k|k
  ·have:=Ahg k;omega
  ·right
   refine⟨by rw[beq_iff_eq];omega,?_,?_⟩
   ·rw[bytesLess_dval _ _ k (all_digits m) (all_digits n),dval_digits,dval_digits];simp;omega
   ·rw[Aaj];intro e
    have:=congrArg dval e
    rw[dval_digits,dval_digits] at this;omega
  ·left;refine⟨?_,?_⟩
   ·rw[Aaj];omega
   ·simp;omega
theorem Ahh(a b:ByteArray)(ha:a.size≤1000000)(hb:b.size≤1000000)(w:World):
 Calls Tryz.prog 33 #[.string a,.string b] w fun e w'=>e=.returned (.int .i64 (cmpI (vl a) (vl b)))∧w=w':=by
 have HA:=Ag4 a ha
 have HB:=Ag4 b hb
 generalize vl a=x at *
 generalize vl b=y at *
 obtain⟨s,t,hs,ht,hc⟩:=seen x.natAbs y.natAbs
 rw[←hs] at HA
 rw[←ht] at HB
 clear hs ht ha hb
 by_cases hx:x<0<;>by_cases hy:y<0
 ·rw[Aa3 hx] at HA
  rw[Aa3 hy] at HB
  have HA:=Aac HA
  have HB:=Aac HB
  rcases hc with⟨h,⟨h1,h2⟩|⟨h1,h2⟩⟩|⟨h,rfl,h2⟩|⟨h,⟨h1,h2⟩|⟨h1,h2,h3⟩⟩
  ·have HR:Hid (cmpI x y=1):=Aac (by unfold cmpI;rw[if_neg (by omega),if_neg (by omega)])
   clear hx hy h
   go_enter Tryz.func33,Tryz.ntmps33
   go_wp2_with fail
   refine (HA.out _).mono ?_
   rintro e w1 ⟨rfl,rfl⟩
   go_wp2_with fail
   refine (HB.out _).mono ?_
   rintro e w1 ⟨rfl,rfl⟩
   go_wp2_with fail
   go_ret
   exact⟨by rw[HR.out];rfl,rfl⟩
  ·have HR:Hid (cmpI x y=1):=Aac (by unfold cmpI;rw[if_neg (by omega),if_neg (by omega)])
   clear hx hy h
   go_enter Tryz.func33,Tryz.ntmps33
   go_wp2_with fail
   refine (HA.out _).mono ?_
   rintro e w1 ⟨rfl,rfl⟩
   go_wp2_with fail
   refine (HB.out _).mono ?_
   rintro e w1 ⟨rfl,rfl⟩
   go_wp2_with fail
   go_ret
   exact⟨by rw[HR.out];rfl,rfl⟩
  ·have HR:Hid (cmpI x y=0):=Aac (by unfold cmpI;rw[if_neg (by omega),if_pos (by omega)])
   clear hx hy h
   go_enter Tryz.func33,Tryz.ntmps33
   go_wp2_with fail
   refine (HA.out _).mono ?_
   rintro e w1 ⟨rfl,rfl⟩
   go_wp2_with fail
   refine (HB.out _).mono ?_
   rintro e w1 ⟨rfl,rfl⟩
   go_wp2_with fail
   go_ret
   exact⟨by rw[HR.out];rfl,rfl⟩
  ·have HR:Hid (cmpI x y=-1):=Aac (by unfold cmpI;rw[if_pos (by omega)])
   clear hx hy h
   go_enter Tryz.func33,Tryz.ntmps33
   go_wp2_with fail
   refine (HA.out _).mono ?_
   rintro e w1 ⟨rfl,rfl⟩
   go_wp2_with fail
   refine (HB.out _).mono ?_
   rintro e w1 ⟨rfl,rfl⟩
   go_wp2_with fail
   go_ret
   exact⟨by rw[HR.out];rfl,rfl⟩
  ·have HR:Hid (cmpI x y=-1):=Aac (by unfold cmpI;rw[if_pos (by omega)])
   clear hx hy h
   go_enter Tryz.func33,Tryz.ntmps33
   go_wp2_with fail
   refine (HA.out _).mono ?_
   rintro e w1 ⟨rfl,rfl⟩
   go_wp2_with fail
   refine (HB.out _).mono ?_
   rintro e w1 ⟨rfl,rfl⟩
   go_wp2_with fail
   go_ret
   exact⟨by rw[HR.out];rfl,rfl⟩
 ·rw[Aa3 hx] at HA
  rw[Aa4 hy] at HB
  have HA:=Aac HA
  have HB:=Aac HB
  have HR:Hid (cmpI x y=-1):=Aac (by unfold cmpI;rw[if_pos (by omega)])
  clear hx hy hc
  go_enter Tryz.func33,Tryz.ntmps33
  go_wp2_with fail
  refine (HA.out _).mono ?_
  rintro e w1 ⟨rfl,rfl⟩
  go_wp2_with fail
  refine (HB.out _).mono ?_
  rintro e w1 ⟨rfl,rfl⟩
  go_wp2_with fail
  go_ret
  exact⟨by rw[HR.out];rfl,rfl⟩
 ·rw[Aa4 hx] at HA
  rw[Aa3 hy] at HB
  have HA:=Aac HA
  have HB:=Aac HB
  have HR:Hid (cmpI x y=1):=Aac (by unfold cmpI;rw[if_neg (by omega),if_neg (by omega)])
  clear hx hy hc
  go_enter Tryz.func33,Tryz.ntmps33
  go_wp2_with fail
  refine (HA.out _).mono ?_
  rintro e w1 ⟨rfl,rfl⟩
  go_wp2_with fail
  refine (HB.out _).mono ?_
  rintro e w1 ⟨rfl,rfl⟩
  go_wp2_with fail
  go_ret
  exact⟨by rw[HR.out];rfl,rfl⟩
 ·rw[Aa4 hx] at HA
  rw[Aa4 hy] at HB
  have HA:=Aac HA
  have HB:=Aac HB
  rcases hc with⟨h,⟨h1,h2⟩|⟨h1,h2⟩⟩|⟨h,rfl,h2⟩|⟨h,⟨h1,h2⟩|⟨h1,h2,h3⟩⟩
  ·have HR:Hid (cmpI x y=-1):=Aac (by unfold cmpI;rw[if_pos (by omega)])
   clear hx hy h
   go_enter Tryz.func33,Tryz.ntmps33
   go_wp2_with fail
   refine (HA.out _).mono ?_
   rintro e w1 ⟨rfl,rfl⟩
   go_wp2_with fail
   refine (HB.out _).mono ?_
   rintro e w1 ⟨rfl,rfl⟩
   go_wp2_with fail
   go_ret
   exact⟨by rw[HR.out];rfl,rfl⟩
  ·have HR:Hid (cmpI x y=-1):=Aac (by unfold cmpI;rw[if_pos (by omega)])
   clear hx hy h
   go_enter Tryz.func33,Tryz.ntmps33
   go_wp2_with fail
   refine (HA.out _).mono ?_
   rintro e w1 ⟨rfl,rfl⟩
   go_wp2_with fail
   refine (HB.out _).mono ?_
   rintro e w1 ⟨rfl,rfl⟩
   go_wp2_with fail
   go_ret
   exact⟨by rw[HR.out];rfl,rfl⟩
  ·have HR:Hid (cmpI x y=0):=Aac (by unfold cmpI;rw[if_neg (by omega),if_pos (by omega)])
   clear hx hy h
   go_enter Tryz.func33,Tryz.ntmps33
   go_wp2_with fail
   refine (HA.out _).mono ?_
   rintro e w1 ⟨rfl,rfl⟩
   go_wp2_with fail
   refine (HB.out _).mono ?_
   rintro e w1 ⟨rfl,rfl⟩
   go_wp2_with fail
   go_ret
   exact⟨by rw[HR.out];rfl,rfl⟩
  ·have HR:Hid (cmpI x y=1):=Aac (by unfold cmpI;rw[if_neg (by omega),if_neg (by omega)])
   clear hx hy h
   go_enter Tryz.func33,Tryz.ntmps33
   go_wp2_with fail
   refine (HA.out _).mono ?_
   rintro e w1 ⟨rfl,rfl⟩
   go_wp2_with fail
   refine (HB.out _).mono ?_
   rintro e w1 ⟨rfl,rfl⟩
   go_wp2_with fail
   go_ret
   exact⟨by rw[HR.out];rfl,rfl⟩
  ·have HR:Hid (cmpI x y=1):=Aac (by unfold cmpI;rw[if_neg (by omega),if_neg (by omega)])
   clear hx hy h
   go_enter Tryz.func33,Tryz.ntmps33
   go_wp2_with fail
   refine (HA.out _).mono ?_
   rintro e w1 ⟨rfl,rfl⟩
   go_wp2_with fail
   refine (HB.out _).mono ?_
   rintro e w1 ⟨rfl,rfl⟩
   go_wp2_with fail
   go_ret
   exact⟨by rw[HR.out];rfl,rfl⟩
theorem Ahi(a:ByteArray)(ha:a.size≤1000000)(w:World):
 Calls Tryz.prog 56 #[.string a] w fun e w'=>e=.returned (.int .i64 (cmpI (vl a) 0))∧w=w':=by
 have HC:=Aac (Ahh a ⟨#[]⟩ ha (by decide) w)
 clear ha
 go_enter Tryz.func56,Tryz.ntmps56
 go_wp2_with fail
 refine HC.out.mono ?_
 rintro e w1 ⟨rfl,rfl⟩
 go_wp2_with fail
 go_ret
 exact⟨rfl,rfl⟩
theorem Ahj(l m:List UInt8):bs (l++m)=bs l++bs m:=by
 apply ByteArray.ext
 apply Array.ext'
 rw[ByteArray.data_append,Array.toList_append];rfl
theorem enc_neg(r:Int)(h1:r.natAbs<10)(h2:r<0):Utf8.encode (wrap32 (wrap64 (48+wrap64 (-r))))=bs [dchar r.natAbs]:=by
 rcases (show r=-1∨r=-2∨r=-3∨r=-4∨r=-5∨r=-6∨r=-7∨r=-8∨r=-9 from by omega) with rfl|rfl|rfl|rfl|rfl|rfl|rfl|rfl|rfl<;>kernel_rfl
theorem enc_pos(r:Int)(h1:r.natAbs<10)(h2:0≤r):Utf8.encode (wrap32 (wrap64 (48+r)))=bs [dchar r.natAbs]:=by
 rcases (show r=0∨r=1∨r=2∨r=3∨r=4∨r=5∨r=6∨r=7∨r=8∨r=9 from by omega) with rfl|rfl|rfl|rfl|rfl|rfl|rfl|rfl|rfl|rfl<;>kernel_rfl
theorem Ahk(n:Int)(hn:n.natAbs<4000000000000000000)(w:World):
 Calls Tryz.prog 63 #[.int .i64 n] w fun e w'=>e=.returned (.string (I n))∧w=w':=by
 by_cases h0:n=0
 ·subst h0
  go_enter Tryz.func63,Tryz.ntmps63
  go_wp2_with fail
  go_ret
  exact⟨rfl,rfl⟩
 have hz:(n==0)=false:=by simpa using h0
 go_enter Tryz.func63,Tryz.ntmps63
 go_wp2_with fail
 clear hz
 go_loop [3,4] (fun v3 v4=>∃(m:Int) (u:List UInt8),v3=.string (bs u)∧v4=.int .i64 m∧digits n.natAbs=digits m.natAbs++u∧m.natAbs<4000000000000000000) (fun _ v4=>(intOf v4).natAbs)
 case atStart=>exact⟨n,[],rfl,rfl,by simp,hn⟩
 case round =>
  obtain⟨m,u,rfl,rfl,hu,hm⟩:=hrel
  have hul:(bs u).size≤19:=by
   have:=(digits_length_le_iff 19 n.natAbs).2 (Nat.lt_trans hn (by decide))
   rw[hu] at this
   simp at this
   rw[Aej];omega
  have HU:=Aac hu
  have HM:=Aac hm
  have HN0:=Aac h0
  clear hu hn h0
  by_cases h0:m=0
  ·subst h0
   by_cases hneg:n<0
   ·have HI:Hid (I n=⟨#[45]⟩++bs u):=by
     have:=HU.out
     unfold I can
     show _=_
     rw[if_pos hneg,HU.out]
     exact Ahj [45] u
    go_wp2_with fail
    all_goals first
     | (go_ret;exact⟨by rw[HI.out];rfl,rfl⟩)
     | (exfalso;omega)
   ·have HI:Hid (I n=bs u):=by
     have:=HU.out
     unfold I can
     show _=_
     rw[if_neg hneg,HU.out];rfl
    go_wp2_with fail
    all_goals first
     | (go_ret;exact⟨by rw[HI.out];rfl,rfl⟩)
     | (exfalso;omega)
  ·have hz:(m==0)=false:=by simpa using h0
   have HP:=Aac (show 0<m.natAbs from by omega)
   have hr:(m.tmod 10).natAbs<10:=by rw[Int.natAbs_tmod];exact Nat.mod_lt _ (by decide)
   have HR:=Aac (show (m.tmod 10).natAbs=m.natAbs % 10 from by rw[Int.natAbs_tmod];rfl)
   have HQ:=Aac (show (m.tdiv 10).natAbs=m.natAbs / 10 from by rw[Int.natAbs_tdiv];rfl)
   have HD:Hid (digits n.natAbs=digits (m.tdiv 10).natAbs++(dchar (m.tmod 10).natAbs::u)):=by
    show _=_
    rw[HU.out,HQ.out,HR.out,Ab2 HP.out,List.append_assoc];rfl
   clear h0
   rcases (show m.tmod 10<0∨0≤m.tmod 10 from by omega) with h1|h1
   ·have HE:=Aac (enc_neg _ hr h1)
    have hs1:(Utf8.encode (wrap32 (wrap64 (48+wrap64 (-m.tmod 10))))).size=1:=by rw[HE.out,Aej];rfl
    clear hr
    go_wp2_with fail
    all_goals first
     | (exfalso;omega)
     | (refine⟨⟨_,_,by rw[HE.out,←Ahj];rfl,rfl,HD.out,?_⟩,?_⟩
        ·rw[HQ.out];have:=HM.out;omega
        ·simp only[intOf];rw[HQ.out];have:=HP.out;omega)
   ·have HE:=Aac (enc_pos _ hr h1)
    have hs1:(Utf8.encode (wrap32 (wrap64 (48+m.tmod 10)))).size=1:=by rw[HE.out,Aej];rfl
    clear hr
    go_wp2_with fail
    all_goals first
     | (exfalso;omega)
     | (refine⟨⟨_,_,by rw[HE.out,←Ahj];rfl,rfl,HD.out,?_⟩,?_⟩
        ·rw[HQ.out];have:=HM.out;omega
        ·simp only[intOf];rw[HQ.out];have:=HP.out;omega)
def padR:Nat→Nat→List UInt8
 | 0,_=>[]
 | k+1,n=>dchar (n / 10^k % 10)::padR k n
theorem padR_length:∀(k n:Nat),(padR k n).length=k
 | 0,_=>rfl
 | k+1,n=>by simp[padR,padR_length k n]
theorem padR_all:∀(k n:Nat),(padR k n).all Ab1=true
 | 0,_=>rfl
 | k+1,n=>by simp only[padR,List.all_cons,Bool.and_eq_true];exact⟨Ab7 (Nat.mod_lt _ (by decide)),padR_all k n⟩
theorem padR_dval:∀(k n:Nat),dval (padR k n)=n % 10^k
 | 0,n=>by simp[padR,dval_nil,Nat.mod_one]
 | k+1,n=>by
   rw[padR,Acd,padR_length,padR_dval k n,Ab5 (Nat.mod_lt _ (by decide)),Nat.mod_pow_succ]
   rw[Nat.add_sub_cancel_left,Nat.mul_comm,Nat.add_comm]
theorem enc_dig(d:Nat)(h:d<10):Utf8.encode (48+(d:Int))=bs [dchar d]:=by
 rcases (show d=0∨d=1∨d=2∨d=3∨d=4∨d=5∨d=6∨d=7∨d=8∨d=9 from by omega) with rfl|rfl|rfl|rfl|rfl|rfl|rfl|rfl|rfl|rfl<;>kernel_rfl
theorem Ahm(y:Nat):Utf8.encode (48+(y:Int) % 10)=bs [dchar (y % 10)]:=by
 rw[show (y:Int) % 10=((y % 10:Nat):Int) from by simp]
 exact enc_dig _ (Nat.mod_lt _ (by decide))
theorem vl_bs{T:List UInt8}(h:T.all Ab1=true):vl (bs T)=(dval T:Int):=by
 unfold vl val
 rw[Aei]
 have hs:signOf T=(false,T):=by
  cases T with
  | nil=>rfl
  | cons c t =>
    simp only[List.all_cons,Bool.and_eq_true] at h
    have:=(Ab6 c).1 h.1
    simp only[signOf]
    rw[if_neg (by rintro rfl;simp at this)]
 rw[hs]
 simp[h]
theorem Ahn{T:List UInt8}(h:T.all Ab1=true):vl (⟨#[45]⟩++bs T)=-(dval T:Int):=by
 rw[show (⟨#[45]⟩:ByteArray)++bs T=bs (45::T) from (Ahj [45] T).symm]
 unfold vl val
 rw[Aei]
 simp[signOf,h]
theorem Ahp{l:List Nat}{i:Nat}{T:List UInt8}(hi:i<l.length)(hd:Dig l)(h1:T.length=9*i)(h2:T.all Ab1=true)(h3:dval T=mval (l.take i)):
 (padR 9 (gt l i)++T).length=9*(i+1)∧(padR 9 (gt l i)++T).all Ab1=true∧dval (padR 9 (gt l i)++T)=mval (l.take (i+1)):=by
 refine⟨by rw[Aan,padR_length,h1];omega,by rw[List.all_append,padR_all,h2];rfl,?_⟩
 rw[Acb,padR_dval,h1,h3,Aby l i hi,Abb,Nat.mod_eq_of_lt (show gt l i<10^9 from hd.get i),Aat,Nat.min_eq_left (by omega),Nat.pow_mul,Nat.mul_comm,Nat.add_comm]
 rfl
theorem Ahq(neg:Bool)(A:Option Addr)(l:List Nat)(c:Nat)(w:World)(hm:l.length≤100000)(hc:l.length≤c)(hd:Dig l)(hr:RdN w A l):
 Calls Tryz.prog 64 #[.agg #[.bool neg,.slice A l.length c]] w fun e w'=>e=.returned (.string (I (if neg=true then -(mval l:Int) else (mval l:Int))))∧Below w.heap.size w w':=by
 have HB:=Aac ((Below.refl _ w).alloc (Aad _) (Obj.cells #[.bool neg,.slice A l.length c] 91))
 obtain⟨W0,hW0⟩:∃W0,w.alloc (Obj.cells #[.bool neg,.slice A l.length c] 91)=W0:=⟨_,rfl⟩
 have hk:W0.heap[w.heap.size]?=some (Obj.cells #[.bool neg,.slice A l.length c] 91):=by rw[←hW0];exact Aa5 w _
 rw[hW0] at HB
 have b0:=Aaa hk 0
 have b1:=Aaa hk 1
 simp at b0 b1
 have HR:=Aac (hr.below HB.out)
 have HD:=Aac hd
 clear hk hr hd
 go_enter Tryz.func64,Tryz.ntmps64
 go_wp2_with fail
 try rw[hW0]
 go_loop [3,4] (fun v3 v4=>∃(i:Nat) (T:List UInt8),v3=.string (bs T)∧v4=.int .i64 (i:Int)∧i≤l.length∧T.length=9*i∧T.all Ab1=true∧dval T=mval (l.take i)) (fun _ v4=>l.length-(intOf v4).toNat)
 case atStart=>exact⟨0,[],rfl,rfl,by omega,rfl,rfl,rfl⟩
 case round =>
  obtain⟨i,T,rfl,rfl,hi,h1,h2,h3⟩:=hrel
  have HT:=Aac (And.intro h1 (And.intro h2 h3))
  have hTz:(bs T).size≤900000:=by rw[Aej];omega
  clear h1 h2 h3
  rcases Aam i l.length with hlt|hge
  ·obtain⟨ad,rfl,_,hcell⟩:=HR.out (by rintro rfl;simp at hlt)
   have hci:=hcell i hlt
   have HS:=Aac (Ahp hlt HD.out HT.out.1 HT.out.2.1 HT.out.2.2)
   have hx:gt l i<1000000000:=HD.out.get i
   generalize gt l i=x at *
   clear hcell HT
   go_wp2_with fail
   go_loop [3,5,6] (fun v3 v5 v6=>∃k:Nat,v3=.string (bs (padR k x++T))∧v5=.int .i64 ((x / 10^k:Nat):Int)∧v6=.int .i64 (k:Int)∧k≤9) (fun _ _ v6=>9-(intOf v6).toNat)
   case atStart=>exact⟨0,rfl,by simp,rfl,by omega⟩
   case round =>
    obtain⟨k,rfl,rfl,rfl,hk⟩:=hrel
    have hsz:(bs (padR k x++T)).size≤900009:=by rw[Aej,Aan,padR_length,←Aej];omega
    rcases Aam k 9 with hk9|hk9
    ·have HP:Hid (padR (k+1) x++T=dchar (x / 10^k % 10)::(padR k x++T)):=rfl
     have HQ:Hid (x / 10^(k+1)=x / 10^k / 10):=by rw[Hid,Nat.pow_succ,Nat.div_div_eq_div_mul]
     have hy:x / 10^k≤x:=Nat.div_le_self _ _
     generalize x / 10^k=y at *
     go_wp2_with fail
     case isTrue =>
      rename_i hh _
      rw[Ahm,Aej] at hh
      exfalso
      simp only[Aa0,List.length_nil] at hh
      omega
     case roundEnd =>
      refine⟨⟨k+1,?_,?_,by go_num,by omega⟩,by simp[intOf];omega⟩
      ·rw[Ahm,HP.out,←Ahj];rfl
      ·rw[HQ.out];simp
    ·have hk9':k=9:=by omega
     subst hk9'
     go_wp2_with fail
     all_goals (refine⟨⟨i+1,_,rfl,by go_num,by omega,HS.out.1,HS.out.2.1,HS.out.2.2⟩,by simp[intOf];omega⟩)
  ·have hil:i=l.length:=by omega
   subst hil
   have HV:Hid (dval T=mval l):=by
    have:=HT.out.2.2
    rwa [Aai (Aad _)] at this
   cases neg
   ·have HC:=fun W=>Ag5 (bs T) (by omega) W
    rw[vl_bs HT.out.2.1,HV.out] at HC
    have HC:=Aac HC
    go_wp2_with fail
    refine (HC.out _).mono ?_
    rintro e w1 ⟨rfl,rfl⟩
    go_wp2_with fail
    go_ret
    exact⟨rfl,HB.out⟩
   ·have hz2:((⟨#[45]⟩:ByteArray)++bs T).size≤1000000:=by
     rw[ByteArray.size_append];show 1+_≤_;omega
    have HC:=fun W=>Ag5 (⟨#[45]⟩++bs T) hz2 W
    rw[Ahn HT.out.2.1,HV.out] at HC
    have HC:=Aac HC
    clear hz2
    go_wp2_with fail
    all_goals first
     | (exfalso;omega)
     | (refine (HC.out _).mono ?_
        rintro e w1 ⟨rfl,rfl⟩
        go_wp2_with fail
        go_ret
        exact⟨rfl,HB.out⟩)
theorem Ahr(x y:Int)(hy:0<y):(x.tmod y<0∧x / y=x.tdiv y-1∧x % y=x.tmod y+y)∨(0≤x.tmod y∧x / y=x.tdiv y∧x % y=x.tmod y):=by
 have h1:=Int.tmod_eq_emod (a:=x) (b:=y)
 have h2:=Int.tdiv_eq_ediv (a:=x) (b:=y)
 have h3:=Int.emod_nonneg x (b:=y) (by omega)
 have h4:=Int.emod_lt_of_pos x hy
 have h5:y.sign=1:=Int.sign_eq_one_of_pos hy
 by_cases c:0≤x∨y∣x
 ·rw[if_pos c] at h1 h2;right;omega
 ·rw[if_neg c] at h1 h2;left;omega
theorem Ahs(a b:ByteArray)(ha:a.size≤1000000)(hb:b.size≤1000000)(hx:(vl a).natAbs<100000000000000000)(hy:(vl b).natAbs<100000000000000000)(hp:0<vl b)(w:World):
 Calls Tryz.prog 198 #[.string a,.string b] w fun e w'=>e=.returned (.tuple #[.string (I (vl a / vl b)),.string (I (vl a % vl b)),.int .i64 0])∧Below w.heap.size w w':=by
 have HA:=Aac (Ahc a ha ((digits_length_le_iff 17 _).2 hx))
 have HB:=Aac (Ahc b hb ((digits_length_le_iff 17 _).2 hy))
 clear ha hb
 generalize vl a=x at *
 generalize vl b=y at *
 have hy0:(y==0)=false:=by rw[Aaj];omega
 have hq:(x.tdiv y).natAbs≤x.natAbs:=by rw[Int.natAbs_tdiv];exact Nat.div_le_self _ _
 have hr:(x.tmod y).natAbs<y.natAbs:=by rw[Int.natAbs_tmod];exact Nat.mod_lt _ (by omega)
 rcases Ahr x y hp with⟨h1,h2,h3⟩|⟨h1,h2,h3⟩
 ·have H2:=Aac h2
  have H3:=Aac h3
  have hy1:decide (y<0)=false:=by simp;omega
  clear h2 h3
  go_enter Tryz.func198,Tryz.ntmps198
  go_wp2_with fail
  refine (HA.out _).mono ?_
  rintro e w1 ⟨rfl,rfl⟩
  go_wp2_with fail
  refine (HB.out _).mono ?_
  rintro e w1 ⟨rfl,rfl⟩
  go_wp2_with fail
  go_quiet (fail)
  go_wp2_with fail
  all_goals
   refine (Ahk _ (by omega) _).mono ?_
   rintro e w1 ⟨rfl,rfl⟩
   go_wp2_with fail
   refine (Ahk _ (by omega) _).mono ?_
   rintro e w1 ⟨rfl,rfl⟩
   go_wp2_with fail
   go_ret3
   refine⟨?_,Acz (Below.refl _ _) _⟩
   rw[H2.out,H3.out]
   first|rfl|(rename_i hz _;rw[hz];rfl)|(rename_i hz;rw[hz];rfl)|(simp only[*];rfl)
 ·have H2:=Aac h2
  have H3:=Aac h3
  have hy1:decide (y<0)=false:=by simp;omega
  clear h2 h3
  go_enter Tryz.func198,Tryz.ntmps198
  go_wp2_with fail
  refine (HA.out _).mono ?_
  rintro e w1 ⟨rfl,rfl⟩
  go_wp2_with fail
  refine (HB.out _).mono ?_
  rintro e w1 ⟨rfl,rfl⟩
  go_wp2_with fail
  go_quiet (fail)
  go_wp2_with fail
  all_goals
   refine (Ahk _ (by omega) _).mono ?_
   rintro e w1 ⟨rfl,rfl⟩
   go_wp2_with fail
   refine (Ahk _ (by omega) _).mono ?_
   rintro e w1 ⟨rfl,rfl⟩
   go_wp2_with fail
   go_ret3
   refine⟨?_,Acz (Below.refl _ _) _⟩
   rw[H2.out,H3.out]
   first|rfl|(rename_i hz _;rw[hz];rfl)|(rename_i hz;rw[hz];rfl)|(simp only[*];rfl)
end Go.Proofs.YtcmgmemffncbhabGreatDoor
