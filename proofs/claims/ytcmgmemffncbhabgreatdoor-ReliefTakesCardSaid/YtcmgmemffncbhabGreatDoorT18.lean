/-
  The walks of instrument.Name and instrument.isCode.
-/
import Derived.Test.YtcmgmemffncbhabGreatDoorT17
import Derived.Lib.ConvBytes
import Derived.Lib.AtoiErrMem
import Derived.Laws.EntriesVeiled
set_option linter.unusedVariables false
set_option linter.unusedSimpArgs false
set_option maxHeartbeats 16000000
set_option maxRecDepth 100000
namespace Go.Proofs.YtcmgmemffncbhabGreatDoor
open Go.RowKit Tr Go.Shelf
def nameB(c:UInt8):Bool:=(decide (97≤c.toNat)&&decide (c.toNat≤122))||(decide (48≤c.toNat)&&decide (c.toNat≤57))||c.toNat==95
def codeB(c:UInt8):Bool:=decide (65≤c.toNat)&&decide (c.toNat≤90)
def Ajn(s:ByteArray):Bool:=decide (1≤s.size)&&decide (s.size≤16)&&s.data.toList.all nameB
def Ajp(s:ByteArray):Bool:=decide (s.size=3)&&s.data.toList.all codeB
theorem Ajq(s:ByteArray)(hs:s.size≤1000000)(w:World):
 Calls Tryz.prog 83 #[.string s] w fun e w'=>e=.returned (.bool (Ajn s))∧Below w.heap.size w w':=by
 by_cases h1:s.size=0
 ·have e1:((s.size:Int)==0)=true:=beq_iff_eq.2 (by omega)
  have hr:Ajn s=false:=by unfold Ajn;rw[Aa4 (p:=1≤s.size) (by omega)];rfl
  go_enter Tryz.func83,Tryz.ntmps83
  go_wp2_with fail
  go_ret
  exact⟨by rw[hr];rfl,Below.refl _ _⟩
 have e1:((s.size:Int)==0)=false:=Aaj.2 (by omega)
 by_cases h2:16<s.size
 ·have e2:decide (16<(s.size:Int))=true:=by simp;omega
  have hr:Ajn s=false:=by unfold Ajn;rw[Aa4 (p:=s.size≤16) (by omega),Bool.and_false];rfl
  go_enter Tryz.func83,Tryz.ntmps83
  go_wp2_with fail
  go_ret
  exact⟨by rw[hr];rfl,Below.refl _ _⟩
 have e2:decide (16<(s.size:Int))=false:=by simp;omega
 have hcv:=Lib.run_convert_string_bytes (P:=Tryz.prog) w 9 124 5 s (u:=.string) Tryz.underlying9 Tryz.underlying124 Tryz.underlying5
 have hB1:=Lib.bytesWorld_below w 5 s
 have hcell:∀j,j<s.size→(Lib.bytesWorld w 5 s).cell? ⟨w.heap.size,j,none⟩=some (.int .u8 ((byt s j).toNat:Int)):=fun j hj=>Lib.bytesWorld_cell w 5 s j hj
 generalize Lib.bytesWorld w 5 s=W1 at hcv hB1 hcell
 generalize grownCap w s.size 0 5=cp at hcv
 have HCELL:=Aac hcell
 have HB1:=Aac hB1
 clear hcell hB1
 go_enter Tryz.func83,Tryz.ntmps83
 go_wp2_with fail
 go_loopw [16] (fun v wr=>∃j:Nat,v=.int .i64 (j:Int)∧j≤s.size∧(s.data.toList.take j).all nameB=true∧wr=W1) (fun v _=>s.size-(intOf v).toNat)
 case atStart=>exact⟨0,rfl,by omega,rfl,rfl⟩
 case round =>
  obtain⟨j,rfl,hj,hall,rfl⟩:=hrel
  have HA:=Aac hall
  clear hall
  rcases Aam j s.size with hlt|hge
  ·have hc:decide ((j:Int)<(s.size:Int))=true:=by simp;omega
   have hcj:=HCELL.out j hlt
   have hb:=(byt s j).toNat_lt
   generalize hcb:((byt s j).toNat)=bb at hb hcj
   have HCB:=Aac hcb
   rcases (show (97≤bb∧bb≤122)∨(48≤bb∧bb≤57)∨bb<48∨bb=95∨(57<bb∧bb<97∧bb≠95)∨122<bb from by omega) with a1|a1|a1|a1|a1|a1
   ·have c1:decide ((bb:Int)<97)=false:=Aa4 (by omega)
    have c2:decide (122<(bb:Int))=false:=Aa4 (by omega)
    have HN:Hid (nameB (byt s j)=true):=by unfold nameB;rw[HCB.out];simp only[Bool.or_eq_true,Bool.and_eq_true,decide_eq_true_eq,beq_iff_eq];show _∨_;omega
    clear hcb HCB a1
    go_wp2_with fail
    refine⟨⟨j+1,by simp,by omega,Aew HA.out hlt HN.out,by trivial⟩,by simp[intOf];omega⟩
   ·have c1:decide ((bb:Int)<97)=true:=Aa3 (by omega)
    have c3:decide ((bb:Int)<48)=false:=Aa4 (by omega)
    have c4:decide (57<(bb:Int))=false:=Aa4 (by omega)
    have HN:Hid (nameB (byt s j)=true):=by unfold nameB;rw[HCB.out];simp only[Bool.or_eq_true,Bool.and_eq_true,decide_eq_true_eq,beq_iff_eq];show _∨_;omega
    clear hcb HCB a1
    go_wp2_with fail
    refine⟨⟨j+1,by simp,by omega,Aew HA.out hlt HN.out,by trivial⟩,by simp[intOf];omega⟩
   ·have c1:decide ((bb:Int)<97)=true:=Aa3 (by omega)
    have c3:decide ((bb:Int)<48)=true:=Aa3 (by omega)
    have c5:((bb:Int)==95)=false:=Aaj.2 (by omega)
    have HN:Hid (nameB (byt s j)=false):=by
     unfold nameB
     rw[HCB.out,←Bool.not_eq_true]
     simp only[Bool.or_eq_true,Bool.and_eq_true,decide_eq_true_eq,beq_iff_eq]
     show ¬_;omega
    clear hcb HCB a1
    go_wp2_with fail
    go_ret
    refine⟨?_,HB1.out⟩
    unfold Ajn
    rw[Aex hlt HN.out,Bool.and_false];rfl
   ·have c1:decide ((bb:Int)<97)=true:=Aa3 (by omega)
    have c3:decide ((bb:Int)<48)=false:=Aa4 (by omega)
    have c4:decide (57<(bb:Int))=true:=Aa3 (by omega)
    have c5:((bb:Int)==95)=true:=beq_iff_eq.2 (by omega)
    have HN:Hid (nameB (byt s j)=true):=by unfold nameB;rw[HCB.out];simp only[Bool.or_eq_true,Bool.and_eq_true,decide_eq_true_eq,beq_iff_eq];show _∨_;omega
    clear hcb HCB a1
    go_wp2_with fail
    refine⟨⟨j+1,by simp,by omega,Aew HA.out hlt HN.out,by trivial⟩,by simp[intOf];omega⟩
   ·have c1:decide ((bb:Int)<97)=true:=Aa3 (by omega)
    have c3:decide ((bb:Int)<48)=false:=Aa4 (by omega)
    have c4:decide (57<(bb:Int))=true:=Aa3 (by omega)
    have c5:((bb:Int)==95)=false:=Aaj.2 (by omega)
    have HN:Hid (nameB (byt s j)=false):=by
     unfold nameB
     rw[HCB.out,←Bool.not_eq_true]
     simp only[Bool.or_eq_true,Bool.and_eq_true,decide_eq_true_eq,beq_iff_eq]
     show ¬_;omega
    clear hcb HCB a1
    go_wp2_with fail
    go_ret
    refine⟨?_,HB1.out⟩
    unfold Ajn
    rw[Aex hlt HN.out,Bool.and_false];rfl
   ·have c1:decide ((bb:Int)<97)=false:=Aa4 (by omega)
    have c2:decide (122<(bb:Int))=true:=Aa3 (by omega)
    have c3:decide ((bb:Int)<48)=false:=Aa4 (by omega)
    have c4:decide (57<(bb:Int))=true:=Aa3 (by omega)
    have c5:((bb:Int)==95)=false:=Aaj.2 (by omega)
    have HN:Hid (nameB (byt s j)=false):=by
     unfold nameB
     rw[HCB.out,←Bool.not_eq_true]
     simp only[Bool.or_eq_true,Bool.and_eq_true,decide_eq_true_eq,beq_iff_eq]
     show ¬_;omega
    clear hcb HCB a1
    go_wp2_with fail
    go_ret
    refine⟨?_,HB1.out⟩
    unfold Ajn
    rw[Aex hlt HN.out,Bool.and_false];rfl
  ·have hc:decide ((j:Int)<(s.size:Int))=false:=by simp;omega
   go_wp2_with fail
   go_ret
   refine⟨?_,HB1.out⟩
   have:=HA.out
   rw[Aai (by rw[←Lib.size_eq];omega)] at this
   unfold Ajn
   rw[this,Aa3 (p:=1≤s.size) (by omega),Aa3 (p:=s.size≤16) (by omega)];rfl
def ndig(a:ByteArray):Nat:=if byt a 0=45∧a.size≠0 then a.size-1 else a.size
open Classical in
noncomputable def Ajr(n d:ByteArray):Int:=if ¬CanQ n d then 1 else if 40<ndig n∨40<ndig d then 4 else 0
structure Inst where
 id:ByteArray
 kind:Int
 cur:ByteArray
 places:Int
 issued:Int
 matures:Int
 fn:ByteArray
 fd:ByteArray
 cn:ByteArray
 cd:ByteArray
 months:Int
 count:Int
 other:ByteArray
 sn:ByteArray
 sd:ByteArray
abbrev Inst.cells(i:Inst):Array Value:=#[.string i.id,.int .i64 i.kind,.string i.cur,.int .i64 i.places,.int .i64 i.issued,.int .i64 i.matures,.string i.fn,.string i.fd,.string i.cn,.string i.cd,.int .i64 i.months,.int .i64 i.count,.string i.other,.string i.sn,.string i.sd]
def Inst.sized(i:Inst):Prop:=i.id.size≤1000000∧i.cur.size≤1000000∧i.fn.size≤1000000∧i.fd.size≤1000000∧i.cn.size≤1000000∧i.cd.size≤1000000∧i.other.size≤1000000∧i.sn.size≤1000000∧i.sd.size≤1000000
theorem Ajs(s:ByteArray):(s.toList==[])=decide (s=⟨#[]⟩):=by
 by_cases h:s=⟨#[]⟩
 ·subst h;rw[Lib.toList_data];rfl
 ·rw[Aa4 h,show ([]:List UInt8)=(⟨#[]⟩:ByteArray).toList from by rw[Lib.toList_data]]
  exact Aes h
def plainOk(i:Inst):Prop:=vl i.fn=0∧vl i.cn=0∧i.months=0∧i.count=0∧vl i.sn=0∧i.other=⟨#[]⟩
def monthsL:List Int:=[1,2,3,4,6,12]
def bondOk(i:Inst):Prop:=0<vl i.fn∧0≤vl i.cn∧i.months∈monthsL∧1≤i.count∧i.count≤5∧i.other=⟨#[]⟩∧vl i.sn=0
def fwdOk(i:Inst):Prop:=Ajp i.other=true∧i.other≠i.cur∧0<vl i.sn∧vl i.fn=0∧vl i.cn=0∧i.months=0∧i.count=0
end Go.Proofs.YtcmgmemffncbhabGreatDoor
namespace Go.Proofs.YtcmgmemffncbhabGreatDoor
open Go.RowKit Tr
theorem Ajt(s:ByteArray)(hs:s.size≤1000000)(w:World):
 Calls Tryz.prog 91 #[.string s] w fun e w'=>e=.returned (.bool (Ajn s))∧w=w':=by
 go_enter Tryz.func91,Tryz.ntmps91
 go_wp2_with fail
 go_loop [3] (fun v=>∃j:Nat,v=.int .i64 (j:Int)∧j≤s.size∧(s.data.toList.take j).all nameB=true) (fun v=>s.size-(intOf v).toNat)
 case atStart=>exact⟨0,rfl,by omega,rfl⟩
 case round =>
  obtain⟨j,rfl,hj,hall⟩:=hrel
  have HA:=Aac hall
  clear hall
  rcases Aam j s.size with hlt|hge
  ·have hb:=(byt s j).toNat_lt
   have hg:s[j].toNat=(byt s j).toNat:=by rw[Aev]
   generalize hbb:(byt s j).toNat=bb at hb hg
   have HCB:=Aac hbb
   clear hbb
   rcases (show (97≤bb∧bb≤122)∨(48≤bb∧bb≤57)∨(bb<48)∨(bb=95)∨(57<bb∧bb<97∧bb≠95)∨(122<bb) from by omega) with a1|a1|a1|a1|a1|a1
   ·have c1:decide ((bb:Int)<97)=false:=Aa4 (by omega)
    have c2:decide (122<(bb:Int))=false:=Aa4 (by omega)
    have HN:Hid (nameB (byt s j)=true):=by unfold nameB;rw[HCB.out];simp only[Bool.or_eq_true,Bool.and_eq_true,decide_eq_true_eq,beq_iff_eq];show _∨_;omega
    clear HCB a1
    go_wp2_with fail
    go_round
    case rel=>exact⟨j+1,by go_num,by omega,Aew HA.out hlt HN.out⟩
    case measure=>simp[intOf];omega
   ·have c1:decide ((bb:Int)<97)=true:=Aa3 (by omega)
    have c3:decide ((bb:Int)<48)=false:=Aa4 (by omega)
    have c4:decide (57<(bb:Int))=false:=Aa4 (by omega)
    have HN:Hid (nameB (byt s j)=true):=by unfold nameB;rw[HCB.out];simp only[Bool.or_eq_true,Bool.and_eq_true,decide_eq_true_eq,beq_iff_eq];show _∨_;omega
    clear HCB a1
    go_wp2_with fail
    go_round
    case rel=>exact⟨j+1,by go_num,by omega,Aew HA.out hlt HN.out⟩
    case measure=>simp[intOf];omega
   ·have c1:decide ((bb:Int)<97)=true:=Aa3 (by omega)
    have c3:decide ((bb:Int)<48)=true:=Aa3 (by omega)
    have c5:((bb:Int)==95)=false:=Aaj.2 (by omega)
    have HN:Hid (nameB (byt s j)=false):=by
     unfold nameB
     rw[HCB.out,←Bool.not_eq_true]
     simp only[Bool.or_eq_true,Bool.and_eq_true,decide_eq_true_eq,beq_iff_eq]
     show ¬_;omega
    clear HCB a1
    go_wp2_with fail
    go_ret
    refine⟨?_,rfl⟩
    unfold Ajn
    rw[Aex hlt HN.out,Bool.and_false];rfl
   ·have c1:decide ((bb:Int)<97)=true:=Aa3 (by omega)
    have c3:decide ((bb:Int)<48)=false:=Aa4 (by omega)
    have c4:decide (57<(bb:Int))=true:=Aa3 (by omega)
    have c5:((bb:Int)==95)=true:=beq_iff_eq.2 (by omega)
    have HN:Hid (nameB (byt s j)=true):=by unfold nameB;rw[HCB.out];simp only[Bool.or_eq_true,Bool.and_eq_true,decide_eq_true_eq,beq_iff_eq];show _∨_;omega
    clear HCB a1
    go_wp2_with fail
    go_round
    case rel=>exact⟨j+1,by go_num,by omega,Aew HA.out hlt HN.out⟩
    case measure=>simp[intOf];omega
   ·have c1:decide ((bb:Int)<97)=true:=Aa3 (by omega)
    have c3:decide ((bb:Int)<48)=false:=Aa4 (by omega)
    have c4:decide (57<(bb:Int))=true:=Aa3 (by omega)
    have c5:((bb:Int)==95)=false:=Aaj.2 (by omega)
    have HN:Hid (nameB (byt s j)=false):=by
     unfold nameB
     rw[HCB.out,←Bool.not_eq_true]
     simp only[Bool.or_eq_true,Bool.and_eq_true,decide_eq_true_eq,beq_iff_eq]
     show ¬_;omega
    clear HCB a1
    go_wp2_with fail
    go_ret
    refine⟨?_,rfl⟩
    unfold Ajn
    rw[Aex hlt HN.out,Bool.and_false];rfl
   ·have c1:decide ((bb:Int)<97)=false:=Aa4 (by omega)
    have c2:decide (122<(bb:Int))=true:=Aa3 (by omega)
    have c3:decide ((bb:Int)<48)=false:=Aa4 (by omega)
    have c4:decide (57<(bb:Int))=true:=Aa3 (by omega)
    have c5:((bb:Int)==95)=false:=Aaj.2 (by omega)
    have HN:Hid (nameB (byt s j)=false):=by
     unfold nameB
     rw[HCB.out,←Bool.not_eq_true]
     simp only[Bool.or_eq_true,Bool.and_eq_true,decide_eq_true_eq,beq_iff_eq]
     show ¬_;omega
    clear HCB a1
    go_wp2_with fail
    go_ret
    refine⟨?_,rfl⟩
    unfold Ajn
    rw[Aex hlt HN.out,Bool.and_false];rfl
  ·have hjs:j=s.size:=by omega
   subst hjs
   have HALL:Hid (s.data.toList.all nameB=true):=by
    have:=HA.out
    rwa [Aai (by rw[←Lib.size_eq];exact Aad _)] at this
   clear HA hge
   rcases (show s.size=0∨(1≤s.size∧s.size≤16)∨16<s.size from by omega) with a1|a1|a1
   ·have HR:Hid (Ajn s=false):=by unfold Ajn;rw[Aa4 (by omega)];rfl
    go_wp2_with fail
    all_goals first|(exfalso;omega)|(go_ret;exact⟨by rw[HR.out];first|rfl|(rw[←a2];rfl),rfl⟩)
   ·have HR:Hid (Ajn s=true):=by unfold Ajn;rw[HALL.out,Aa3 (by omega),Aa3 (by omega)];rfl
    have a2:decide ((s.size:Int)≤16)=true:=Aa3 (by omega)
    go_wp2_with fail
    all_goals first|(exfalso;omega)|(go_ret;exact⟨by rw[HR.out];first|rfl|(rw[←a2];rfl),rfl⟩)
   ·have HR:Hid (Ajn s=false):=by unfold Ajn;rw[Aa4 (p:=s.size≤16) (by omega),Bool.and_false];rfl
    have a2:decide ((s.size:Int)≤16)=false:=Aa4 (by omega)
    go_wp2_with fail
    all_goals first|(exfalso;omega)|(go_ret;exact⟨by rw[HR.out];first|rfl|(rw[←a2];rfl),rfl⟩)
end Go.Proofs.YtcmgmemffncbhabGreatDoor
