/-
  The walks of instrument.Name and instrument.isCode.
-/
import Derived.Test.YtcnmoobojdopgaaGreatDoorI16
import Derived.Lib.ConvBytes
import Derived.Lib.AtoiErrMem
import Derived.Laws.EntriesVeiled
set_option linter.unusedVariables false
set_option linter.unusedSimpArgs false
set_option maxHeartbeats 16000000
set_option maxRecDepth 100000
namespace Go.Proofs.YtcnmoobojdopgaaGreatDoor
open Go.RowKit Tr Go.Shelf
def nameB(c:UInt8):Bool:=(decide (97≤c.toNat)&&decide (c.toNat≤122))||(decide (48≤c.toNat)&&decide (c.toNat≤57))||c.toNat==95
def codeB(c:UInt8):Bool:=decide (65≤c.toNat)&&decide (c.toNat≤90)
def Aki(s:ByteArray):Bool:=decide (1≤s.size)&&decide (s.size≤16)&&s.data.toList.all nameB
def Akj(s:ByteArray):Bool:=decide (s.size=3)&&s.data.toList.all codeB
theorem Akk(s:ByteArray)(hs:s.size≤1000000)(w:World):
 Calls Tryz.prog 147 #[.string s] w fun e w'=>e=.returned (.bool (Aki s))∧Below w.heap.size w w':=by
 by_cases h1:s.size=0
 ·have e1:((s.size:Int)==0)=true:=beq_iff_eq.2 (by omega)
  have hr:Aki s=false:=by unfold Aki;rw[Aaw (p:=1≤s.size) (by omega)];rfl
  go_enter Tryz.func147,Tryz.ntmps147
  go_wp2_with fail
  go_ret
  exact⟨by rw[hr];rfl,Below.refl _ _⟩
 have e1:((s.size:Int)==0)=false:=Aaj.2 (by omega)
 by_cases h2:16<s.size
 ·have e2:decide (16<(s.size:Int))=true:=by simp;omega
  have hr:Aki s=false:=by unfold Aki;rw[Aaw (p:=s.size≤16) (by omega),Bool.and_false];rfl
  go_enter Tryz.func147,Tryz.ntmps147
  go_wp2_with fail
  go_ret
  exact⟨by rw[hr];rfl,Below.refl _ _⟩
 have e2:decide (16<(s.size:Int))=false:=by simp;omega
 have hcv:=Lib.run_convert_string_bytes (P:=Tryz.prog) w 9 210 5 s (u:=.string) Tryz.underlying9 Tryz.underlying210 Tryz.underlying5
 have hB1:=Lib.bytesWorld_below w 5 s
 have hcell:∀j,j<s.size→(Lib.bytesWorld w 5 s).cell? ⟨w.heap.size,j,none⟩=some (.int .u8 ((byt s j).toNat:Int)):=fun j hj=>Lib.bytesWorld_cell w 5 s j hj
 generalize Lib.bytesWorld w 5 s=W1 at hcv hB1 hcell
 generalize grownCap w s.size 0 5=cp at hcv
 have HCELL:=Aac hcell
 have HB1:=Aac hB1
 clear hcell hB1
 go_enter Tryz.func147,Tryz.ntmps147
 go_wp2_with fail
 go_loopw [16] (fun v wr=>∃j:Nat,v=.int .i64 (j:Int)∧j≤s.size∧(s.data.toList.take j).all nameB=true∧wr=W1) (fun v _=>s.size-(intOf v).toNat)
 case atStart=>exact⟨0,rfl,by omega,rfl,rfl⟩
 case round =>
  obtain⟨j,rfl,hj,hall,rfl⟩:=hrel
  have HA:=Aac hall
  clear hall
  rcases Aam j s.size with hlt|hge
  ·have hc:decide ((j:Int)<(s.size:Int))=true:=by simp;omega
   have hcj:=HCELL.out j hlt
   have hb:=(byt s j).toNat_lt
   generalize hcb:((byt s j).toNat)=bb at hb hcj
   have HCB:=Aac hcb
   rcases (show (97≤bb∧bb≤122)∨(48≤bb∧bb≤57)∨bb<48∨bb=95∨(57<bb∧bb<97∧bb≠95)∨122<bb from by omega) with a1|a1|a1|a1|a1|a1
   ·have c1:decide ((bb:Int)<97)=false:=Aaw (by omega)
    have c2:decide (122<(bb:Int))=false:=Aaw (by omega)
    have HN:Hid (nameB (byt s j)=true):=by unfold nameB;rw[HCB.out];simp only[Bool.or_eq_true,Bool.and_eq_true,decide_eq_true_eq,beq_iff_eq];show _∨_;omega
    clear hcb HCB a1
    go_wp2_with fail
    refine⟨⟨j+1,by simp,by omega,Adc HA.out hlt HN.out,by trivial⟩,by simp[intOf];omega⟩
   ·have c1:decide ((bb:Int)<97)=true:=Aav (by omega)
    have c3:decide ((bb:Int)<48)=false:=Aaw (by omega)
    have c4:decide (57<(bb:Int))=false:=Aaw (by omega)
    have HN:Hid (nameB (byt s j)=true):=by unfold nameB;rw[HCB.out];simp only[Bool.or_eq_true,Bool.and_eq_true,decide_eq_true_eq,beq_iff_eq];show _∨_;omega
    clear hcb HCB a1
    go_wp2_with fail
    refine⟨⟨j+1,by simp,by omega,Adc HA.out hlt HN.out,by trivial⟩,by simp[intOf];omega⟩
   ·have c1:decide ((bb:Int)<97)=true:=Aav (by omega)
    have c3:decide ((bb:Int)<48)=true:=Aav (by omega)
    have c5:((bb:Int)==95)=false:=Aaj.2 (by omega)
    have HN:Hid (nameB (byt s j)=false):=by
     unfold nameB
     rw[HCB.out,←Bool.not_eq_true]
     simp only[Bool.or_eq_true,Bool.and_eq_true,decide_eq_true_eq,beq_iff_eq]
     show ¬_;omega
    clear hcb HCB a1
    go_wp2_with fail
    go_ret
    refine⟨?_,HB1.out⟩
    unfold Aki
    rw[Ade hlt HN.out,Bool.and_false];rfl
   ·have c1:decide ((bb:Int)<97)=true:=Aav (by omega)
    have c3:decide ((bb:Int)<48)=false:=Aaw (by omega)
    have c4:decide (57<(bb:Int))=true:=Aav (by omega)
    have c5:((bb:Int)==95)=true:=beq_iff_eq.2 (by omega)
    have HN:Hid (nameB (byt s j)=true):=by unfold nameB;rw[HCB.out];simp only[Bool.or_eq_true,Bool.and_eq_true,decide_eq_true_eq,beq_iff_eq];show _∨_;omega
    clear hcb HCB a1
    go_wp2_with fail
    refine⟨⟨j+1,by simp,by omega,Adc HA.out hlt HN.out,by trivial⟩,by simp[intOf];omega⟩
   ·have c1:decide ((bb:Int)<97)=true:=Aav (by omega)
    have c3:decide ((bb:Int)<48)=false:=Aaw (by omega)
    have c4:decide (57<(bb:Int))=true:=Aav (by omega)
    have c5:((bb:Int)==95)=false:=Aaj.2 (by omega)
    have HN:Hid (nameB (byt s j)=false):=by
     unfold nameB
     rw[HCB.out,←Bool.not_eq_true]
     simp only[Bool.or_eq_true,Bool.and_eq_true,decide_eq_true_eq,beq_iff_eq]
     show ¬_;omega
    clear hcb HCB a1
    go_wp2_with fail
    go_ret
    refine⟨?_,HB1.out⟩
    unfold Aki
    rw[Ade hlt HN.out,Bool.and_false];rfl
   ·have c1:decide ((bb:Int)<97)=false:=Aaw (by omega)
    have c2:decide (122<(bb:Int))=true:=Aav (by omega)
    have c3:decide ((bb:Int)<48)=false:=Aaw (by omega)
    have c4:decide (57<(bb:Int))=true:=Aav (by omega)
    have c5:((bb:Int)==95)=false:=Aaj.2 (by omega)
    have HN:Hid (nameB (byt s j)=false):=by
     unfold nameB
     rw[HCB.out,←Bool.not_eq_true]
     simp only[Bool.or_eq_true,Bool.and_eq_true,decide_eq_true_eq,beq_iff_eq]
     show ¬_;omega
    clear hcb HCB a1
    go_wp2_with fail
    go_ret
    refine⟨?_,HB1.out⟩
    unfold Aki
    rw[Ade hlt HN.out,Bool.and_false];rfl
  ·have hc:decide ((j:Int)<(s.size:Int))=false:=by simp;omega
   go_wp2_with fail
   go_ret
   refine⟨?_,HB1.out⟩
   have:=HA.out
   rw[Aai (by rw[←Lib.size_eq];omega)] at this
   unfold Aki
   rw[this,Aav (p:=1≤s.size) (by omega),Aav (p:=s.size≤16) (by omega)];rfl
end Go.Proofs.YtcnmoobojdopgaaGreatDoor
namespace Go.Proofs.YtcnmoobojdopgaaGreatDoor
open Go.RowKit Tr
theorem Akm(d:Int)(h:okDay d)(w:World):Calls Tryz.prog 95 #[.int .i64 d] w fun e w'=>e=.returned (.int .i64 0)∧w=w':=by
 unfold okDay at h
 have c1:decide (d < -25567)=false:=Aaw (by omega)
 have c2:decide (84005<d)=false:=Aaw (by omega)
 go_enter Tryz.func95,Tryz.ntmps95
 go_wp2_with fail
 all_goals first|(exfalso;omega)|(go_ret;exact⟨rfl,rfl⟩)
theorem Akn(d:Int)(h:¬okDay d)(w:World):Calls Tryz.prog 95 #[.int .i64 d] w fun e w'=>e=.returned (.int .i64 13)∧w=w':=by
 unfold okDay at h
 by_cases h1:d < -25567
 ·have c1:decide (d < -25567)=true:=Aav h1
  clear h
  go_enter Tryz.func95,Tryz.ntmps95
  go_wp2_with fail
  all_goals first|(exfalso;omega)|(go_ret;exact⟨rfl,rfl⟩)
 ·have c1:decide (d < -25567)=false:=Aaw h1
  have c2:decide (84005<d)=true:=Aav (by omega)
  clear h
  go_enter Tryz.func95,Tryz.ntmps95
  go_wp2_with fail
  all_goals first|(exfalso;omega)|(go_ret;exact⟨rfl,rfl⟩)
theorem Akp(s:ByteArray)(hs:s.size≤1000000)(w:World):
 Calls Tryz.prog 93 #[.string s] w fun e w'=>e=.returned (.bool (Aki s))∧w=w':=by
 go_enter Tryz.func93,Tryz.ntmps93
 go_wp2_with fail
 go_loop [3] (fun v=>∃j:Nat,v=.int .i64 (j:Int)∧j≤s.size∧(s.data.toList.take j).all nameB=true) (fun v=>s.size-(intOf v).toNat)
 case atStart=>exact⟨0,rfl,by omega,rfl⟩
 case round =>
  obtain⟨j,rfl,hj,hall⟩:=hrel
  have HA:=Aac hall
  clear hall
  rcases Aam j s.size with hlt|hge
  ·have hb:=(byt s j).toNat_lt
   have hg:s[j].toNat=(byt s j).toNat:=by rw[Adb]
   generalize hbb:(byt s j).toNat=bb at hb hg
   have HCB:=Aac hbb
   clear hbb
   rcases (show (97≤bb∧bb≤122)∨(48≤bb∧bb≤57)∨(bb<48)∨(bb=95)∨(57<bb∧bb<97∧bb≠95)∨(122<bb) from by omega) with a1|a1|a1|a1|a1|a1
   ·have c1:decide ((bb:Int)<97)=false:=Aaw (by omega)
    have c2:decide (122<(bb:Int))=false:=Aaw (by omega)
    have HN:Hid (nameB (byt s j)=true):=by unfold nameB;rw[HCB.out];simp only[Bool.or_eq_true,Bool.and_eq_true,decide_eq_true_eq,beq_iff_eq];show _∨_;omega
    clear HCB a1
    go_wp2_with fail
    go_round
    case rel=>exact⟨j+1,by go_num,by omega,Adc HA.out hlt HN.out⟩
    case measure=>simp[intOf];omega
   ·have c1:decide ((bb:Int)<97)=true:=Aav (by omega)
    have c3:decide ((bb:Int)<48)=false:=Aaw (by omega)
    have c4:decide (57<(bb:Int))=false:=Aaw (by omega)
    have HN:Hid (nameB (byt s j)=true):=by unfold nameB;rw[HCB.out];simp only[Bool.or_eq_true,Bool.and_eq_true,decide_eq_true_eq,beq_iff_eq];show _∨_;omega
    clear HCB a1
    go_wp2_with fail
    go_round
    case rel=>exact⟨j+1,by go_num,by omega,Adc HA.out hlt HN.out⟩
    case measure=>simp[intOf];omega
   ·have c1:decide ((bb:Int)<97)=true:=Aav (by omega)
    have c3:decide ((bb:Int)<48)=true:=Aav (by omega)
    have c5:((bb:Int)==95)=false:=Aaj.2 (by omega)
    have HN:Hid (nameB (byt s j)=false):=by
     unfold nameB
     rw[HCB.out,←Bool.not_eq_true]
     simp only[Bool.or_eq_true,Bool.and_eq_true,decide_eq_true_eq,beq_iff_eq]
     show ¬_;omega
    clear HCB a1
    go_wp2_with fail
    go_ret
    refine⟨?_,rfl⟩
    unfold Aki
    rw[Ade hlt HN.out,Bool.and_false];rfl
   ·have c1:decide ((bb:Int)<97)=true:=Aav (by omega)
    have c3:decide ((bb:Int)<48)=false:=Aaw (by omega)
    have c4:decide (57<(bb:Int))=true:=Aav (by omega)
    have c5:((bb:Int)==95)=true:=beq_iff_eq.2 (by omega)
    have HN:Hid (nameB (byt s j)=true):=by unfold nameB;rw[HCB.out];simp only[Bool.or_eq_true,Bool.and_eq_true,decide_eq_true_eq,beq_iff_eq];show _∨_;omega
    clear HCB a1
    go_wp2_with fail
    go_round
    case rel=>exact⟨j+1,by go_num,by omega,Adc HA.out hlt HN.out⟩
    case measure=>simp[intOf];omega
   ·have c1:decide ((bb:Int)<97)=true:=Aav (by omega)
    have c3:decide ((bb:Int)<48)=false:=Aaw (by omega)
    have c4:decide (57<(bb:Int))=true:=Aav (by omega)
    have c5:((bb:Int)==95)=false:=Aaj.2 (by omega)
    have HN:Hid (nameB (byt s j)=false):=by
     unfold nameB
     rw[HCB.out,←Bool.not_eq_true]
     simp only[Bool.or_eq_true,Bool.and_eq_true,decide_eq_true_eq,beq_iff_eq]
     show ¬_;omega
    clear HCB a1
    go_wp2_with fail
    go_ret
    refine⟨?_,rfl⟩
    unfold Aki
    rw[Ade hlt HN.out,Bool.and_false];rfl
   ·have c1:decide ((bb:Int)<97)=false:=Aaw (by omega)
    have c2:decide (122<(bb:Int))=true:=Aav (by omega)
    have c3:decide ((bb:Int)<48)=false:=Aaw (by omega)
    have c4:decide (57<(bb:Int))=true:=Aav (by omega)
    have c5:((bb:Int)==95)=false:=Aaj.2 (by omega)
    have HN:Hid (nameB (byt s j)=false):=by
     unfold nameB
     rw[HCB.out,←Bool.not_eq_true]
     simp only[Bool.or_eq_true,Bool.and_eq_true,decide_eq_true_eq,beq_iff_eq]
     show ¬_;omega
    clear HCB a1
    go_wp2_with fail
    go_ret
    refine⟨?_,rfl⟩
    unfold Aki
    rw[Ade hlt HN.out,Bool.and_false];rfl
  ·have hjs:j=s.size:=by omega
   subst hjs
   have HALL:Hid (s.data.toList.all nameB=true):=by
    have:=HA.out
    rwa [Aai (by rw[←Lib.size_eq];exact Aad _)] at this
   clear HA hge
   rcases (show s.size=0∨(1≤s.size∧s.size≤16)∨16<s.size from by omega) with a1|a1|a1
   ·have HR:Hid (Aki s=false):=by unfold Aki;rw[Aaw (by omega)];rfl
    go_wp2_with fail
    all_goals first|(exfalso;omega)|(go_ret;exact⟨by rw[HR.out];first|rfl|(rw[←a2];rfl),rfl⟩)
   ·have HR:Hid (Aki s=true):=by unfold Aki;rw[HALL.out,Aav (by omega),Aav (by omega)];rfl
    have a2:decide ((s.size:Int)≤16)=true:=Aav (by omega)
    go_wp2_with fail
    all_goals first|(exfalso;omega)|(go_ret;exact⟨by rw[HR.out];first|rfl|(rw[←a2];rfl),rfl⟩)
   ·have HR:Hid (Aki s=false):=by unfold Aki;rw[Aaw (p:=s.size≤16) (by omega),Bool.and_false];rfl
    have a2:decide ((s.size:Int)≤16)=false:=Aaw (by omega)
    go_wp2_with fail
    all_goals first|(exfalso;omega)|(go_ret;exact⟨by rw[HR.out];first|rfl|(rw[←a2];rfl),rfl⟩)
theorem Akq(s:ByteArray)(hs:s.size≤1000000)(w:World):
 Calls Tryz.prog 94 #[.string s] w fun e w'=>e=.returned (.bool (Akj s))∧w=w':=by
 go_enter Tryz.func94,Tryz.ntmps94
 go_wp2_with fail
 go_loop [3] (fun v=>∃j:Nat,v=.int .i64 (j:Int)∧j≤s.size∧(s.data.toList.take j).all codeB=true) (fun v=>s.size-(intOf v).toNat)
 case atStart=>exact⟨0,rfl,by omega,rfl⟩
 case round =>
  obtain⟨j,rfl,hj,hall⟩:=hrel
  have HA:=Aac hall
  clear hall
  rcases Aam j s.size with hlt|hge
  ·have hb:=(byt s j).toNat_lt
   have hg:s[j].toNat=(byt s j).toNat:=by rw[Adb]
   generalize hbb:(byt s j).toNat=bb at hb hg
   have HCB:=Aac hbb
   clear hbb
   rcases (show (65≤bb∧bb≤90)∨(bb<65)∨(90<bb) from by omega) with a1|a1|a1
   ·have c1:decide ((bb:Int)<65)=false:=Aaw (by omega)
    have c2:decide (90<(bb:Int))=false:=Aaw (by omega)
    have HN:Hid (codeB (byt s j)=true):=by unfold codeB;rw[HCB.out];simp only[Bool.or_eq_true,Bool.and_eq_true,decide_eq_true_eq,beq_iff_eq];show _∧_;omega
    clear HCB a1
    go_wp2_with fail
    go_round
    case rel=>exact⟨j+1,by go_num,by omega,Adc HA.out hlt HN.out⟩
    case measure=>simp[intOf];omega
   ·have c1:decide ((bb:Int)<65)=true:=Aav (by omega)
    have HN:Hid (codeB (byt s j)=false):=by
     unfold codeB
     rw[HCB.out,←Bool.not_eq_true]
     simp only[Bool.or_eq_true,Bool.and_eq_true,decide_eq_true_eq,beq_iff_eq]
     show ¬_;omega
    clear HCB a1
    go_wp2_with fail
    go_ret
    refine⟨?_,rfl⟩
    unfold Akj
    rw[Ade hlt HN.out,Bool.and_false];rfl
   ·have c1:decide ((bb:Int)<65)=false:=Aaw (by omega)
    have c2:decide (90<(bb:Int))=true:=Aav (by omega)
    have HN:Hid (codeB (byt s j)=false):=by
     unfold codeB
     rw[HCB.out,←Bool.not_eq_true]
     simp only[Bool.or_eq_true,Bool.and_eq_true,decide_eq_true_eq,beq_iff_eq]
     show ¬_;omega
    clear HCB a1
    go_wp2_with fail
    go_ret
    refine⟨?_,rfl⟩
    unfold Akj
    rw[Ade hlt HN.out,Bool.and_false];rfl
  ·have hjs:j=s.size:=by omega
   subst hjs
   have HALL:Hid (s.data.toList.all codeB=true):=by
    have:=HA.out
    rwa [Aai (by rw[←Lib.size_eq];exact Aad _)] at this
   clear HA hge
   by_cases a1:s.size=3
   ·have HR:Hid (Akj s=true):=by unfold Akj;rw[HALL.out,Aav a1];rfl
    have a2:((s.size:Int)==3)=true:=beq_iff_eq.2 (by omega)
    go_wp2_with fail
    all_goals first|(exfalso;omega)|(go_ret;exact⟨by rw[HR.out];first|rfl|(rw[←a2];rfl),rfl⟩)
   ·have HR:Hid (Akj s=false):=by unfold Akj;rw[Aaw a1];rfl
    have a2:((s.size:Int)==3)=false:=Aaj.2 (by omega)
    go_wp2_with fail
    all_goals first|(exfalso;omega)|(go_ret;exact⟨by rw[HR.out];first|rfl|(rw[←a2];rfl),rfl⟩)
end Go.Proofs.YtcnmoobojdopgaaGreatDoor
namespace Go.Proofs.YtcnmoobojdopgaaGreatDoor
open Go.RowKit Tr Go.Shelf
theorem Akr(s:ByteArray)(hs:s.size≤1000000)(w:World):
 Calls Tryz.prog 148 #[.string s] w fun e w'=>e=.returned (.bool (Akj s))∧Below w.heap.size w w':=by
 rcases (show s.size≠3∨s.size=3 from by omega) with h1|h1
 ·have e1:((s.size:Int)==3)=false:=Aaj.2 (by omega)
  have hr:Akj s=false:=by unfold Akj;rw[Aaw (p:=s.size=3) (by omega)];rfl
  go_enter Tryz.func148,Tryz.ntmps148
  go_wp2_with fail
  go_ret
  exact⟨by rw[hr];rfl,Below.refl _ _⟩
 have e1:((s.size:Int)==3)=true:=beq_iff_eq.2 (by omega)
 have H1:=Aac h1
 have h3:s.size≤3:=by omega
 clear h1
 have hcv:=Lib.run_convert_string_bytes (P:=Tryz.prog) w 9 210 5 s (u:=.string) Tryz.underlying9 Tryz.underlying210 Tryz.underlying5
 have hB1:=Lib.bytesWorld_below w 5 s
 have hcell:∀j,j<s.size→(Lib.bytesWorld w 5 s).cell? ⟨w.heap.size,j,none⟩=some (.int .u8 ((byt s j).toNat:Int)):=fun j hj=>Lib.bytesWorld_cell w 5 s j hj
 generalize Lib.bytesWorld w 5 s=W1 at hcv hB1 hcell
 generalize grownCap w s.size 0 5=cp at hcv
 have HCELL:=Aac hcell
 have HB1:=Aac hB1
 clear hcell hB1
 go_enter Tryz.func148,Tryz.ntmps148
 go_wp2_with fail
 go_loopw [11] (fun v wr=>∃j:Nat,v=.int .i64 (j:Int)∧j≤s.size∧(s.data.toList.take j).all codeB=true∧wr=W1) (fun v _=>s.size-(intOf v).toNat)
 case atStart=>exact⟨0,rfl,by omega,rfl,rfl⟩
 case round =>
  obtain⟨j,rfl,hj,hall,rfl⟩:=hrel
  have HA:=Aac hall
  clear hall
  rcases Aam j s.size with hlt|hge
  ·have hc:decide ((j:Int)<(s.size:Int))=true:=by simp;omega
   have hcj:=HCELL.out j hlt
   have hb:=(byt s j).toNat_lt
   generalize hcb:((byt s j).toNat)=bb at hb hcj
   have HCB:=Aac hcb
   rcases (show (65≤bb∧bb≤90)∨bb<65∨90<bb from by omega) with a1|a1|a1
   ·have c1:decide ((bb:Int)<65)=false:=Aaw (by omega)
    have c2:decide (90<(bb:Int))=false:=Aaw (by omega)
    have HN:Hid (codeB (byt s j)=true):=by unfold codeB;rw[HCB.out];simp only[Bool.and_eq_true,decide_eq_true_eq];show _∧_;omega
    clear hcb HCB a1
    go_wp2_with fail
    refine⟨⟨j+1,by simp,by omega,Adc HA.out hlt HN.out,by trivial⟩,by simp[intOf];omega⟩
   ·have c1:decide ((bb:Int)<65)=true:=Aav (by omega)
    have HN:Hid (codeB (byt s j)=false):=by
     unfold codeB
     rw[HCB.out,←Bool.not_eq_true]
     simp only[Bool.and_eq_true,decide_eq_true_eq]
     show ¬_;omega
    clear hcb HCB a1
    go_wp2_with fail
    go_ret
    refine⟨?_,HB1.out⟩
    unfold Akj
    rw[Ade hlt HN.out,Bool.and_false];rfl
   ·have c1:decide ((bb:Int)<65)=false:=Aaw (by omega)
    have c2:decide (90<(bb:Int))=true:=Aav (by omega)
    have HN:Hid (codeB (byt s j)=false):=by
     unfold codeB
     rw[HCB.out,←Bool.not_eq_true]
     simp only[Bool.and_eq_true,decide_eq_true_eq]
     show ¬_;omega
    clear hcb HCB a1
    go_wp2_with fail
    go_ret
    refine⟨?_,HB1.out⟩
    unfold Akj
    rw[Ade hlt HN.out,Bool.and_false];rfl
  ·have hc:decide ((j:Int)<(s.size:Int))=false:=by simp;omega
   go_wp2_with fail
   go_ret
   refine⟨?_,HB1.out⟩
   have:=HA.out
   rw[Aai (by rw[←Lib.size_eq];omega)] at this
   unfold Akj
   rw[this,Aav (p:=s.size=3) H1.out];rfl
theorem Aks(d:Int)(w:World):
 Calls Tryz.prog 149 #[.int .i64 d] w fun e w'=>e=.returned (.bool (decide (okDay d)))∧w'=w:=by
 go_enter Tryz.func149,Tryz.ntmps149
 go_wp2_with fail
 all_goals (go_ret;refine⟨?_,rfl⟩;first|(rw[Aav (p:=okDay d) (by unfold okDay;omega)];rfl)|(rw[Aaw (p:=okDay d) (by unfold okDay;omega)];rfl)|(simp[okDay, *];done))
def ndig(a:ByteArray):Nat:=if byt a 0=45∧a.size≠0 then a.size-1 else a.size
theorem Akt(a:ByteArray)(ha:a.size≤1000000)(w:World):
 Calls Tryz.prog 214 #[.string a] w fun e w'=>e=.returned (.int .i64 (ndig a:Nat))∧w'=w:=by
 rcases Aaq a.size with h0|h0
 ·have h1:a.toList=[]:=by rw[Lib.toList_data];exact Aag (by rw[←Lib.size_eq];exact h0)
  have hr:ndig a=0:=by unfold ndig;rw[if_neg (by omega)];exact h0
  go_enter Tryz.func214,Tryz.ntmps214
  go_wp2_with fail
  go_ret
  exact⟨by rw[hr];simp[h0],rfl⟩
 ·have h1:a.toList≠[]:=by
   rw[Lib.toList_data];intro e
   have:=congrArg List.length e
   rw[←Lib.size_eq] at this;rw[this] at h0;exact absurd h0 (by decide)
  have h2:(!a.toList.isEmpty)=true:=by simp[h1]
  by_cases hm:byt a 0=45
  ·have hr:ndig a=a.size-1:=by unfold ndig;rw[if_pos ⟨hm,by omega⟩]
   have h3:((a[0].toNat:Int)==45)=true:=by rw[Adb,hm];rfl
   go_enter Tryz.func214,Tryz.ntmps214
   go_wp2_with fail
   go_ret
   exact⟨by rw[hr,show ((a.size-1:Nat):Int)=(a.size:Int)-1 from by omega];rfl,rfl⟩
  ·have hr:ndig a=a.size:=by unfold ndig;rw[if_neg (fun h=>hm h.1)]
   have h3:((a[0].toNat:Int)==45)=false:=by
    rw[Adb,Aaj];intro e
    exact hm (UInt8.toNat.inj (by simpa using (show (byt a 0).toNat=45 from by omega)))
   go_enter Tryz.func214,Tryz.ntmps214
   go_wp2_with fail
   go_ret
   exact⟨by rw[hr];rfl,rfl⟩
theorem Aku(n d:ByteArray)(hn:n.size≤1000000)(w:World):
 Calls Tryz.prog 260 #[.agg #[.string n,.string d]] w fun e w'=>e=.returned (.int .i64 (cmpI (vl n) 0))∧Below w.heap.size w w':=by
 have HB:=Aac ((Below.refl _ w).alloc (Aad _) (Obj.cells #[.string n,.string d] 25))
 have HC:=Aac (Agf n ⟨#[]⟩ (w.alloc (Obj.cells #[.string n,.string d] 25)) (by omega) (by show 0≤_;omega))
 rw[show vl (⟨#[]⟩:ByteArray)=0 from by rw[zero_eq,vl_I]] at HC
 go_enter Tryz.func260,Tryz.ntmps260
 go_wp2_with fail
 refine HC.out.mono ?_
 rintro e w1 ⟨rfl,B1⟩
 go_wp2_with fail
 go_ret
 exact⟨rfl,HB.out.trans (B1.mono HB.out.size)⟩
end Go.Proofs.YtcnmoobojdopgaaGreatDoor
namespace Go.Proofs.YtcnmoobojdopgaaGreatDoor
open Go.RowKit Tr
theorem Akv(a:ByteArray)(ha:a.size≤1000000)(w:World):
 Calls Tryz.prog 160 #[.string a] w fun e w'=>e=.returned (.int .i64 (ndig a:Nat))∧w=w':=by
 rcases Aaq a.size with h0|h0
 ·have HR:Hid (ndig a=a.size):=by unfold ndig;rw[if_neg (by omega)];trivial
  have c1:decide ((0:Int)<(a.size:Int))=false:=Aaw (by omega)
  go_enter Tryz.func160,Tryz.ntmps160
  go_wp2_with fail
  all_goals first|(exfalso;omega)|(go_ret;exact⟨by rw[HR.out,h0];rfl,rfl⟩)
 ·have c1:decide ((0:Int)<(a.size:Int))=true:=Aav (by omega)
  by_cases hm:byt a 0=45
  ·have HR:Hid ((ndig a:Int)=(a.size:Int)-1):=by unfold ndig;rw[if_pos ⟨hm,by omega⟩];show _=_;omega
   have h3:((a[0].toNat:Int)==45)=true:=by rw[Adb,hm];rfl
   clear hm
   go_enter Tryz.func160,Tryz.ntmps160
   go_wp2_with fail
   all_goals first|(exfalso;omega)|(go_ret;exact⟨by rw[HR.out];rfl,rfl⟩)
  ·have HR:Hid (ndig a=a.size):=by unfold ndig;rw[if_neg (fun h=>hm h.1)];trivial
   have h3:((a[0].toNat:Int)==45)=false:=by
    rw[Adb,Aaj];intro e
    exact hm (UInt8.toNat.inj (by simpa using (show (byt a 0).toNat=45 from by omega)))
   clear hm
   go_enter Tryz.func160,Tryz.ntmps160
   go_wp2_with fail
   all_goals first|(exfalso;omega)|(go_ret;exact⟨by rw[HR.out];rfl,rfl⟩)
theorem Akw(a:ByteArray):ndig a≤a.size:=by unfold ndig;split<;>omega
theorem Akx(n d:ByteArray)(ha:n.size≤16)(hb:d.size≤16)(hc:CanQ n d)(w:World):
 Calls Tryz.prog 96 #[.agg #[.string n,.string d]] w fun e w'=>e=.returned (.int .i64 0)∧Below w.heap.size w w':=by
 have HB:=Aac ((Below.refl _ w).alloc (Aad _) (Obj.cells #[.string n,.string d] 25))
 obtain⟨W0,hW0⟩:∃W0,w.alloc (Obj.cells #[.string n,.string d] 25)=W0:=⟨_,rfl⟩
 have hk:W0.heap[w.heap.size]?=some (Obj.cells #[.string n,.string d] 25):=by rw[←hW0];exact Aax w _
 rw[hW0] at HB
 have b0:=Aaa hk 0
 have b1:=Aaa hk 1
 simp at b0 b1
 have HM:=Aac (fun W=>Ah1 n d ha hb hc W)
 have HD1:=Aac (Akv n (by omega))
 have HD2:=Aac (Akv d (by omega))
 have l1:=Akw n
 have l2:=Akw d
 have c3:decide ((40:Int)<(ndig n:Int))=false:=Aaw (by omega)
 have c4:decide ((40:Int)<(ndig d:Int))=false:=Aaw (by omega)
 clear hk ha hb hc l1 l2
 go_enter Tryz.func96,Tryz.ntmps96
 go_wp2_with fail
 try rw[hW0]
 refine (HM.out _).mono ?_
 rintro e w1 ⟨rfl,hb1⟩
 have d0:=keepc b0 hb1
 have d1:=keepc b1 hb1
 have HB1:=Aac (HB.out.trans (hb1.mono HB.out.size))
 clear hb1 b0 b1
 go_wp2_with fail
 refine (HD1.out _).mono ?_
 rintro e w2 ⟨rfl,rfl⟩
 go_wp2_with fail
 all_goals (refine (HD2.out _).mono ?_;rintro e w2 ⟨rfl,rfl⟩;go_wp2_with fail)
 all_goals first|(exfalso;omega)|(go_ret;exact⟨rfl,HB1.out⟩)
theorem Aky(n d:ByteArray)(ha:n.size≤16)(hb:d.size≤16)(hc:¬CanQ n d)(w:World):
 Calls Tryz.prog 96 #[.agg #[.string n,.string d]] w fun e w'=>e=.returned (.int .i64 1)∧Below w.heap.size w w':=by
 have HB:=Aac ((Below.refl _ w).alloc (Aad _) (Obj.cells #[.string n,.string d] 25))
 obtain⟨W0,hW0⟩:∃W0,w.alloc (Obj.cells #[.string n,.string d] 25)=W0:=⟨_,rfl⟩
 have hk:W0.heap[w.heap.size]?=some (Obj.cells #[.string n,.string d] 25):=by rw[←hW0];exact Aax w _
 rw[hW0] at HB
 have b0:=Aaa hk 0
 have b1:=Aaa hk 1
 simp at b0 b1
 have HM:=Aac (fun W=>Ah2 n d ha hb hc W)
 clear hk ha hb hc
 go_enter Tryz.func96,Tryz.ntmps96
 go_wp2_with fail
 try rw[hW0]
 refine (HM.out _).mono ?_
 rintro e w1 ⟨rfl,hb1⟩
 have HB1:=Aac (HB.out.trans (hb1.mono HB.out.size))
 clear hb1 b0 b1
 go_wp2_with fail
 go_ret
 exact⟨rfl,HB1.out⟩
end Go.Proofs.YtcnmoobojdopgaaGreatDoor
namespace Go.Proofs.YtcnmoobojdopgaaGreatDoor
open Go.RowKit Tr Go.Shelf
open Classical in
noncomputable def Akz(n d:ByteArray):Int:=if ¬CanQ n d then 1 else if 40<ndig n∨40<ndig d then 4 else 0
theorem Ak0(n d:ByteArray)(hn:n.size≤1000000)(hd:d.size≤1000000)(w:World)(ht:Tabs w):
 Calls Tryz.prog 151 #[.agg #[.string n,.string d]] w fun e w'=>e=.returned (.int .i64 (Akz n d))∧Below w.heap.size w w':=by
 have HB:=Aac ((Below.refl _ w).alloc (Aad _) (Obj.cells #[.string n,.string d] 25))
 obtain⟨W0,hW0⟩:∃W0,w.alloc (Obj.cells #[.string n,.string d] 25)=W0:=⟨_,rfl⟩
 have hk:W0.heap[w.heap.size]?=some (Obj.cells #[.string n,.string d] 25):=by rw[←hW0];exact Aax w _
 rw[hW0] at HB
 have b0:=Aaa hk 0
 have b1:=Aaa hk 1
 simp at b0 b1
 have HT:=Aac (ht.below HB.out)
 clear ht hk
 by_cases hc:CanQ n d
 ·have HC:=Aac (Ahx n d W0 (by omega) (by omega) hc HT.out)
  have HN:Hid (Akz n d=if 40<ndig n∨40<ndig d then 4 else 0):=by unfold Akz;rw[if_neg (by simpa using hc)];exact Eq.refl _
  clear hc
  by_cases h4:40<ndig n∨40<ndig d
  ·have hm:decide ((40:Int)<max (ndig n:Int) (ndig d:Int))=true:=Aav (by omega)
   have H4:=Aac h4
   clear h4
   go_enter Tryz.func151,Tryz.ntmps151
   go_wp2_with fail
   refine HC.out.mono ?_
   rintro e w1 ⟨rfl,B1⟩
   have c0:=keepc b0 B1
   have c1:=keepc b1 B1
   have HB1:=Aac (HB.out.trans (B1.mono HB.out.size))
   clear B1 HC
   go_wp2_with fail
   go_region_held3 (fun W=>W.cell? ⟨w.heap.size,0,none⟩=some (.string n)∧W.cell? ⟨w.heap.size,1,none⟩=some (.string d))
    (refine⟨?_,?_⟩<;>first|assumption|(go_simp;done))
    (first
      | (go_at_call_of 214 [Value.string n];refine (Akt n (by omega) w1.drew).mono ?_;rintro e w2 ⟨rfl,rfl⟩)
      | (go_at_call_of 214 [Value.string d];refine (Akt d (by omega) w1.drew).mono ?_;rintro e w3 ⟨rfl,rfl⟩))
   go_wp2_with fail
   go_ret
   exact⟨by rw[HN.out,if_pos H4.out];rfl,HB1.out.drew⟩
  ·have hm:decide ((40:Int)<max (ndig n:Int) (ndig d:Int))=false:=Aaw (by omega)
   have H4:=Aac h4
   clear h4
   go_enter Tryz.func151,Tryz.ntmps151
   go_wp2_with fail
   refine HC.out.mono ?_
   rintro e w1 ⟨rfl,B1⟩
   have c0:=keepc b0 B1
   have c1:=keepc b1 B1
   have HB1:=Aac (HB.out.trans (B1.mono HB.out.size))
   clear B1 HC
   go_wp2_with fail
   go_region_held3 (fun W=>W.cell? ⟨w.heap.size,0,none⟩=some (.string n)∧W.cell? ⟨w.heap.size,1,none⟩=some (.string d))
    (refine⟨?_,?_⟩<;>first|assumption|(go_simp;done))
    (first
      | (go_at_call_of 214 [Value.string n];refine (Akt n (by omega) w1.drew).mono ?_;rintro e w2 ⟨rfl,rfl⟩)
      | (go_at_call_of 214 [Value.string d];refine (Akt d (by omega) w1.drew).mono ?_;rintro e w3 ⟨rfl,rfl⟩))
   go_wp2_with fail
   go_ret
   exact⟨by rw[HN.out,if_neg H4.out];rfl,HB1.out.drew⟩
 ·have HC:=Aac (Ahy n d W0 (by omega) (by omega) hc HT.out)
  have HN:Hid (Akz n d=1):=by unfold Akz;rw[if_pos hc];exact Eq.refl _
  clear hc
  go_enter Tryz.func151,Tryz.ntmps151
  go_wp2_with fail
  refine HC.out.mono ?_
  rintro e w1 ⟨rfl,B1⟩
  go_wp2_with fail
  go_ret
  exact⟨by rw[HN.out];rfl,HB.out.trans (B1.mono HB.out.size)⟩
structure Inst where
 id:ByteArray
 kind:Int
 cur:ByteArray
 places:Int
 issued:Int
 matures:Int
 fn:ByteArray
 fd:ByteArray
 cn:ByteArray
 cd:ByteArray
 months:Int
 count:Int
 other:ByteArray
 sn:ByteArray
 sd:ByteArray
abbrev Inst.cells(i:Inst):Array Value:=#[.string i.id,.int .i64 i.kind,.string i.cur,.int .i64 i.places,.int .i64 i.issued,.int .i64 i.matures,.string i.fn,.string i.fd,.string i.cn,.string i.cd,.int .i64 i.months,.int .i64 i.count,.string i.other,.string i.sn,.string i.sd]
abbrev Inst.enc(i:Inst):Value:=.agg i.cells
def Inst.sized(i:Inst):Prop:=i.id.size≤1000000∧i.cur.size≤1000000∧i.fn.size≤1000000∧i.fd.size≤1000000∧i.cn.size≤1000000∧i.cd.size≤1000000∧i.other.size≤1000000∧i.sn.size≤1000000∧i.sd.size≤1000000
theorem ibox(i:Inst)(w:World):∃W0,w.alloc (.cells i.cells 27)=W0∧Below w.heap.size w W0∧W0.heap.size=w.heap.size+1∧W0.heap[w.heap.size]?=some (.cells i.cells 27) :=
 ⟨_,rfl,(Below.refl _ w).alloc (Aad _) _,by simp,Aax w _⟩
theorem Ak1(s:ByteArray):(s.toList==[])=decide (s=⟨#[]⟩):=by
 by_cases h:s=⟨#[]⟩
 ·subst h;rw[Lib.toList_data];rfl
 ·rw[Aaw h,show ([]:List UInt8)=(⟨#[]⟩:ByteArray).toList from by rw[Lib.toList_data]]
  exact Ac7 h
def Ak2(i:Inst):Prop:=vl i.fn=0∧vl i.cn=0∧i.months=0∧i.count=0∧vl i.sn=0∧i.other=⟨#[]⟩
theorem Ak3(i:Inst)(hs:i.sized)(h:Ak2 i)(w:World):
 Calls Tryz.prog 211 #[i.enc] w fun e w'=>e=.returned (.int .i64 0)∧Below w.heap.size w w':=by
 obtain⟨h1,h2,h3,h4,h5,h6⟩:=h
 obtain⟨W0,hW0,hB0,hz,hk⟩:=ibox i w
 obtain⟨c0,c1,c2,c3,c4,c5,c6,c7,c8,c9,c10,c11,c12,c13,c14⟩:=Acn hk
 have HB0:=Aac hB0
 have hlt:w.heap.size<W0.heap.size:=by omega
 obtain⟨z1,z2,z3,z4,z5,z6,z7,z8,z9⟩:=hs
 clear hk hB0 hz
 have S1:=fun W=>Aku i.fn i.fd (by omega) W
 have S2:=fun W=>Aku i.cn i.cd (by omega) W
 have S3:=fun W=>Aku i.sn i.sd (by omega) W
 rw[h1,show cmpI 0 0=0 from rfl] at S1
 rw[h2,show cmpI 0 0=0 from rfl] at S2
 rw[h5,show cmpI 0 0=0 from rfl] at S3
 rw[h3] at c10
 rw[h4] at c11
 rw[h6] at c12
 have HS1:=Aac S1
 have HS2:=Aac S2
 have HS3:=Aac S3
 clear S1 S2 S3 h1 h2 h3 h4 h5 h6
 unfold Inst.enc Inst.cells at *
 go_enter Tryz.func211,Tryz.ntmps211
 go_wp2_with fail
 refine (HS1.out W0).mono ?_
 rintro e w1 ⟨rfl,B1⟩
 have d8:=keepc c8 B1
 have d9:=keepc c9 B1
 have d10:=keepc c10 B1
 have d11:=keepc c11 B1
 have d12:=keepc c12 B1
 have d13:=keepc c13 B1
 have d14:=keepc c14 B1
 have HB1:=Aac (HB0.out.trans (B1.mono HB0.out.size))
 clear B1 c0 c1 c2 c3 c4 c5 c6 c7 c8 c9 c10 c11 c12 c13 c14
 go_wp2_with fail
 refine (HS2.out w1).mono ?_
 rintro e w2 ⟨rfl,B2⟩
 have g10:=keepc d10 B2
 have g11:=keepc d11 B2
 have g12:=keepc d12 B2
 have g13:=keepc d13 B2
 have g14:=keepc d14 B2
 have HB2:=Aac (HB1.out.trans (B2.mono HB1.out.size))
 clear B2 d8 d9 d10 d11 d12 d13 d14
 go_wp2_with fail
 refine (HS3.out w2).mono ?_
 rintro e w3 ⟨rfl,B3⟩
 have k12:=keepc g12 B3
 have HB3:=Aac (HB2.out.trans (B3.mono HB2.out.size))
 clear B3 g10 g11 g12 g13 g14
 go_wp2_with fail
 go_ret
 exact⟨rfl,HB3.out⟩
def monthsL:List Int:=[1,2,3,4,6,12]
def Ak4(i:Inst):Prop:=0<vl i.fn∧0≤vl i.cn∧i.months∈monthsL∧1≤i.count∧i.count≤5∧i.other=⟨#[]⟩∧vl i.sn=0
theorem Ak5(i:Inst)(hs:i.sized)(h:Ak4 i)(w:World):
 Calls Tryz.prog 212 #[i.enc] w fun e w'=>e=.returned (.int .i64 0)∧Below w.heap.size w w':=by
 obtain⟨h1,h2,h3,h4,h5,h6,h7⟩:=h
 obtain⟨W0,hW0,hB0,hz,hk⟩:=ibox i w
 obtain⟨W1,hW1⟩:∃W1,W0.alloc (.cells #[.int .i64 1,.int .i64 2,.int .i64 3,.int .i64 4,.int .i64 6,.int .i64 12] 262)=W1:=⟨_,rfl⟩
 have hB1:Below w.heap.size w W1:=by rw[←hW1];exact hB0.alloc (by omega) _
 have hk1:W1.heap[w.heap.size]?=some (.cells i.cells 27):=by rw[←hW1];exact (Below.heap_alloc _ _ _ (by omega)).trans hk
 have hkm:W1.heap[w.heap.size+1]?=some (.cells #[.int .i64 1,.int .i64 2,.int .i64 3,.int .i64 4,.int .i64 6,.int .i64 12] 262):=by
  rw[←hW1,←hz];exact Aax W0 _
 have c6:=Aaa hk1 6
 have c7:=Aaa hk1 7
 have c8:=Aaa hk1 8
 have c9:=Aaa hk1 9
 have c10:=Aaa hk1 10
 have c11:=Aaa hk1 11
 have c12:=Aaa hk1 12
 have c13:=Aaa hk1 13
 have c14:=Aaa hk1 14
 simp at c6 c7 c8 c9 c10 c11 c12 c13 c14
 have HB1:=Aac hB1
 have HKM:=Aac hkm
 obtain⟨z1,z2,z3,z4,z5,z6,z7,z8,z9⟩:=hs
 have hsz:W0.heap.size=w.heap.size+1:=hz
 have hoe:(i.other.toList==[])=true:=by rw[Ak1,Aav h6]
 have q1:decide (cmpI (vl i.fn) 0≤0)=false:=Aaw (by rw[Ac9];omega)
 have q2:decide (cmpI (vl i.cn) 0<0)=false:=Aaw (by rw[cmpI_lt];omega)
 have q3:decide (i.count<1)=false:=Aaw (by omega)
 have q4:decide (5<i.count)=false:=Aaw (by omega)
 have q5:(cmpI (vl i.sn) 0==0)=true:=beq_iff_eq.2 (cmpI_eq.2 h7)
 have H3:=Aac h3
 clear hk hB0 hz hk1 hkm hB1 h1 h2 h3 h4 h5 h6 h7
 unfold Inst.enc Inst.cells at *
 go_enter Tryz.func212,Tryz.ntmps212
 go_wp2_with fail
 go_region_held3 (fun W=>W.cell? ⟨w.heap.size,6,none⟩=some (.string i.fn)∧W.cell? ⟨w.heap.size,7,none⟩=some (.string i.fd)∧W.cell? ⟨w.heap.size,8,none⟩=some (.string i.cn)∧W.cell? ⟨w.heap.size,9,none⟩=some (.string i.cd)∧W.cell? ⟨w.heap.size,10,none⟩=some (.int .i64 i.months)∧W.cell? ⟨w.heap.size,11,none⟩=some (.int .i64 i.count))
  (refine⟨?_,?_,?_,?_,?_,?_⟩<;>first|assumption|(go_simp;done))
  (first
    | (go_at_call_of 260 [Value.agg #[Value.string i.fn,Value.string i.fd]];refine (Aku i.fn i.fd (by omega) W1.drew).mono ?_;rintro e w1 ⟨rfl,b1⟩;have d6:=keepc c6 b1;have d7:=keepc c7 b1;have d8:=keepc c8 b1;have d9:=keepc c9 b1;have d10:=keepc c10 b1;have d11:=keepc c11 b1;have d12:=keepc c12 b1;have d13:=keepc c13 b1;have d14:=keepc c14 b1;have HB2:=Aac (HB1.out.drew.trans (b1.mono HB1.out.size));have HKM1:=Aac ((b1.block (w.heap.size+1) (Aab.1 HKM.out).1).trans HKM.out);clear b1)
    | (go_at_call_of 260 [Value.agg #[Value.string i.cn,Value.string i.cd]];refine (Aku i.cn i.cd (by omega) w1).mono ?_;rintro e w2 ⟨rfl,b2⟩;have g6:=keepc d6 b2;have g7:=keepc d7 b2;have g8:=keepc d8 b2;have g9:=keepc d9 b2;have g10:=keepc d10 b2;have g11:=keepc d11 b2;have g12:=keepc d12 b2;have g13:=keepc d13 b2;have g14:=keepc d14 b2;have HB3:=Aac (HB2.out.trans (b2.mono HB2.out.size));have HKM2:=Aac ((b2.block (w.heap.size+1) (Aab.1 HKM1.out).1).trans HKM1.out);clear b2)
    | (go_at_call 261;refine (Tryz.slices_Contains_int (w.heap.size+1) 0 6 6 monthsL i.months w2 (by decide) (by decide) (fun j hj=>by rw[Aaa HKM2.out];match j,hj with|0,_=>rfl|1,_=>rfl|2,_=>rfl|3,_=>rfl|4,_=>rfl|5,_=>rfl)).mono ?_;rintro e w3 ⟨rfl,rfl⟩;rw[show (monthsL.take 6).contains i.months=true from by rw[List.contains_iff_mem];exact H3.out]))
 go_wp2_with fail
 refine (Aku i.sn i.sd (by omega) w3).mono ?_
 rintro e w4 ⟨rfl,b4⟩
 go_wp2_with fail
 go_ret
 exact⟨rfl,HB3.out.trans (b4.mono HB3.out.size)⟩
def fwdOk(i:Inst):Prop:=Akj i.other=true∧i.other≠i.cur∧0<vl i.sn∧vl i.fn=0∧vl i.cn=0∧i.months=0∧i.count=0
theorem Ak6(i:Inst)(hs:i.sized)(h:fwdOk i)(w:World):
 Calls Tryz.prog 213 #[i.enc] w fun e w'=>e=.returned (.int .i64 0)∧Below w.heap.size w w':=by
 obtain⟨h1,h2,h3,h4,h5,h6,h7⟩:=h
 obtain⟨W0,hW0,hB0,hz,hk⟩:=ibox i w
 have c2:=Aaa hk 2
 have c6:=Aaa hk 6
 have c7:=Aaa hk 7
 have c8:=Aaa hk 8
 have c9:=Aaa hk 9
 have c10:=Aaa hk 10
 have c11:=Aaa hk 11
 have c12:=Aaa hk 12
 have c13:=Aaa hk 13
 have c14:=Aaa hk 14
 simp at c2 c6 c7 c8 c9 c10 c11 c12 c13 c14
 have HB0:=Aac hB0
 obtain⟨z1,z2,z3,z4,z5,z6,z7,z8,z9⟩:=hs
 have S0:=fun W=>Akr i.other (by omega) W
 rw[h1] at S0
 have HS0:=Aac S0
 have q0:(i.other.toList==i.cur.toList)=false:=Ac7 h2
 have q1:decide (cmpI (vl i.sn) 0≤0)=false:=Aaw (by rw[Ac9];omega)
 have S1:=fun W=>Aku i.fn i.fd (by omega) W
 have S2:=fun W=>Aku i.cn i.cd (by omega) W
 rw[h4,show cmpI 0 0=0 from rfl] at S1
 rw[h5,show cmpI 0 0=0 from rfl] at S2
 rw[h6] at c10
 rw[h7] at c11
 have HS1:=Aac S1
 have HS2:=Aac S2
 clear S0 S1 S2 h1 h2 h3 h4 h5 h6 h7 hk hB0 hz
 unfold Inst.enc Inst.cells at *
 go_enter Tryz.func213,Tryz.ntmps213
 go_wp2_with fail
 refine (HS0.out W0).mono ?_
 rintro e w1 ⟨rfl,b1⟩
 have d2:=keepc c2 b1
 have d6:=keepc c6 b1
 have d7:=keepc c7 b1
 have d8:=keepc c8 b1
 have d9:=keepc c9 b1
 have d12:=keepc c12 b1
 have d13:=keepc c13 b1
 have d14:=keepc c14 b1
 have d10:=keepc c10 b1
 have d11:=keepc c11 b1
 have HB1:=Aac (HB0.out.trans (b1.mono HB0.out.size))
 clear b1
 go_wp2_with fail
 refine (Aku i.sn i.sd (by omega) w1).mono ?_
 rintro e w2 ⟨rfl,b2⟩
 have g6:=keepc d6 b2
 have g7:=keepc d7 b2
 have g8:=keepc d8 b2
 have g9:=keepc d9 b2
 have g10:=keepc d10 b2
 have g11:=keepc d11 b2
 have HB2:=Aac (HB1.out.trans (b2.mono HB1.out.size))
 clear b2
 go_wp2_with fail
 refine (HS1.out w2).mono ?_
 rintro e w3 ⟨rfl,b3⟩
 have k8:=keepc g8 b3
 have k9:=keepc g9 b3
 have k10:=keepc g10 b3
 have k11:=keepc g11 b3
 have HB3:=Aac (HB2.out.trans (b3.mono HB2.out.size))
 clear b3
 go_wp2_with fail
 refine (HS2.out w3).mono ?_
 rintro e w4 ⟨rfl,b4⟩
 have m10:=keepc k10 b4
 have m11:=keepc k11 b4
 have HB4:=Aac (HB3.out.trans (b4.mono HB3.out.size))
 clear b4
 go_wp2_with fail
 go_ret
 exact⟨rfl,HB4.out⟩
abbrev ruleCells:Array Value:=#[.bool false,.nilFunc,.bool false,.func (.func 211) #[] #[],.bool true,.func (.func 212) #[] #[],.bool false,.func (.func 211) #[] #[],.bool false,.func (.func 211) #[] #[],.bool true,.func (.func 213) #[] #[]]
theorem Ak7(w:World):Calls Tryz.prog 150 #[] w fun e w'=>e=.returned (.agg ruleCells)∧Below w.heap.size w w':=by
 obtain⟨W0,hW0⟩:∃W0,w.alloc (.cells #[.bool false,.nilFunc,.bool false,.nilFunc,.bool false,.nilFunc,.bool false,.nilFunc,.bool false,.nilFunc,.bool false,.nilFunc] 180)=W0:=⟨_,rfl⟩
 have hk:W0.heap[w.heap.size]?=some (.cells #[.bool false,.nilFunc,.bool false,.nilFunc,.bool false,.nilFunc,.bool false,.nilFunc,.bool false,.nilFunc,.bool false,.nilFunc] 180):=by rw[←hW0];exact Aax w _
 have HB:Hid (Below w.heap.size w W0):=by rw[←hW0];exact (Below.refl _ w).alloc (Aad _) _
 have c0:=Aaa hk 0
 have c1:=Aaa hk 1
 have c2:=Aaa hk 2
 have c3:=Aaa hk 3
 have c4:=Aaa hk 4
 have c5:=Aaa hk 5
 have c6:=Aaa hk 6
 have c7:=Aaa hk 7
 have c8:=Aaa hk 8
 have c9:=Aaa hk 9
 have c10:=Aaa hk 10
 have c11:=Aaa hk 11
 simp at c0 c1 c2 c3 c4 c5 c6 c7 c8 c9 c10 c11
 have f:=Aaf hk
 have f0:=f 0
 have f1:=f 1
 have f2:=f 2
 have f3:=f 3
 have f4:=f 4
 have f5:=f 5
 have f6:=f 6
 have f7:=f 7
 have f8:=f 8
 have f9:=f 9
 have f10:=f 10
 have f11:=f 11
 have HK:=Aac hk
 clear hk f
 go_enter Tryz.func150,Tryz.ntmps150
 go_wp2_with fail
 have hB2:Below w.heap.size w ((((((((((((W0.setCell ⟨w.heap.size,0,none⟩ (.bool false)).setCell ⟨w.heap.size,1,none⟩ (.nilFunc)).setCell ⟨w.heap.size,2,none⟩ (.bool false)).setCell ⟨w.heap.size,3,none⟩ (.func (.func 211) #[] #[])).setCell ⟨w.heap.size,4,none⟩ (.bool true)).setCell ⟨w.heap.size,5,none⟩ (.func (.func 212) #[] #[])).setCell ⟨w.heap.size,6,none⟩ (.bool false)).setCell ⟨w.heap.size,7,none⟩ (.func (.func 211) #[] #[])).setCell ⟨w.heap.size,8,none⟩ (.bool false)).setCell ⟨w.heap.size,9,none⟩ (.func (.func 211) #[] #[])).setCell ⟨w.heap.size,10,none⟩ (.bool true)).setCell ⟨w.heap.size,11,none⟩ (.func (.func 213) #[] #[])):=((((((((((((HB.out.setCell (p:=⟨w.heap.size,0,none⟩) (Aad _) (.bool false)).setCell (p:=⟨w.heap.size,1,none⟩) (Aad _) (.nilFunc)).setCell (p:=⟨w.heap.size,2,none⟩) (Aad _) (.bool false)).setCell (p:=⟨w.heap.size,3,none⟩) (Aad _) (.func (.func 211) #[] #[])).setCell (p:=⟨w.heap.size,4,none⟩) (Aad _) (.bool true)).setCell (p:=⟨w.heap.size,5,none⟩) (Aad _) (.func (.func 212) #[] #[])).setCell (p:=⟨w.heap.size,6,none⟩) (Aad _) (.bool false)).setCell (p:=⟨w.heap.size,7,none⟩) (Aad _) (.func (.func 211) #[] #[])).setCell (p:=⟨w.heap.size,8,none⟩) (Aad _) (.bool false)).setCell (p:=⟨w.heap.size,9,none⟩) (Aad _) (.func (.func 211) #[] #[])).setCell (p:=⟨w.heap.size,10,none⟩) (Aad _) (.bool true)).setCell (p:=⟨w.heap.size,11,none⟩) (Aad _) (.func (.func 213) #[] #[]))
 have k2:((((((((((((W0.setCell ⟨w.heap.size,0,none⟩ (.bool false)).setCell ⟨w.heap.size,1,none⟩ (.nilFunc)).setCell ⟨w.heap.size,2,none⟩ (.bool false)).setCell ⟨w.heap.size,3,none⟩ (.func (.func 211) #[] #[])).setCell ⟨w.heap.size,4,none⟩ (.bool true)).setCell ⟨w.heap.size,5,none⟩ (.func (.func 212) #[] #[])).setCell ⟨w.heap.size,6,none⟩ (.bool false)).setCell ⟨w.heap.size,7,none⟩ (.func (.func 211) #[] #[])).setCell ⟨w.heap.size,8,none⟩ (.bool false)).setCell ⟨w.heap.size,9,none⟩ (.func (.func 211) #[] #[])).setCell ⟨w.heap.size,10,none⟩ (.bool true)).setCell ⟨w.heap.size,11,none⟩ (.func (.func 213) #[] #[])).heap[w.heap.size]?=some (.cells ruleCells 180):=by
  have:=HK.out
  simp[World.setCell,Array.getElem?_modify,this]
 generalize ((((((((((((W0.setCell ⟨w.heap.size,0,none⟩ (.bool false)).setCell ⟨w.heap.size,1,none⟩ (.nilFunc)).setCell ⟨w.heap.size,2,none⟩ (.bool false)).setCell ⟨w.heap.size,3,none⟩ (.func (.func 211) #[] #[])).setCell ⟨w.heap.size,4,none⟩ (.bool true)).setCell ⟨w.heap.size,5,none⟩ (.func (.func 212) #[] #[])).setCell ⟨w.heap.size,6,none⟩ (.bool false)).setCell ⟨w.heap.size,7,none⟩ (.func (.func 211) #[] #[])).setCell ⟨w.heap.size,8,none⟩ (.bool false)).setCell ⟨w.heap.size,9,none⟩ (.func (.func 211) #[] #[])).setCell ⟨w.heap.size,10,none⟩ (.bool true)).setCell ⟨w.heap.size,11,none⟩ (.func (.func 213) #[] #[]))=W2 at hB2 k2 ⊢
 have m0:=Aaa k2 0
 have m1:=Aaa k2 1
 have m2:=Aaa k2 2
 have m3:=Aaa k2 3
 have m4:=Aaa k2 4
 have m5:=Aaa k2 5
 have m6:=Aaa k2 6
 have m7:=Aaa k2 7
 have m8:=Aaa k2 8
 have m9:=Aaa k2 9
 have m10:=Aaa k2 10
 have m11:=Aaa k2 11
 simp at m0 m1 m2 m3 m4 m5 m6 m7 m8 m9 m10 m11
 refine bodyPost_ret (v:=.agg ruleCells) (by simp[results,Tryz.results150,go_sem,m0,m1,m2,m3,m4,m5,m6,m7,m8,m9,m10,m11]) rfl ?_
 exact⟨rfl,hB2⟩
end Go.Proofs.YtcnmoobojdopgaaGreatDoor
