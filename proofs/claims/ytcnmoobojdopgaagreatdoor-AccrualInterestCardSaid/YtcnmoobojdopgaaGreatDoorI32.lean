/-
  The walk of bond.Coupon. (Printed by gen_bd16.py.)
-/
import Derived.Test.YtcnmoobojdopgaaGreatDoorI31
set_option linter.unusedVariables false
set_option linter.unusedSimpArgs false
set_option maxHeartbeats 16000000
set_option maxRecDepth 100000
namespace Go.Proofs.YtcnmoobojdopgaaGreatDoor
open Go.RowKit Tr Go.Shelf
attribute [local go_sem] Oper.semAt_some
end Go.Proofs.YtcnmoobojdopgaaGreatDoor
namespace Go.Proofs.YtcnmoobojdopgaaGreatDoor
open Go.RowKit Tr Go.Shelf
theorem numchk_can{n d:ByteArray}(h:Akz n d=0):CanQ n d:=by
 refine Classical.byContradiction fun hc=>?_
 unfold Akz at h
 rw[if_pos hc] at h
 exact absurd h (by decide)
theorem canQ_vl{n d:ByteArray}(h:CanQ n d):vl n=(fv n d).num:=by
 have h1:=congrArg vl h.1
 rw[vl_I] at h1
 exact h1
theorem BdI.fQ{i:Inst}(h:BdI i):CanQ i.fn i.fd:=numchk_can h.ok.n1
theorem BdI.cQ{i:Inst}(h:BdI i):CanQ i.cn i.cd:=numchk_can h.ok.n2
theorem BdI.face_pos{i:Inst}(h:BdI i):0<fv i.fn i.fd:=num_pos'.1 (by rw[←canQ_vl h.fQ];exact h.bo.1)
theorem BdI.coup_nn{i:Inst}(h:BdI i):0≤fv i.cn i.cd:=Rat.num_nonneg.1 (by rw[←canQ_vl h.cQ];exact h.bo.2.1)
theorem BdI.fc_nn{i:Inst}(h:BdI i):0≤fv i.fn i.fd*fv i.cn i.cd:=Rat.mul_nonneg (Rat.le_of_lt h.face_pos) h.coup_nn
theorem pers_get{a b mo:Int}{k:Nat}{p:Int×Int}(h:(pers a b mo)[k]?=some p):(ends a b mo)[k]?=some p.1∧(ends a b mo)[k+1]?=some p.2:=by
 unfold pers at h
 rw[pairs_get] at h
 split at h
 ·rename_i x y hx hy
  injection h with h;subst h
  exact⟨hx,hy⟩
 ·cases h
theorem ends_lt{i:Inst}(h:BdI i){j k:Nat}{x y:Int}(hx:(ends i.issued i.matures i.months)[j]?=some x)(hy:(ends i.issued i.matures i.months)[k]?=some y)(hjk:j<k):x<y:=by
 obtain⟨i1,e1⟩:=Aak.1 hx
 obtain⟨i2,e2⟩:=Aak.1 hy
 have:=List.pairwise_iff_getElem.1 (Ajw h.mo.1 h.mat.1.1 h.mat.1.2 h.mat.2) j k i1 i2 hjk
 rw[e1,e2] at this
 exact this
theorem ends_le{i:Inst}(h:BdI i){j k:Nat}{x y:Int}(hx:(ends i.issued i.matures i.months)[j]?=some x)(hy:(ends i.issued i.matures i.months)[k]?=some y)(hjk:j≤k):x≤y:=by
 rcases Aam j k with h1|h1
 ·exact Int.le_of_lt (ends_lt h hx hy h1)
 ·have:j=k:=by omega
  subst this
  rw[hx] at hy
  injection hy with hy
  omega
theorem per_lt{i:Inst}(h:BdI i){k:Nat}{p:Int×Int}(hp:(perL i)[k]?=some p):p.1<p.2:=pers_lt h.mo.1 h.mat.1.1 h.mat.1.2 h.mat.2 hp
theorem per_at{i:Inst}(h:BdI i){k:Nat}{p:Int×Int}(hp:(perL i)[k]?=some p){d:Int}(h1:p.1≤d)(h2:d<p.2):atZ (perL i) d=(k:Int):=by
 refine Asr hp (by unfold inP;rw[Aav h1,Aav h2];rfl) fun x hx=>?_
 obtain⟨j,hj,rfl⟩:=List.mem_take_iff_getElem.1 hx
 have hx2:(perL i)[j]?=some (perL i)[j]:=Aae (by omega)
 have:=ends_le h (pers_get hx2).2 (pers_get hp).1 (by omega)
 unfold inP
 rw[Aaw (p:=d<(perL i)[j].2) (by omega),Bool.and_false]
theorem dcF_self{c a:Int}(ha:okDay a):dcF c a a=0:=by
 have z:((0:Int):Rat)=0:=rfl
 unfold dcF
 split
 ·exact Rat.sub_self
 ·split
  ·rw[Int.sub_self,z,Rat.div_def,Rat.zero_mul]
  ·split
   ·rw[Int.sub_self,z,Rat.div_def,Rat.zero_mul]
   ·rw[Aj9 ha.1 ha.2,z,Rat.div_def,Rat.zero_mul]
theorem divc_mono{a b:Int}{c:Rat}(hc:0<c)(h:a≤b):(a:Rat) / c≤(b:Rat) / c:=by
 rw[Rat.div_def,Rat.div_def]
 exact Rat.mul_le_mul_of_nonneg_right (Rat.intCast_le_intCast.2 h) (Rat.le_of_lt (Rat.inv_pos.2 hc))
theorem dcF_mono{c a b d:Int}(ha:okDay a)(hb:okDay b)(h:b≤d)(hd:okDay d):dcF c a b≤dcF c a d:=by
 unfold dcF
 split
 ·have:=Akf hb.1 h hd.2
  grind
 ·split
  ·exact divc_mono (by decide) (by omega)
  ·split
   ·exact divc_mono (by decide) (by omega)
   ·exact divc_mono (by decide) (Aj8 ha.1 ha.2 hb.1 h hd.2)
theorem dcF_nn{c a b:Int}(ha:okDay a)(hb:okDay b)(h:a≤b):0≤dcF c a b:=by
 have:=dcF_mono (c:=c) ha ha h hb
 rw[dcF_self ha] at this
 exact this
theorem intQ_self(i:Inst){a:Int}(ha:okDay a):intQ i a a=0:=by
 unfold intQ
 rw[dcF_self ha,Rat.mul_zero]
theorem intQ_nn{i:Inst}(h:BdI i){a b:Int}(ha:okDay a)(hb:okDay b)(hab:a≤b):0≤intQ i a b:=Rat.mul_nonneg h.fc_nn (dcF_nn ha hb hab)
theorem acc_per{i:Inst}(h:BdI i){k:Nat}{p:Int×Int}(hp:(perL i)[k]?=some p){d:Int}(h1:p.1≤d)(h2:d<p.2):accQ i d=intQ i p.1 d:=As1 (per_at h hp h1 h2) hp
end Go.Proofs.YtcnmoobojdopgaaGreatDoor
