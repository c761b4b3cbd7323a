/-
  Strings of bytes,their values,canonical strings: what the walks of the program and of the references share.
-/
import Derived.Test.YtcmgmemffncbhabGreatDoorT01
import Derived.Lib.Strings
set_option linter.unusedVariables false
set_option linter.unusedSimpArgs false
set_option maxHeartbeats 16000000
set_option maxRecDepth 100000
namespace Go.Proofs.YtcmgmemffncbhabGreatDoor
open Go.RowKit Tr
def bs(l:List UInt8):ByteArray:=⟨l.toArray⟩
theorem Aei(l:List UInt8):(bs l).data.toList=l:=rfl
theorem bs_of(s:ByteArray):bs s.data.toList=s:=rfl
theorem Aej(l:List UInt8):(bs l).size=l.length:=by simp[bs,ByteArray.size]
def vl(s:ByteArray):Int:=val s.data.toList
def I(z:Int):ByteArray:=bs (can z)
theorem vl_I(z:Int):vl (I z)=z:=Aci z
theorem I_inj{a b:Int}(h:I a=I b):a=b:=by rw[←vl_I a,←vl_I b,h]
theorem Aek(z:Int):(I z).size=(can z).length:=Aej _
theorem vl_lt(a:ByteArray):(vl a).natAbs<10^a.size:=Acq a.data.toList
theorem Aem{z:Int}{k:Nat}(h:z.natAbs<10^k):(can z).length≤k+1:=by
 have:=(digits_length_le_iff k z.natAbs).2 h
 unfold can
 split<;>simp<;>omega
theorem Aen{z:Int}{k:Nat}(h:z.natAbs<10^k):(I z).size≤k+1:=by rw[Aek];exact Aem h
def Can(a:ByteArray):Prop:=I (vl a)=a
theorem Aep{a b:Nat}(h:a≤b):(10:Nat)^a≤10^b:=Nat.pow_le_pow_right (by omega) h
theorem Aeq{x y:Int}{a b k:Nat}(hx:x.natAbs<10^a)(hy:y.natAbs<10^b)(ha:a<k)(hb:b<k):(x+y).natAbs<10^k:=by
 obtain⟨j,rfl⟩:∃j,k=j+1:=⟨k-1,by omega⟩
 have h1:=Aep (show a≤j by omega)
 have h2:=Aep (show b≤j by omega)
 rw[Nat.pow_succ];omega
theorem Aer{x y:Int}{a b:Nat}(hx:x.natAbs<10^a)(hy:y.natAbs<10^b):(x*y).natAbs<10^(a+b):=by
 rw[Int.natAbs_mul,Nat.pow_add]
 exact Nat.mul_lt_mul'' hx hy
theorem Aes{a b:ByteArray}(h:a≠b):(a.toList==b.toList)=false:=by
 rw[Aaj,Lib.toList_data,Lib.toList_data]
 intro e
 exact h (by rw[←bs_of a,←bs_of b,e])
def cmpI(x y:Int):Int:=if x<y then -1 else if x=y then 0 else 1
theorem cmpI_lt{x y:Int}:cmpI x y<0↔x<y:=by unfold cmpI;split<;>(try split)<;>omega
theorem cmpI_eq{x y:Int}:cmpI x y=0↔x=y:=by unfold cmpI;split<;>(try split)<;>omega
theorem cmpI_gt{x y:Int}:0<cmpI x y↔y<x:=by unfold cmpI;split<;>(try split)<;>omega
theorem Aet{x y:Int}:cmpI x y≤0↔x≤y:=by unfold cmpI;split<;>(try split)<;>omega
theorem Aeu{x y:Int}:0≤cmpI x y↔y≤x:=by unfold cmpI;split<;>(try split)<;>omega
def byt(s:ByteArray)(j:Nat):UInt8:=s.data.toList.getD j 0
theorem Aev(a:ByteArray)(k:Nat)(h:k<a.size):a[k]'h=byt a k:=by
 have h':k<a.data.toList.length:=by rw[←Lib.size_eq];exact h
 unfold byt
 rw[Aau,Aae h',Option.getD_some]
 rfl
theorem Aew{s:ByteArray}{p:UInt8→Bool}{j:Nat}(h:(s.data.toList.take j).all p=true)(hj:j<s.size)(hp:p (byt s j)=true):(s.data.toList.take (j+1)).all p=true:=by
 have hj':j<s.data.toList.length:=by rw[←Lib.size_eq];exact hj
 rw[List.take_succ_eq_append_getElem hj',List.all_append,h]
 simp only[List.all_cons,List.all_nil,Bool.and_true,Bool.true_and]
 unfold byt at hp
 rwa [Aau,Aae hj',Option.getD_some] at hp
theorem Aex{s:ByteArray}{p:UInt8→Bool}{j:Nat}(hj:j<s.size)(hp:p (byt s j)=false):s.data.toList.all p=false:=by
 have hj':j<s.data.toList.length:=by rw[←Lib.size_eq];exact hj
 unfold byt at hp
 rw[Aau,Aae hj',Option.getD_some] at hp
 rw[List.all_eq_false]
 exact⟨_,List.getElem_mem hj',by rw[hp];simp⟩
end Go.Proofs.YtcmgmemffncbhabGreatDoor
