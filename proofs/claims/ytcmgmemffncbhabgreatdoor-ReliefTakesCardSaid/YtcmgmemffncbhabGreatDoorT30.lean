/-
  trancheref19.Great: what its answer false says of the number of lots;what a statement of layer 19 has to show.
-/
import Derived.Test.YtcmgmemffncbhabGreatDoorT29
import Derived.Test.YtcmgmemffncbhabGreatDoorT24
set_option linter.unusedVariables false
set_option linter.unusedSimpArgs false
set_option maxHeartbeats 16000000
set_option maxRecDepth 100000
namespace Go.Proofs.YtcmgmemffncbhabGreatDoor
open Go.RowKit Tr Go.Shelf
def Apk(w:World)(e:Ending)(w':World):Prop:=e=.returned (.bool true)∧Below w.heap.size w w'
theorem Apm(A:Option Addr)(ls:List Lot)(c:Nat)(hlm:ls.length≤9223372036854775807)(w:World)(hR:RdL w A ls):
 Calls Tryz.prog 15 #[.slice A ls.length c] w (Ajz w ((ls.length≤12∨999≤ls.length)∧ls.length≤1002∧∀l∈ls,l.tiny)):=by
 by_cases h2:1002<ls.length
 ·have t1:decide ((12:Int)<(ls.length:Int))=true:=Aa3 (by omega)
  have t2:decide ((ls.length:Int)<999)=false:=Aa4 (by omega)
  have t3:decide ((1002:Int)<(ls.length:Int))=true:=Aa3 (by omega)
  clear h2
  go_enter Tryz.func15,Tryz.ntmps15
  go_wp2_with fail
  go_ret
  exact⟨true,rfl,fun h=>(by cases h),Below.refl _ _⟩
 ·refine (Amr A ls c hlm w hR).mono ?_
  rintro e w1 ⟨g,h1,h3,h4⟩
  exact⟨g,h1,fun hg=>⟨(h3 hg).1,by omega,(h3 hg).2⟩,h4⟩
end Go.Proofs.YtcmgmemffncbhabGreatDoor
