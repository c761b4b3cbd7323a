/-
  The walks of trancheref09.CheckPeriod,options,Build.
-/
import Derived.Test.YtcnmoobojdopgaaGreatDoorI37
import Derived.Test.YtcnmoobojdopgaaGreatDoorI32
import Derived.Laws.OwnMore
import Derived.Lib.AppendZeros
set_option linter.unusedVariables false
set_option linter.unusedSimpArgs false
set_option maxHeartbeats 16000000
set_option maxRecDepth 100000
namespace Go.Proofs.YtcnmoobojdopgaaGreatDoor
open Go.RowKit Tr Go.Shelf
structure RBI(w:World)(B:Nat)(a b f t:Int)(v:Value)(n:Nat)(xs:List Value)(W:World):Prop where
 p:W.heap[w.heap.size]?=some (.cells #[.int .i64 a,.int .i64 b] 60 (0,0))
 q:W.heap[B]?=some (.cells #[.int .i64 f,.int .i64 t] 60 (0,0))
 be:Below w.heap.size w W
 hB:w.heap.size<B
 row:W.ownsRow (w.heap.size+1) 60 2 v n xs
 ne:v.ownBlock≠some B
section
variable {w W:World} {B:Nat} {a b f t:Int} {v:Value} {n:Nat} {xs:List Value}
theorem RBI.lt(h:RBI w B a b f t v n xs W):B<W.heap.size:=(Aab.1 h.q).1
theorem persV_one(l:List (Int×Int)):∀u∈persV l,u.oneCell'=true:=by
 intro u hu
 unfold persV at hu
 rw[List.mem_flatMap] at hu
 obtain⟨p,_,hp⟩:=hu
 simp[perV] at hp
 rcases hp with rfl|rfl<;>rfl
end
end Go.Proofs.YtcnmoobojdopgaaGreatDoor
