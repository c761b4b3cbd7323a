/-
  The plain side of tranchelaw39.AccrualSums;what its walk keeps.
-/
import Derived.Test.YtcmgmemffncbhabGreatDoorT22
import Derived.Laws.AppendOwn
set_option linter.unusedVariables false
set_option linter.unusedSimpArgs false
set_option maxHeartbeats 16000000
set_option maxRecDepth 100000
namespace Go.Proofs.YtcmgmemffncbhabGreatDoor
open Go.RowKit Tr Go.Shelf
theorem Anv(f:SLot→Int):∀(l:List SLot) (a:Int),l.foldl (fun n x=>n+f x) a=a+sumBy f l
 | [],a=>by simp[sumBy]
 | x::l,a=>by
   have h:=Anv f l
   unfold sumBy at *
   rw[List.foldl_cons,List.foldl_cons,h,h (0+f x)]
   omega
theorem AOk.own{i:Inst}{ls:List SLot}{d:Int}(h:AOk i ls d)(s:ByteArray):AOk i (ownL ls s) d:=by
 have hsub:(ownL ls s).Sublist ls:=List.filter_sublist
 refine⟨h.small,h.ok,⟨?_,?_,?_⟩,?_,h.dy⟩
 ·have:=h.lots.len
  have:=(hsub.map Subtype.val).length_le
  omega
 ·intro l hl
  exact h.lots.ok l ((hsub.map Subtype.val).subset hl)
 ·exact ((hsub.map Subtype.val).map Lot.id).nodup h.lots.ids
 ·have:=h.len
  have:=hsub.length_le
  omega
theorem AOk.one{i:Inst}{ls:List SLot}{d:Int}(h:AOk i ls d){k:Nat}{x:SLot}(hx:(ownL ls i.id)[k]?=some x):BOk i x.1:=by
 have hm:=Aas hx
 have h2:=List.mem_filter.1 hm
 exact⟨h.small,h.ok,x.2,(h.lots.ok x.1 (List.mem_map.2 ⟨x,h2.1,rfl⟩)).2,by simpa using h2.2⟩
end Go.Proofs.YtcmgmemffncbhabGreatDoor
