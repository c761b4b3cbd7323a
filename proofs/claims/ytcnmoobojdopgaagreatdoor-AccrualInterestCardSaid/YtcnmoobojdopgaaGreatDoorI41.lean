/-
  The walk of accrual.Plan on what is valid. (Printed by gen_acc11.py.)
-/
import Derived.Test.YtcnmoobojdopgaaGreatDoorI22
import Derived.Laws.AppendOwn
set_option linter.unusedVariables false
set_option linter.unusedSimpArgs false
set_option maxHeartbeats 16000000
set_option maxRecDepth 100000
namespace Go.Proofs.YtcnmoobojdopgaaGreatDoor
open Go.RowKit Tr Go.Shelf
theorem rnd_abs(q:Rat):(rnd q).natAbs≤q.num.natAbs+1:=by
 have hp:(1:Int)≤(q.den:Int):=by have:=q.den_pos;omega
 have h1:(q.num / (q.den:Int)).natAbs≤q.num.natAbs:=by
  rcases Int.lt_or_le q.num 0 with h|h
  ·have a1:q.num / (q.den:Int)<0:=Int.ediv_neg_of_neg_of_pos h (by omega)
   have a2:q.num≤q.num / (q.den:Int):=by
    refine (Int.le_ediv_iff_mul_le (by omega)).2 ?_
    have:=Int.mul_le_mul_of_nonpos_left (a:=q.num) (b:=(q.den:Int)) (c:=1) (by omega) hp
    omega
   omega
  ·have a1:0≤q.num / (q.den:Int):=Int.ediv_nonneg h (by omega)
   have a2:q.num / (q.den:Int)≤q.num:=Int.ediv_le_self _ h
   omega
 unfold rnd
 split<;>omega
theorem Aur{q:Rat}{K:Nat}(h:BdQ q K):(I (rnd q)).size≤K+2:=by
 refine Ac3 (k:=K+1) ?_
 have h1:=rnd_abs q
 have h2:=h.1
 rw[Nat.pow_succ]
 have:0<10^K:=Nat.pow_pos (by omega)
 omega
theorem AOk.one{i:Inst}{ls:List SLot}{d:Int}(h:AOk i ls d){k:Nat}{x:SLot}(hx:(ownL ls i.id)[k]?=some x):BOk i x.1:=by
 have hm:=Aar hx
 have h2:=List.mem_filter.1 hm
 exact⟨h.small,h.ok,x.2,(h.lots.ok x.1 (List.mem_map.2 ⟨x,h2.1,rfl⟩)).2,by simpa using h2.2⟩
end Go.Proofs.YtcnmoobojdopgaaGreatDoor
