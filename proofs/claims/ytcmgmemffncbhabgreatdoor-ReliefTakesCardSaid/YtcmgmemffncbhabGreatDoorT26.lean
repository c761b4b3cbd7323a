/-
  What LotTotals leans on: parts of a slice of lots,sums of turned and cut lists.
-/
import Derived.Test.YtcmgmemffncbhabGreatDoorT23
import Derived.Test.YtcmgmemffncbhabGreatDoorT24
import Derived.Test.YtcmgmemffncbhabGreatDoorT25
set_option linter.unusedVariables false
set_option linter.unusedSimpArgs false
set_option maxHeartbeats 16000000
set_option maxRecDepth 100000
namespace Go.Proofs.YtcmgmemffncbhabGreatDoor
open Go.RowKit Tr Go.Shelf
theorem Anz{w w':World}{base n:Nat}{v:Value}{xs:List Value}(h:w.ownsRow base 38 7 v n xs)(hb:Below w.heap.size w w'):w'.ownsRow base 38 7 v n xs:=by
 refine⟨h.1,?_⟩
 rcases h.2 with h0|⟨g,cap,cur,e,h1,h2,h3⟩
 ·exact .inl h0
 ·exact .inr ⟨g,cap,cur,e,h1,(hb.block g (Aab.1 h2).1).trans h2,h3⟩
theorem An0(W:World)(ad:Addr)(m c j:Nat)(hj:j≤m):(Instr.sliceAt 22 (.slice (some ad) m c) (some (.int .i64 (j:Int))) none none).run Tryz.prog W=.ok (.slice (some (if c=j then ad else ad.add (j*7))) (m-j) (c-j)) W:=by
 have ht:Tryz.prog.underlying 22=some (.slice (Tryz.prog.elem 22)):=by kernel_rfl
 have hz:(sizeOf (Tryz.prog.elem 22)).run Tryz.prog W=.ok 7 W:=by kernel_rfl
 rw[run_sliceAt_slice W _ _ _ _ _ ht,run_slice_l W _ _ _ _ ht .i64 _ (by omega) (by omega),hz]
 simp[Result.andThen,sliced]
 split<;>rfl
theorem An1(W:World)(ad:Addr)(m c j:Nat)(hj:j≤c):(Instr.sliceAt 22 (.slice (some ad) m c) none (some (.int .i64 (j:Int))) none).run Tryz.prog W=.ok (.slice (some ad) j c) W:=by
 have ht:Tryz.prog.underlying 22=some (.slice (Tryz.prog.elem 22)):=by kernel_rfl
 have hz:(sizeOf (Tryz.prog.elem 22)).run Tryz.prog W=.ok 7 W:=by kernel_rfl
 rw[run_sliceAt_slice W _ _ _ _ _ ht,run_slice_h W _ _ _ _ ht .i64 _ (by omega) (by omega),hz]
 have e:ad.add 0=ad:=by unfold Addr.add;simp
 simp[Result.andThen,sliced,e]
theorem RdB.take{n:Nat}{w:World}{A:Option Addr}{ls:List SLot}(h:RdB n w A ls)(k:Nat):RdB n w A (ls.take k):=by
 intro hl
 obtain⟨ad,e,h1,h2⟩:=h (by intro e;rw[e] at hl;simp at hl)
 exact⟨ad,e,h1,fun j l hj=>h2 j l (by rw[List.getElem?_take] at hj;split at hj;exact hj;cases hj)⟩
theorem RdB.drop{n:Nat}{w:World}{ad:Addr}{ls:List SLot}{c:Nat}(h:RdB n w (some ad) ls)(k:Nat)(hk:k≤ls.length)(hc:ls.length≤c):RdB n w (some (if c=k then ad else ad.add (k*7))) (ls.drop k):=by
 intro hl
 have hkl:k<ls.length:=by
  rcases Aam k ls.length with h1|h1
  ·exact h1
  ·exact absurd (List.drop_eq_nil_of_le h1) hl
 obtain⟨a,e,h1,h2⟩:=h (by intro e;rw[e] at hkl;cases hkl)
 injection e with e
 subst e
 rw[if_neg (by omega)]
 have hs:ad.spot=none:=by
  obtain⟨y,hy⟩:∃y,ls[0]?=some y:=⟨_,Aae (by omega)⟩
  have h0:=(h2 0 y hy).c0
  rw[show ad.add (0*7)=ad from by unfold Addr.add;simp] at h0
  exact Anr h0
 refine⟨_,rfl,by rw[Acv];exact h1,fun j l hj=>?_⟩
 rw[List.getElem?_drop] at hj
 have h3:=h2 (k+j) l hj
 rw[Anq ad hs] at h3
 rw[Anq _ (by rw[Anq ad hs]),Anq ad hs]
 rw[Nat.add_mul,←Nat.add_assoc] at h3
 exact h3
theorem An2(f:SLot→Int)(a b:List SLot):sumBy f (a++b)=sumBy f a+sumBy f b:=by
 have h:=Anv f b (sumBy f a)
 rw[←h]
 unfold sumBy
 rw[List.foldl_append]
end Go.Proofs.YtcmgmemffncbhabGreatDoor
