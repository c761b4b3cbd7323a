/-
  slices.Clone and slices.Insert of lots.
-/
import Derived.Test.YtcmgmemffncbhabGreatDoorT26
import Derived.Test.YtcmgmemffncbhabGreatDoorT30
import Derived.Lib.Overlaps
import Derived.Lib.AppendZerosOnto
import Derived.Laws.CopyOwn
set_option linter.unusedVariables false
set_option linter.unusedSimpArgs false
set_option maxHeartbeats 16000000
set_option maxRecDepth 100000
namespace Go.Proofs.YtcmgmemffncbhabGreatDoor
open Go.RowKit Tr Go.Shelf
theorem Apn(A:Option Addr)(ls:List SLot)(c n:Nat)(w:World)(hR:RdB n w A ls)(hn:n≤w.heap.size)(hl:ls.length≤100000)(hA:A=none→ls.length=0∧c=0):
 Calls Tryz.prog 21 #[.slice A ls.length c] w fun e w'=>∃v,e=.returned v∧w'.ownsRow w.heap.size 38 7 v ls.length (flatL ls)∧Below w.heap.size w w':=by
 cases A with
 | none =>
   obtain⟨e,rfl⟩:=hA rfl
   obtain rfl:ls=[]:=Aag e
   clear hR hA
   have he:∀W:World,(binOp .eql 22 (.slice none 0 0) (.slice none 0 0)).run Tryz.prog W=.ok (.bool true) W:=fun _=>rfl
   go_enter Tryz.func21,Tryz.ntmps21
   go_wp2_with fail
   go_ret
   exact⟨_,rfl,World.ownsRow_nil _ _ _ _,Below.refl _ _⟩
 | some ad =>
   obtain⟨i0,hi0,hz0,hz1,hz2⟩:=info_parts Tryz.infoLot
   obtain⟨N,hN⟩:∃N,ls.length=N:=⟨_,rfl⟩
   have hfl:=Ans ls
   rw[hN] at hl hfl ⊢
   have HR:=hI hR
   have HN:=hI hn
   clear hR hA hn
   have hown:(w.alloc (.cells #[] 38)).ownsRow w.heap.size 38 7 (.slice (some ⟨w.heap.size,0,none⟩) 0 0) 0 []:=World.ownsRow_made w #[] 0 (Aad _) (Nat.zero_le _) rfl
   have HO:=hI hown
   have HB:Hid (Below w.heap.size w (w.alloc (.cells #[] 38))):=(Below.refl _ w).alloc (Aad _) _
   have HF:=hI ((HR.out.below (HB.out.mono HN.out)).flat)
   clear hown
   have he:∀W:World,(binOp .eql 22 (.slice (some ad) N c) (.slice none 0 0)).run Tryz.prog W=.ok (.bool false) W:=fun _=>rfl
   go_enter Tryz.func21,Tryz.ntmps21
   go_wp2_with (at_builtin;refine wpList_append_own _ rfl _ _ 22 rfl w.heap.size 38 i0 (.agg #[.string ⟨#[]⟩,.string ⟨#[]⟩,.int .i64 0,.int .i64 0,.string ⟨#[]⟩,.string ⟨#[]⟩,.string ⟨#[]⟩]) 7 96 Tryz.underlying22 hi0 hz0 hz1 hz2 rfl (by decide) _ _ _ rfl HO.out ad N c (flatL ls) rfl hfl HF.out (Ant _) (by unfold maxLen;omega) (by omega) HB.out.size ?_;intro v2 w2 hown2 hgrow2 _;have HO2:=hI hown2;have HB2:=hI (HB.out.grown hgrow2 HB.out.size (fun k hk=>(HO.out.lt k hk).1));clear hown2 hgrow2)
   have hrow:=HO2.out
   rw[Nat.zero_add,List.nil_append] at hrow
   have HF2:=hI (And.intro hrow HB2.out)
   clear hrow
   go_ret
   exact⟨_,rfl,HF2.out.1,HF2.out.2⟩
theorem Apq(W:World):(Instr.sliceAt 22 (.slice none 0 0) (some (.int .i64 ((0:Nat):Int))) none none).run Tryz.prog W=.ok (.slice none 0 0) W:=by
 have ht:Tryz.prog.underlying 22=some (.slice (Tryz.prog.elem 22)):=by kernel_rfl
 have hz:(sizeOf (Tryz.prog.elem 22)).run Tryz.prog W=.ok 7 W:=by kernel_rfl
 rw[run_sliceAt_slice W _ _ _ _ _ ht,run_slice_l W _ _ _ _ ht .i64 _ (by omega) (by omega),hz]
 simp[Result.andThen,sliced]
theorem Apr{w:World}{B:Nat}{x:Lot}(h:LotBox w B x):∀j u,x.cells.toList[j]?=some u→w.cell? ((⟨B,0,none⟩:Addr).add j)=some u:=by
 intro j u hu
 rw[Ake,Aaa h j,←Array.getElem?_toList]
 exact hu
theorem Apt(x:Lot):∀u∈x.cells.toList,u.oneCell'=true:=by
 intro u hu
 simp at hu
 rcases hu with rfl|rfl|rfl|rfl|rfl|rfl|rfl<;>rfl
theorem Apu{w:World}{base base':Nat}{n:Nat}{v:Value}{xs:List Value}(h:w.ownsRow base 38 7 v n xs)(hb:base'≤base):w.ownsRow base' 38 7 v n xs:=by
 refine⟨h.1,?_⟩
 rcases h.2 with h|⟨g,cap,cur,hv,hg,hr⟩
 ·exact .inl h
 ·exact .inr ⟨g,cap,cur,hv,Aap hb hg,hr⟩
end Go.Proofs.YtcmgmemffncbhabGreatDoor
