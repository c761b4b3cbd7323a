/-
  The walk of lot.Find (the text of Opn1,without what it does not lean on).
-/
import Derived.Test.YtcnmoobojdopgaaGreatDoorI21
set_option linter.unusedVariables false
set_option linter.unusedSimpArgs false
set_option maxHeartbeats 16000000
set_option maxRecDepth 100000
namespace Go.Proofs.YtcnmoobojdopgaaGreatDoor
open Go.RowKit Tr Go.Shelf
def RdB'(n₀:Nat)(w:World)(A:Option Addr)(ls:List Lot):Prop :=
 ls≠[]→∃ad:Addr,A=some ad∧ad.block<n₀∧∀(j:Nat) (l:Lot),ls[j]?=some l→LotAt w (ad.add (j*7)) l
theorem RdL.rdb'{w:World}{A:Option Addr}{ls:List Lot}(h:RdL w A ls):RdB' w.heap.size w A ls:=h
theorem RdB'.below{n₀:Nat}{w w':World}{A:Option Addr}{ls:List Lot}(h:RdB' n₀ w A ls)(hb:Below n₀ w w'):RdB' n₀ w' A ls:=by
 intro hl
 obtain⟨ad,rfl,h1,h2⟩:=h hl
 exact⟨ad,rfl,h1,fun j l hj=>(h2 j l hj).below hb (by rw[Ach];exact h1)⟩
theorem findClo_any(id:ByteArray)(B:Nat)(l:Lot)(w:World)(h:w.heap[B]?=some (.cells #[.string id] 9 (0,0))):
 Calls Tryz.prog 91 #[l.enc,.pointer (some ⟨B,0,none⟩)] w fun e w'=>e=.returned (.bool (decide (l.id=id)))∧Below w.heap.size w w':=by
 have hBl:=(Aab.1 h).1
 obtain⟨W0,hW0⟩:∃W0,w.alloc (.cells l.cells 63)=W0:=⟨_,rfl⟩
 have hb:Below w.heap.size w W0:=by rw[←hW0];exact (Below.refl _ w).alloc (Aad _) _
 have k1:LotBox W0 w.heap.size l:=by rw[←hW0];exact Aax w _
 have k0:W0.heap[B]?=some (.cells #[.string id] 9 (0,0)):=(hb.block B hBl).trans h
 have c0:=Aaa k0 0
 have d0:=Aaa k1 0
 simp[Lot.cells] at c0 d0
 have hse:=Anw l.id id
 have HB:=hI hb
 clear k0 k1 h hb hBl
 unfold Lot.cells at hW0
 unfold Lot.enc Lot.cells
 go_enter Tryz.func91,Tryz.ntmps91
 go_wp2_with fail
 go_ret
 exact⟨rfl,HB.out⟩
theorem idxLots_any(n₀:Nat)(A:Option Addr)(ls:List Lot)(c B:Nat)(id:ByteArray)(hlen:ls.length≤1000000)(w:World)(hR:RdB' n₀ w A ls)(hn:n₀≤w.heap.size)(hx:w.heap[B]?=some (.cells #[.string id] 9 (0,0))):
 Calls Tryz.prog 90 #[.slice A ls.length c,.func (.func 91) #[] #[.pointer (some ⟨B,0,none⟩)]] w fun e w'=>(∃z:Int,e=.returned (.int .i64 z)∧((findR ls id 0).2=true→z=((findR ls id 0).1:Int))∧((findR ls id 0).2=false→z=-1))∧Below w.heap.size w w':=by
 have hBl:=(Aab.1 hx).1
 have HR:=hI hR
 have HX:=hI (And.intro hBl hx)
 clear hR hx hBl
 go_enter Tryz.func90,Tryz.ntmps90
 go_wp2_with fail
 go_loopw [5,8] (fun _ v wr=>∃k:Nat,v=.int .i64 (k:Int)∧k≤ls.length∧(∀x∈ls.take k,x.id≠id)∧Below w.heap.size w wr) (fun _ v _=>ls.length-(intOf v).toNat)
 case atStart=>exact⟨0,rfl,by omega,fun p hp=>by simp at hp,Below.refl _ _⟩
 case round =>
  obtain⟨k,rfl,hk,hno,hb⟩:=hrel
  have HNO:=hI hno
  have HB:=hI hb
  clear hno hb
  rcases Aam k ls.length with hlt|hge
  ·obtain⟨l,hl⟩:∃l,ls[k]?=some l:=⟨_,Aae hlt⟩
   obtain⟨ad,rfl,had,hcell⟩:=HR.out (by intro e;rw[e] at hlt;cases hlt)
   have hcx:decide ((k:Int)<(ls.length:Int))=true:=by simp;omega
   obtain⟨c0,c1,c2,c3,c4,c5,c6⟩:=(hcell k l hl).below (HB.out.mono hn) (by rw[Ach];exact had)
   have HTK:=hI (Ap3 hl)
   have hcl:=fun W (hW:Below w.heap.size w W)=>findClo_any id B l W ((hW.block B HX.out.1).trans HX.out.2)
   unfold Lot.enc Lot.cells at hcl
   have HCL:=hI hcl
   clear hcell hcl
   have HL:=hI hl
   clear hl
   go_wp2_with fail
   refine (HCL.out _ HB.out).mono ?_
   rintro e w1 ⟨rfl,b1⟩
   have HB1:=hI (HB.out.trans (b1.mono HB.out.size))
   clear b1 HCL c0 c1 c2 c3 c4 c5 c6
   by_cases he:l.id=id
   ·rw[Aav he]
    have HF:Hid (findR ls id 0=(k,true)):=by
     have h:=Am9 (ls:=ls) (m:=ls.length) hlt (Aad _) HTK.out HNO.out he
     rwa [Aai (Aad _)] at h
    clear he
    go_wp2_with fail
    go_ret
    exact⟨⟨_,rfl,(fun _=>by rw[HF.out]),(fun h=>by rw[HF.out] at h;cases h)⟩,HB1.out⟩
   ·rw[Aaw he]
    have HE:=hI he
    clear he
    go_wp2_with fail
    go_roundw
    case rel =>
     refine⟨k+1,by go_num,by omega,fun x hx=>?_,HB1.out⟩
     rw[HTK.out,List.mem_append] at hx
     rcases hx with hx|hx
     ·exact HNO.out x hx
     ·rw[List.mem_singleton] at hx;subst hx;exact HE.out
    case measure=>simp[intOf];omega
  ·have hcx:decide ((k:Int)<(ls.length:Int))=false:=by simp;omega
   have HF:Hid (findR ls id 0=(0,false)):=Am8 (fun x hx=>HNO.out x (by rw[Aai hge];exact hx)) 0
   go_wp2_with fail
   go_ret
   exact⟨⟨_,rfl,(fun h=>by rw[HF.out] at h;cases h),(fun _=>rfl)⟩,HB.out⟩
theorem lFind_any(n₀:Nat)(A:Option Addr)(ls:List Lot)(c:Nat)(id:ByteArray)(hlen:ls.length≤1000000)(w:World)(hR:RdB' n₀ w A ls)(hn:n₀≤w.heap.size):
 Calls Tryz.prog 35 #[.slice A ls.length c,.string id] w fun e w'=>e=.returned (.tuple #[.int .i64 ((findR ls id 0).1:Int),.bool (findR ls id 0).2])∧Below w.heap.size w w':=by
 obtain⟨W0,hW0⟩:∃W0,w.alloc (.cells #[.string id] 9)=W0:=⟨_,rfl⟩
 have hb:Below w.heap.size w W0:=by rw[←hW0];exact (Below.refl _ w).alloc (Aad _) _
 have k1:W0.heap[w.heap.size]?=some (.cells #[.string id] 9 (0,0)):=by rw[←hW0];exact Aax w _
 have HI:=hI (idxLots_any n₀ A ls c w.heap.size id hlen W0 (hR.below (hb.mono hn)) (Aap hn hb.size) k1)
 have HB:=hI hb
 have HZ:Hid ((findR ls id 0).2=false→(findR ls id 0).1=0):=fun h=>by rw[Am8 (findR_false ls id 0 h)]
 clear hR k1 hb
 go_enter Tryz.func35,Tryz.ntmps35
 go_wp2_with fail
 refine HI.out.mono ?_
 rintro e w1 ⟨⟨z,rfl,hz1,hz2⟩,b1⟩
 have HB1:=hI (HB.out.trans (b1.mono HB.out.size))
 clear b1
 generalize hf:findR ls id 0=fr at hz1 hz2 HZ
 obtain⟨k,b⟩:=fr
 have HFR:=hI hf
 clear hf
 cases b
 ·obtain rfl:=hz2 rfl
  obtain rfl:k=0:=HZ.out rfl
  go_wp2_with fail
  go_ret2
  exact⟨by rw[HFR.out];rfl,HB1.out⟩
 ·obtain rfl:=hz1 rfl
  have t1:decide ((0:Int)≤(k:Int))=true:=Aav (by omega)
  have t2:decide ((k:Int)≥0)=true:=t1
  go_wp2_with fail
  go_ret2
  exact⟨by rw[HFR.out];rfl,HB1.out⟩
end Go.Proofs.YtcnmoobojdopgaaGreatDoor
