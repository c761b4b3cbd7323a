/-
  Signs and sizes of interest,coupons,present values.
-/
import Derived.Test.YteennkgpeiafaaaGreatDoorG44
set_option linter.unusedVariables false
set_option linter.unusedSimpArgs false
set_option maxHeartbeats 16000000
set_option maxRecDepth 100000
namespace Go.Proofs.YteennkgpeiafaaaGreatDoor
open Go.RowKit Tr Go.Shelf
theorem accQ_bd{i:Inst}(h:BdI i){d:Int}(hd:okDay d):BdQ (accQ i d) 59:=by
 rcases Apq (perL i) d with⟨k,p,hk,hp,_,_⟩|hn
 ·rw[Ap2 hk hp]
  exact Aph h (h.per (Aar hp)).1 hd
 ·rw[Ap3 hn]
  exact BdQ.zero (by omega)
theorem At2(op:BinOp)(x y:Operand)(xs ys:Array Value)(w:World):(eqGuard op 50 x y (.agg xs) (.agg ys)).run Tryz.prog w=.ok () w:=run_eqGuard_agg w op _ x y xs ys (by kernel_rfl)
attribute [local go_sem] At2
theorem At3(x y:Int×Int)(w:World):(binOp .neq 50 (.agg #[.int .i64 x.1,.int .i64 x.2]) (.agg #[.int .i64 y.1,.int .i64 y.2])).run Tryz.prog w=.ok (.bool (!sameB x y)) w:=by
 have hS:Tryz.prog.underlying 50=some (.struct (Tryz.prog.fieldsOf 50)):=by kernel_rfl
 have hp:Tryz.prog.stoodInHeld 50=false:=by kernel_rfl
 have u0:=Tryz.underlying22
 have a0:=Tryz.isAgg22
 have z0:=Tryz.sizeOf22
 rw[run_neq_struct,show (10000:Nat)=9999+1 from rfl,run_equalIn_agg w 9999 _ _ _ hS hp]
 simp only[Program.fieldsOf,Tryz.underlying50]
 go_simp
 by_cases h0:x.1=y.1
 case neg=>rw[As8 (fun e=>h0 (by rw[e]))];simp[h0]
 by_cases h1:x.2=y.2
 case neg=>rw[As8 (fun e=>h1 (by rw[e]))];simp[h0,h1]
 rw[As7 (Prod.ext h0 h1)];simp[h0,h1]
theorem At4(A1 A2:Option Addr)(l1 l2:List (Int×Int))(c1 c2:Nat)(h1:l1.length≤1000000)(h2:l2.length≤1000000)(n1 n2:Nat)(w:World)(r1:RdPw n1 w A1 l1)(r2:RdPw n2 w A2 l2):
 Calls Tryz.prog 35 #[.slice A1 l1.length c1,.slice A2 l2.length c2] w fun e w'=>e=.returned (.bool (sameB l1 l2))∧∃m,w'=w.drewN m:=by
 have R1:=hI r1
 have R2:=hI r2
 clear r1 r2
 by_cases hl:l1.length=l2.length
 case neg =>
  have tn:((l1.length:Int) != (l2.length:Int))=true:=by rw[bne,Aaj.2 (by omega)];rfl
  have tn':(l1.length != l2.length)=true:=by rw[bne,Aaj.2 hl];rfl
  have te:((l1.length:Int)==(l2.length:Int))=false:=Aaj.2 (by omega)
  have te':(l1.length==l2.length)=false:=Aaj.2 hl
  have HS:=hI (As8 (fun e=>hl (by rw[e])):sameB l1 l2=false)
  clear hl
  go_enter Tryz.func35,Tryz.ntmps35
  go_wp2_with fail
  go_ret
  exact⟨by rw[HS.out];rfl,0,rfl⟩
 obtain⟨n,hn⟩:∃n,l1.length=n:=⟨_,rfl⟩
 rw[←hl,hn]
 have tn:((n:Int) != (n:Int))=false:=by simp
 have HL:Hid (l1.length=n∧l2.length=n):=⟨hn,hl▸hn⟩
 have hnn:n≤1000000:=by omega
 clear hl hn h1 h2
 go_enter Tryz.func35,Tryz.ntmps35
 go_wp2_with fail
 go_loopw [5,13] (fun _ v wr=>∃k m:Nat,v=.int .i64 (k:Int)∧k≤n∧wr=w.drewN m∧l1.take k=l2.take k) (fun _ v _=>n-(intOf v).toNat)
 case atStart=>exact⟨0,0,rfl,by omega,rfl,rfl⟩
 case round =>
  obtain⟨k,m,rfl,hk,rfl,htk⟩:=hrel
  have HTK:=hI htk
  clear tn htk
  rcases Aam k n with hlt|hge
  ·obtain⟨x,hx⟩:∃x,l1[k]?=some x:=⟨_,Aae (by rw[HL.out.1];exact hlt)⟩
   obtain⟨y,hy⟩:∃y,l2[k]?=some y:=⟨_,Aae (by rw[HL.out.2];exact hlt)⟩
   obtain⟨a1,rfl,_,hc1⟩:=R1.out (by intro e;rw[e] at hx;cases hx)
   obtain⟨a2,rfl,_,hc2⟩:=R2.out (by intro e;rw[e] at hy;cases hy)
   have p:=hc1 k x hx
   have q:=hc2 k y hy
   obtain⟨p0,p1⟩:=p
   obtain⟨q0,q1⟩:=q
   have hcx:decide ((k:Int)<(n:Int))=true:=by simp;omega
   have hb:(k:Int)<(n:Int):=by omega
   have hne:=At3 x y
   by_cases he:x=y
   ·rw[As7 he] at hne
    have HST:=hI (Ata HTK.out hx hy he)
    clear hc1 hc2 hx hy he
    go_wp2_with fail
    go_quiet (fail)
    go_wp2_with fail
    go_roundw
    case rel=>exact⟨k+1,m+nq,by go_num,by omega,by first|rfl|rw[World.drewN_drewN],HST.out⟩
    case measure=>simp[intOf];omega
   ·rw[As8 he] at hne
    have HST:=hI (As8 (ne_at hx hy he))
    clear hc1 hc2 hx hy he
    go_wp2_with fail
    go_quiet (fail)
    go_wp2_with fail
    go_ret
    exact⟨by rw[HST.out];rfl,_,by first|rfl|rw[World.drewN_drewN]⟩
  ·have hcx:decide ((k:Int)<(n:Int))=false:=by simp;omega
   have HST:Hid (sameB l1 l2=true):=As7 (by have:=HTK.out;rwa [Aai (by rw[HL.out.1];exact hge),Aai (by rw[HL.out.2];exact hge)] at this)
   go_wp2_with fail
   go_ret
   exact⟨by rw[HST.out];rfl,_,rfl⟩
end Go.Proofs.YteennkgpeiafaaaGreatDoor
