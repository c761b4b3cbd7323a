/-
  What was chosen,plainly.
-/
import Derived.Test.YtcmgmemffncbhabGreatDoorT39
set_option linter.unusedVariables false
set_option linter.unusedSimpArgs false
set_option maxHeartbeats 16000000
set_option maxRecDepth 100000
namespace Go.Proofs.YtcmgmemffncbhabGreatDoor
open Go.RowKit Tr Go.Shelf
structure ChsOk(lz:List Lot)(s q:ByteArray)(m:Int)(ps:List Pk):Prop where
 all:lall lz=0
 can:Can q
 bad:¬(m=5∧ps.any badP=true)
 kind:1≤m∧m≤6
 pos:0<vl q
 le:vl q≤totQ (ownB lz s)
theorem Avs{lz:List Lot}{s q:ByteArray}{m:Int}{ps:List Pk}(h:chsE lz s q m ps=0):ChsOk lz s q m ps:=by
 by_cases h1:lall lz≠0∨¬Can q
 ·rw[At9 h1] at h;exact absurd h (by decide)
 have h0:lall lz=0:=Classical.byContradiction fun x=>h1 (.inl x)
 have hc:Can q:=Classical.byContradiction fun x=>h1 (.inr x)
 by_cases h2:m=5∧ps.any badP=true
 ·rw[Aua h0 hc h2] at h;exact absurd h (by decide)
 by_cases h3:1≤m∧m≤6
 case neg=>rw[Aub h0 hc h2 h3] at h;exact absurd h (by decide)
 by_cases h4:vl q≤0
 ·rw[Auc h0 hc h2 h3 h4] at h;exact absurd h (by decide)
 by_cases h5:totQ (ownB lz s)<vl q
 ·rw[Aud h0 hc h2 h3 (by omega) h5] at h;exact absurd h (by decide)
 exact⟨h0,hc,h2,h3,by omega,by omega⟩
def chsR(lz:List Lot)(s q:ByteArray)(m:Int)(ps:List Pk):List Pk:=pksOf (chsSt (ownB lz s) m (vl q) ps).1
section
variable {lz:List Lot} {s q:ByteArray} {m:Int} {ps:List Pk}
theorem ChsOk.pos'(h:ChsOk lz s q m ps):∀x∈lz,0<vl x.qty:=fun x hx=>(lchk_zero.1 (((Apz lz).1 h.all).ok x hx)).pq
theorem ChsOk.nd(h:ChsOk lz s q m ps):((ownB lz s).map Lot.id).Nodup:=Arf s ((Apz lz).1 h.all).nd
theorem ChsOk.inv(h:ChsOk lz s q m ps):InvA (ownB lz s) (vl q) (chsSt (ownB lz s) m (vl q) ps):=InvA.chs h.nd (fun x hx=>h.pos' x (ownB_mem.1 hx).1) (Int.le_of_lt h.pos) m ps
theorem ChsOk.pks(h:ChsOk lz s q m ps)(io:Option ByteArray)(hio:∀t,io=some t→t=s):PksOk lz io (chsR lz s q m ps):=h.inv.pks ((Apz lz).1 h.all).nd (fun x hx=>ownB_mem.1 hx) io hio
theorem chs_len(own:List Lot)(m q:Int)(ps:List Pk):(chsSt own m q ps).1.length≤ps.length+own.length:=by
 have key:∀(S:List Lot) (st:Am×Int),(tkAll S st).1.length≤st.1.length+S.length:=by
  intro S
  induction S with
  | nil=>intro st;exact Aad _
  | cons x r ih =>
    intro st
    have h1:=ih (tk st x (vl x.qty))
    have h2:=Aui st x (vl x.qty)
    show (tkAll r (tk st x (vl x.qty))).1.length≤_
    rw[Aa0];omega
 have key2:∀(ps:List Pk) (st:Am×Int),(ps.foldl (tkP own) st).1.length≤st.1.length+ps.length:=by
  intro ps
  induction ps with
  | nil=>intro st;exact Aad _
  | cons p r ih =>
    intro st
    have h1:=ih (tkP own st p)
    have h2:(tkP own st p).1.length≤st.1.length+1:=by
     unfold tkP
     split
     ·exact Aui _ _ _
     ·exact Nat.le_succ _
    rw[List.foldl_cons,Aa0];omega
 unfold chsSt
 have h1:=key (ordP m own) (if m=5 then ps.foldl (tkP own) ([],q) else ([],q))
 have h2:=(Aqc m own).length_eq
 have h3:(if m=5 then ps.foldl (tkP own) ([],q) else ([],q)).1.length≤ps.length:=by
  split
  ·have:=key2 ps ([],q)
   simpa using this
  ·exact Nat.zero_le _
 omega
theorem Avt(lz:List Lot)(s q:ByteArray)(m:Int)(ps:List Pk):(chsR lz s q m ps).length≤ps.length+lz.length:=by
 unfold chsR pksOf
 rw[Aar]
 have h1:=chs_len (ownB lz s) m (vl q) ps
 have h2:(ownB lz s).length≤lz.length:=List.length_filter_le _ _
 omega
theorem ChsOk.size(h:ChsOk lz s q m ps)(hti:∀l∈lz,l.tiny):∀p∈chsR lz s q m ps,p.qty.size≤14:=by
 intro p hp
 obtain⟨a,ha,rfl⟩:=List.mem_map.1 hp
 obtain⟨x,hx,e⟩:=h.inv.sub a ha
 have h1:=h.inv.le x hx
 rw[e,Aqh h.inv.nd ha] at h1
 have h2:=Auh (a:=x.qty) (Int.le_of_lt (h.inv.pos a ha)) h1
 have h3:=(hti x (ownB_mem.1 hx).1).1
 show (I a.2).size≤14
 omega
theorem ChsOk.whole(h:ChsOk lz s q m ps)(hm:m≠5){i:Nat}{p:Pk}{x:Lot}(hp:(chsR lz s q m ps)[i]?=some p)(hi:i+1<(chsR lz s q m ps).length)(hx:lotOf lz p.lot=some x):p.qty=x.qty:=by
 have hg:=Aqm h.nd (fun x hx=>h.pos' x (ownB_mem.1 hx).1) (Int.le_of_lt h.pos) hm ps
 unfold chsR at hp hi
 rw[hg] at hp hi
 unfold pksOf at hp hi
 rw[Aar] at hi
 rw[List.getElem?_map] at hp
 obtain⟨a,ha,rfl⟩:=Option.map_eq_some_iff.1 hp
 obtain⟨y,hy,rfl⟩:=greedy_whole _ _ i a ha hi
 have hyo:=(Aqc m (ownB lz s)).mem_iff.1 hy
 have hym:=(ownB_mem.1 hyo).1
 have:=nd_inj ((Apz lz).1 h.all).nd (Aqn hx).1 hym (Aqn hx).2
 subst this
 have hc:=(lchk_zero.1 (((Apz lz).1 h.all).ok x hym)).cq
 exact hc
end
end Go.Proofs.YtcmgmemffncbhabGreatDoor
namespace Go.Proofs.YtcmgmemffncbhabGreatDoor
open Go.RowKit Tr Go.Shelf
theorem I_mono{a b:Int}(h0:0≤a)(h:a≤b):(I a).size≤(I b).size:=by
 obtain⟨m,rfl⟩:∃m:Nat,a=m:=⟨a.toNat,by omega⟩
 obtain⟨n,rfl⟩:∃n:Nat,b=n:=⟨b.toNat,by omega⟩
 rw[Aek,Aek,Ack,Ack,digits_length_le_iff]
 exact Nat.lt_of_le_of_lt (by omega) ((digits_length_le_iff _ _).1 (Aad _))
def rlo(f:Nat→Int):Nat→Int
 | 0=>0
 | k+1=>if k=0 then f 0 else if f k<rlo f k then f k else rlo f k
def rhi(f:Nat→Int):Nat→Int
 | 0=>0
 | k+1=>if k=0 then f 0 else if rhi f k<f k then f k else rhi f k
noncomputable def mz(lz:List Lot)(s q:ByteArray)(k:Nat):Int:=cstZ lz (chsR lz s q ((k:Int)+1) [])
theorem Avu{lz:List Lot}{s q:ByteArray}{k:Nat}(hk:k<4):chsE lz s q ((k:Int)+1) []=chsE lz s q 1 []:=by
 have hb:∀m:Int,¬(m=5∧([]:List Pk).any badP=true):=fun m h=>Aaz h.2
 by_cases h1:lall lz≠0∨¬Can q
 ·rw[At9 h1,At9 h1]
 have h0:lall lz=0:=Classical.byContradiction fun x=>h1 (.inl x)
 have hc:Can q:=Classical.byContradiction fun x=>h1 (.inr x)
 by_cases h4:vl q≤0
 ·rw[Auc h0 hc (hb _) (by omega) h4,Auc h0 hc (hb _) (by omega) h4]
 by_cases h5:totQ (ownB lz s)<vl q
 ·rw[Aud h0 hc (hb _) (by omega) (by omega) h5,Aud h0 hc (hb _) (by omega) (by omega) h5]
 ·rw[Aue h0 hc (hb _) (by omega) (by omega) (by omega),Aue h0 hc (hb _) (by omega) (by omega) (by omega)]
theorem ChsOk.size13{lz:List Lot}{s q:ByteArray}{m:Int}{ps:List Pk}(h:ChsOk lz s q m ps)(hti:∀l∈lz,l.tiny):∀p∈chsR lz s q m ps,p.qty.size≤13:=by
 intro p hp
 obtain⟨x,hx⟩:=(h.pks none (fun t e=>by cases e)).ok p hp
 have hxm:=(Aqn hx.lot).1
 have hc:=(lchk_zero.1 (((Apz lz).1 h.all).ok x hxm)).cq
 have h1:=(hti x hxm).1
 have hpc:=hx.can
 unfold Can at hc hpc
 rw[←hpc]
 rw[←hc] at h1
 -- a positive number that is not greater has not more digits
 have h2:(I (vl p.qty)).size≤(I (vl x.qty)).size:=I_mono (Int.le_of_lt hx.pos) hx.le
 omega
theorem Avv(f:Nat→Int):∀k,0<k→∃j,j<k∧rlo f k=f j
 | 0,h=>absurd h (Nat.lt_irrefl _)
 | k + 1, _ => by
   rw[rlo]
   split
   ·exact⟨0,by omega,rfl⟩
   ·split
    ·exact⟨k,by omega,rfl⟩
    ·obtain⟨j,h1,h2⟩:=Avv f k (by omega)
     exact⟨j,by omega,h2⟩
theorem Avw(f:Nat→Int):∀k,0<k→∃j,j<k∧rhi f k=f j
 | 0,h=>absurd h (Nat.lt_irrefl _)
 | k + 1, _ => by
   rw[rhi]
   split
   ·exact⟨0,by omega,rfl⟩
   ·split
    ·exact⟨k,by omega,rfl⟩
    ·obtain⟨j,h1,h2⟩:=Avw f k (by omega)
     exact⟨j,by omega,h2⟩
theorem Avx{lz:List Lot}{ps:List Pk}(hti:∀l∈lz,l.tiny)(h13:posE lz none [] ps=0→∀p∈ps,p.qty.size≤13)(hl:ps.length≤10000):(I (cstZ lz ps)).size≤4000000:=by
 unfold cstZ
 by_cases h:takE lz ps=0
 ·rw[if_pos h]
  have h0:lall lz=0:=Classical.byContradiction fun x=>by rw[Aus x] at h;exact absurd h (by decide)
  have hp:posE lz none [] ps=0:=(Aut h0 ps).symm.trans h
  have hok:=((posE_zero lz none ps []).1 hp).2
  obtain⟨s2,hs2⟩:=sl_of (Aqz lz ps) (fun l hl=>(Arr ((Apz lz).1 h0) hti hok (h13 hp) hl).sized)
  have hl2:s2.length≤10000:=by
   have h:(Aqz lz ps).length=ps.length:=by unfold Aqz;rw[Aar]
   rw[←hs2,Aar] at h
   omega
  have:=Au1 1000 (Aad _) s2 hl2
  rw[hs2] at this
  omega
 ·rw[if_neg h];decide
noncomputable def rngLo(lz:List Lot)(s q:ByteArray):Int:=if chsE lz s q 1 []=0 then rlo (mz lz s q) 4 else 0
noncomputable def rngHi(lz:List Lot)(s q:ByteArray):Int:=if chsE lz s q 1 []=0 then rhi (mz lz s q) 4 else 0
theorem Avy(n₀:Nat)(A:Option Addr)(ls:List SLot)(c:Nat)(hc:ls.length≤c)(hlen:ls.length≤10000)(hti:∀l∈ls,l.1.tiny)(s q:ByteArray)(hq:q.size≤1000)(w:World)
 (hR:RdB n₀ w A ls) (hn:n₀≤w.heap.size) (hA:A=none→ls.length=0∧c=0) (ht:Tabs w) :
 Calls Tryz.prog 10 #[.slice A ls.length c,.string s,.string q] w fun e w'=>e=.returned (.tuple #[.string (I (rngLo (ls.map Subtype.val) s q)),.string (I (rngHi (ls.map Subtype.val) s q)),.int .i64 (chsE (ls.map Subtype.val) s q 1 [])])∧Below w.heap.size w w':=by
 obtain⟨lz,hlz⟩:∃lz,ls.map Subtype.val=lz:=⟨_,rfl⟩
 have hlzn:lz.length=ls.length:=by rw[←hlz,Aar]
 have htz:∀l∈lz,l.tiny:=fun l hl=>by rw[←hlz] at hl;obtain⟨y,hy,rfl⟩:=List.mem_map.1 hl;exact hti y hy
 have HCH:=fun (m:Int) W (hW:Below w.heap.size w W)=>Aur n₀ A ls c hc hlen s q hq m none [] 0 (by decide) (fun p h=>by cases h) W (hR.below (hW.mono hn)) (Aap hn hW.size) hA (RdK.nil _ _ _) (ht.below hW)
 have HCO:=fun (A2:Option Addr) (l2:List Pk) (c2:Nat) (h2:l2.length≤10000) (hc2:l2.length≤c2) (hs:∀p∈l2,p.qty.size≤13) W (hW:Below w.heap.size w W) (hk:RdK W.heap.size W A2 l2) =>
  Au3 W.heap.size A ls c hc hlen hti A2 l2 c2 h2 hc2 (fun p hp=>by have:=hs p hp;omega) (fun _ p hp=>hs p hp) W (fun h=>by obtain⟨ad,e,h1,h2⟩:=hR.below (hW.mono hn) h;exact⟨ad,e,Aah h1 (Aap hn hW.size),h2⟩) (Aad _) hA hk (ht.below hW)
 rw[hlz] at HCH HCO ⊢
 obtain⟨N,hN⟩:∃N,ls.length=N:=⟨_,rfl⟩
 rw[hN] at HCH HCO hlzn ⊢
 replace HCH:=hI HCH
 replace HCO:=hI HCO
 have HTZ:=hI htz
 have HLN:Hid (lz.length≤10000):=by show lz.length≤_;omega
 obtain⟨E,hE⟩:∃E,chsE lz s q 1 []=E:=⟨_,rfl⟩
 have hlo:rngLo lz s q=if E=0 then rlo (mz lz s q) 4 else 0:=by unfold rngLo;rw[hE]
 have hhi:rngHi lz s q=if E=0 then rhi (mz lz s q) 4 else 0:=by unfold rngHi;rw[hE]
 obtain⟨lo,hlo2⟩:∃z,rngLo lz s q=z:=⟨_,rfl⟩
 obtain⟨hi,hhi2⟩:∃z,rngHi lz s q=z:=⟨_,rfl⟩
 rw[hlo2] at hlo
 rw[hhi2] at hhi
 rw[hE,hlo2,hhi2]
 have HLO:=hI hlo
 have HHI:=hI hhi
 have HE:=hI hE
 clear hR hn hA ht hc hlen hti hlz hN htz hlzn hlo hhi hE hlo2 hhi2
 go_enter Tryz.func10,Tryz.ntmps10
 go_wp2_with fail
 go_loopw [9,10,11] (fun v9 v10 v wr=>∃k:Nat,v=.int .i64 ((k:Int)+1)∧k≤4∧(0<k→E=0)∧v9=.string (I (rlo (mz lz s q) k))∧v10=.string (I (rhi (mz lz s q) k))∧Below w.heap.size w wr) (fun _ _ v _=>(5-intOf v).toNat)
 case atStart=>exact⟨0,rfl,Nat.zero_le _,fun h=>absurd h (Nat.lt_irrefl _),rfl,rfl,Below.refl _ _⟩
 case round =>
  obtain⟨k,rfl,hk,hk0,rfl,rfl,hb⟩:=hrel
  have HB:=hI hb
  have HK0:=hI hk0
  clear hb hk0
  rcases Aam k 4 with hlt|hge
  ·have hcx:decide ((k:Int)+1≤4)=true:=Aa3 (by omega)
   have HCC:=hI (HCH.out ((k:Int)+1) _ HB.out)
   have HES:Hid (chsE lz s q ((k:Int)+1) []=E):=(Avu hlt).trans HE.out
   go_wp2_with fail
   refine HCC.out.mono ?_
   rintro e w2 ⟨A2,c2,res,rfl,b2,hk2,hc2,hr0,hr1⟩
   have HB2:=hI (HB.out.trans (b2.mono HB.out.size))
   rw[HES.out]
   by_cases hE0:E=0
   case neg =>
    obtain rfl:=hr0 (by rw[HES.out];exact hE0)
    have t1:(E==0)=false:=Aaj.2 hE0
    have t2:(E != 0)=true:=by rw[bne,t1];rfl
    have hz1:lo=0:=by rw[HLO.out,if_neg hE0]
    have hz2:hi=0:=by rw[HHI.out,if_neg hE0]
    have HZ:=hI (And.intro hz1 hz2)
    clear hE0 b2 hk2 hc2 hr0 hr1 HCC hz1 hz2
    go_wp2_with fail
    go_ret3
    exact⟨by rw[HZ.out.1,HZ.out.2];rfl,HB2.out⟩
   have hres:res=chsR lz s q ((k:Int)+1) []:=hr1 (by rw[HES.out];exact hE0)
   have hok:=Avs (HES.out.trans hE0)
   have hrl:res.length≤10000:=by rw[hres];have:=Avt lz s q ((k:Int)+1) [];have:=HLN.out;simp at *;omega
   have hrs:∀p∈res,p.qty.size≤13:=fun p hp=>by rw[hres] at hp;exact hok.size13 HTZ.out p hp
   have hco:=HCO.out A2 res c2 hrl hc2 hrs w2 HB2.out hk2
   have hmz:cstZ lz res=mz lz s q k:=by unfold mz;rw[hres]
   rw[hmz] at hco
   have HCOC:=hI hco
   have hsz:∀j,j<4→(I (mz lz s q j)).size≤4000000:=fun j hj=>by
    have hokj:=Avs (((Avu hj).trans HE.out).trans hE0)
    exact Avx HTZ.out (fun _=>hokj.size13 HTZ.out) (by have:=Avt lz s q ((j:Int)+1) [];have:=HLN.out;simp at *;omega)
   have HSZ:=hI hsz
   have HE0:=hI hE0
   subst hE0
   generalize res.length=rl at HCOC ⊢
   clear b2 hk2 hc2 hr0 hr1 HCC hres hok hrl hrs hco hmz hsz
   go_wp2_with fail
   refine HCOC.out.mono ?_
   rintro e w3 ⟨rfl,b3⟩
   have HB3:=hI (HB2.out.trans (b3.mono HB2.out.size))
   clear b3 HCOC
   rcases Aaq k with h0|hpos
   ·subst h0
    have HN1:Hid (rlo (mz lz s q) 1=mz lz s q 0∧rhi (mz lz s q) 1=mz lz s q 0):=⟨rfl,rfl⟩
    go_wp2_with fail
    go_roundw
    case rel=>exact⟨1,by go_num,by omega,(fun _=>by first|rfl|trivial),by rw[HN1.out.1],by rw[HN1.out.2],HB3.out⟩
    case measure=>simp[intOf]
   ·have t1:((k:Int)+1==1)=false:=Aaj.2 (by omega)
    obtain⟨j1,hj1,e1⟩:=Avv (mz lz s q) k hpos
    obtain⟨j2,hj2,e2⟩:=Avw (mz lz s q) k hpos
    have hc1:=fun W=>Agu (I (mz lz s q k)) (I (rlo (mz lz s q) k)) W (HSZ.out k hlt) (by rw[e1];exact HSZ.out j1 (by omega))
    have hc2:=fun W=>Agu (I (mz lz s q k)) (I (rhi (mz lz s q) k)) W (HSZ.out k hlt) (by rw[e2];exact HSZ.out j2 (by omega))
    simp only[vl_I] at hc1 hc2
    have hl:rlo (mz lz s q) (k+1)=if mz lz s q k<rlo (mz lz s q) k then mz lz s q k else rlo (mz lz s q) k:=by rw[rlo,if_neg (by omega)]
    have hh:rhi (mz lz s q) (k+1)=if rhi (mz lz s q) k<mz lz s q k then mz lz s q k else rhi (mz lz s q) k:=by rw[rhi,if_neg (by omega)]
    have HL:=hI hl
    have HH:=hI hh
    generalize rlo (mz lz s q) k=x at hc1 HL ⊢
    generalize rhi (mz lz s q) k=y at hc2 HH ⊢
    generalize mz lz s q k=z at hc1 hc2 HL HH ⊢
    have HC1:=hI (hc1 w3)
    have HC2:=hI hc2
    clear hl hh e1 e2 hj1 hj2 hc1 hc2
    go_wp2_with fail
    refine HC1.out.mono ?_
    rintro e w4 ⟨rfl,b4⟩
    have HB4:=hI (HB3.out.trans (b4.mono HB3.out.size))
    clear b4 HC1
    have HC2':=hI (HC2.out w4)
    by_cases hlt1:z<x
    ·have t2:decide (cmpI z x<0)=true:=Aa3 (cmpI_lt.2 hlt1)
     have HR1:Hid (rlo (mz lz s q) (k+1)=z):=by rw[Hid,HL.out,if_pos hlt1]
     clear hlt1
     go_wp2_with fail
     refine HC2'.out.mono ?_
     rintro e w5 ⟨rfl,b5⟩
     have HB5:=hI (HB4.out.trans (b5.mono HB4.out.size))
     clear b5 HC2'
     by_cases hlt2:y<z
     ·have t3:decide (cmpI z y > 0)=true:=Aa3 (cmpI_gt.2 hlt2)
      have t4:decide (0<cmpI z y)=true:=t3
      have HR2:Hid (rhi (mz lz s q) (k+1)=z):=by rw[Hid,HH.out,if_pos hlt2]
      clear hlt2
      go_wp2_with fail
      go_roundw
      case rel=>exact⟨k+1,by go_num,by omega,(fun _=>by first|rfl|trivial),by rw[HR1.out],by rw[HR2.out],HB5.out⟩
      case measure=>simp[intOf];omega
     ·have t3:decide (cmpI z y > 0)=false:=Aa4 (fun h=>hlt2 (cmpI_gt.1 h))
      have t4:decide (0<cmpI z y)=false:=t3
      have HR2:Hid (rhi (mz lz s q) (k+1)=y):=by rw[Hid,HH.out,if_neg hlt2]
      clear hlt2
      go_wp2_with fail
      go_roundw
      case rel=>exact⟨k+1,by go_num,by omega,(fun _=>by first|rfl|trivial),by rw[HR1.out],by rw[HR2.out],HB5.out⟩
      case measure=>simp[intOf];omega
    ·have t2:decide (cmpI z x<0)=false:=Aa4 (fun h=>hlt1 (cmpI_lt.1 h))
     have HR1:Hid (rlo (mz lz s q) (k+1)=x):=by rw[Hid,HL.out,if_neg hlt1]
     clear hlt1
     go_wp2_with fail
     refine HC2'.out.mono ?_
     rintro e w5 ⟨rfl,b5⟩
     have HB5:=hI (HB4.out.trans (b5.mono HB4.out.size))
     clear b5 HC2'
     by_cases hlt2:y<z
     ·have t3:decide (cmpI z y > 0)=true:=Aa3 (cmpI_gt.2 hlt2)
      have t4:decide (0<cmpI z y)=true:=t3
      have HR2:Hid (rhi (mz lz s q) (k+1)=z):=by rw[Hid,HH.out,if_pos hlt2]
      clear hlt2
      go_wp2_with fail
      go_roundw
      case rel=>exact⟨k+1,by go_num,by omega,(fun _=>by first|rfl|trivial),by rw[HR1.out],by rw[HR2.out],HB5.out⟩
      case measure=>simp[intOf];omega
     ·have t3:decide (cmpI z y > 0)=false:=Aa4 (fun h=>hlt2 (cmpI_gt.1 h))
      have t4:decide (0<cmpI z y)=false:=t3
      have HR2:Hid (rhi (mz lz s q) (k+1)=y):=by rw[Hid,HH.out,if_neg hlt2]
      clear hlt2
      go_wp2_with fail
      go_roundw
      case rel=>exact⟨k+1,by go_num,by omega,(fun _=>by first|rfl|trivial),by rw[HR1.out],by rw[HR2.out],HB5.out⟩
      case measure=>simp[intOf];omega
  ·have hcx:decide ((k:Int)+1≤4)=false:=Aa4 (by omega)
   obtain rfl:k=4:=by omega
   have hE0:=HK0.out (by decide)
   have HZ:Hid (lo=rlo (mz lz s q) 4∧hi=rhi (mz lz s q) 4∧E=0):=⟨by rw[HLO.out,if_pos hE0],by rw[HHI.out,if_pos hE0],hE0⟩
   clear hE0
   go_wp2_with fail
   go_ret3
   exact⟨by rw[HZ.out.1,HZ.out.2.1,HZ.out.2.2];rfl,HB.out⟩
theorem Avz(n₀:Nat)(A:Option Addr)(ls:List SLot)(c:Nat)(hc:ls.length≤c)(hlen:ls.length≤10000)(hti:∀l∈ls,l.1.tiny)(Ap:Option Addr)(ps:List Pk)(cp:Nat)(hpl:ps.length≤10000)(hcp:ps.length≤cp)(hps:∀p∈ps,p.qty.size≤1000)(h13:posE (ls.map Subtype.val) none [] ps=0→∀p∈ps,p.qty.size≤13)(w:World)
 (hR:RdB n₀ w A ls) (hn:n₀≤w.heap.size) (hK:RdK n₀ w Ap ps) (ht:Tabs w) :
 Calls Tryz.prog 9 #[.slice A ls.length c,.slice Ap ps.length cp] w fun e w'=>e=.returned (.tuple #[.string (I (cstZ (ls.map Subtype.val) ps)),.int .i64 (takE (ls.map Subtype.val) ps)])∧Below w.heap.size w w':=by
 have HTK:=hI (Avd n₀ A ls c hc hlen hti Ap ps cp hpl hcp hps h13 w hR hn hK ht)
 have HT:=hI ht
 obtain⟨lz,hlz⟩:∃lz,ls.map Subtype.val=lz:=⟨_,rfl⟩
 rw[hlz] at HTK ⊢
 have hPl:=hpl
 have HHP:Hid (ps.length≤10000):=hpl
 clear hR hn hK ht hti hc hlen hpl hcp hps h13 hlz hPl
 go_enter Tryz.func9,Tryz.ntmps9
 go_wp2_with fail
 refine HTK.out.mono ?_
 rintro e w1 ⟨A1,c1,r1,A2,c2,r2,rfl,b1,_,hr2,_,_,_,_,h0,h1⟩
 have HB1:=hI b1
 have HR2:=hI hr2
 have hrl:r2.length≤10000:=by
  have:=HHP.out
  by_cases hz:takE lz ps=0
  ·have h:=congrArg List.length (h1 hz).2
   unfold Aqz at h
   rw[Aar,Aar] at h
   omega
  ·rw[(h0 hz).2];exact Nat.zero_le _
 have hcs:sumL (fun l=>vl l.cost) (r2.map Subtype.val)=cstZ lz ps:=by
  unfold cstZ
  by_cases hz:takE lz ps=0
  ·rw[if_pos hz,(h1 hz).2]
  ·rw[if_neg hz,(h0 hz).2];rfl
 have HCS:=hI hcs
 obtain⟨zE,hzE⟩:∃z,takE lz ps=z:=⟨_,rfl⟩
 rw[hzE]
 have HZE:=hI hzE
 obtain⟨M,hM⟩:∃M,r2.length=M:=⟨_,rfl⟩
 rw[hM] at hrl ⊢
 have HM:=hI hM
 clear b1 hr2 h0 h1 hcs HTK hM hzE
 go_wp2_with fail
 go_loopw [9,10] (fun v9 v wr=>∃k:Nat,v=.int .i64 (k:Int)∧k≤M∧v9=.string (I (sumL (fun l=>vl l.cost) ((r2.map Subtype.val).take k)))∧Below w1.heap.size w1 wr) (fun _ v _=>M-(intOf v).toNat)
 case atStart=>exact⟨0,rfl,Nat.zero_le _,rfl,Below.refl _ _⟩
 case round =>
  obtain⟨k,rfl,hk,rfl,hb⟩:=hrel
  have HB:=hI hb
  clear hb
  rcases Aam k M with hlt|hge
  ·obtain⟨y,hy⟩:∃y,r2[k]?=some y:=⟨_,Aae (by rw[HM.out];exact hlt)⟩
   obtain⟨ad,rfl,had,hcell⟩:=HR2.out (by intro e;rw[e] at hy;cases hy)
   have hcx:decide ((k:Int)<(M:Int))=true:=by simp;omega
   obtain⟨c0,c1',c2',c3,c4,c5,c6⟩:=(hcell k y hy).below HB.out (by rw[Acv];exact had)
   have hym:(r2.map Subtype.val)[k]?=some y.1:=by rw[List.getElem?_map,hy];rfl
   have HTK:=hI (Au2 (f:=fun l=>vl l.cost) hym)
   obtain⟨z,hz⟩:∃z,sumL (fun l=>vl l.cost) ((r2.map Subtype.val).take k)=z:=⟨_,rfl⟩
   have hzs:(I z).size≤2000:=by
    rw[←hz,←List.map_take]
    have:=Au1 1000 (Aad _) (r2.take k) (by rw[Aat];omega)
    omega
   rw[hz]
   have HZ:=hI hz
   have hadd:=Aiy (I z) y.1.cost (by omega) (by have:=y.2.2.2.2.1;omega) wr
   rw[vl_I] at hadd
   have HADD:=hI hadd
   clear hcell hy hym had hadd hz hzs
   go_wp2_with fail
   refine HADD.out.mono ?_
   rintro e w6 ⟨rfl,b6⟩
   have HB6:=hI (HB.out.trans (b6.mono HB.out.size))
   clear b6 HADD c0 c1' c2' c3 c4 c5 c6
   go_wp2_with fail
   go_roundw
   case rel=>exact⟨k+1,by go_num,by omega,by rw[HTK.out,HZ.out],HB6.out⟩
   case measure=>simp[intOf];omega
  ·have hcx:decide ((k:Int)<(M:Int))=false:=by simp;omega
   have he:sumL (fun l=>vl l.cost) ((r2.map Subtype.val).take k)=cstZ lz ps:=by rw[Aai (by rw[Aar,HM.out];exact hge)];exact HCS.out
   rw[he]
   clear he
   go_wp2_with fail
   go_ret2
   exact⟨by rw[HZE.out];rfl,HB1.out.trans (HB.out.mono HB1.out.size)⟩
theorem Av0{lz:List Lot}{ps:List Pk}(hti:∀l∈lz,l.tiny)(h13:posE lz none [] ps=0→∀p∈ps,p.qty.size≤13)(hl:ps.length≤10000):(I (cstZ lz ps)).size≤1000000:=by
 unfold cstZ
 by_cases h:takE lz ps=0
 ·rw[if_pos h]
  have h0:lall lz=0:=Classical.byContradiction fun x=>by rw[Aus x] at h;exact absurd h (by decide)
  have hp:posE lz none [] ps=0:=(Aut h0 ps).symm.trans h
  have hok:=((posE_zero lz none ps []).1 hp).2
  obtain⟨s2,hs2⟩:=sl_of (Aqz lz ps) (fun l hl=>(Arr ((Apz lz).1 h0) hti hok (h13 hp) hl).sized)
  have hl2:s2.length≤10000:=by
   have h:(Aqz lz ps).length=ps.length:=by unfold Aqz;rw[Aar]
   rw[←hs2,Aar] at h
   omega
  have:=Au1 1000 (Aad _) s2 hl2
  rw[hs2] at this
  omega
 ·rw[if_neg h];decide
theorem Av1(n₀:Nat)(A:Option Addr)(ls:List SLot)(c:Nat)(hc:ls.length≤c)(hlen:ls.length≤10000)(hti:∀l∈ls,l.1.tiny)(s q:ByteArray)(hq:q.size≤1000)(w:World)
 (hR:RdB n₀ w A ls) (hn:n₀≤w.heap.size) (ht:Tabs w) :
 Calls Tryz.prog 11 #[.slice A ls.length c,.string s,.string q] w fun e w'=>e=.returned (.tuple #[.string (I (rngLo (ls.map Subtype.val) s q)),.string (I (rngHi (ls.map Subtype.val) s q)),.int .i64 (chsE (ls.map Subtype.val) s q 1 [])])∧Below w.heap.size w w':=by
 obtain⟨lz,hlz⟩:∃lz,ls.map Subtype.val=lz:=⟨_,rfl⟩
 have hlzn:lz.length=ls.length:=by rw[←hlz,Aar]
 have htz:∀l∈lz,l.tiny:=fun l hl=>by rw[←hlz] at hl;obtain⟨y,hy,rfl⟩:=List.mem_map.1 hl;exact hti y hy
 have HCH:=fun (m:Int) W (hW:Below w.heap.size w W)=>Avm n₀ A ls c hc hlen hti s q hq m none [] 0 (by decide) (fun p h=>by cases h) W (hR.below (hW.mono hn)) (Aap hn hW.size) (RdK.nil _ _ _)
 have HCO:=fun (A2:Option Addr) (l2:List Pk) (c2:Nat) (h2:l2.length≤10000) (hc2:l2.length≤c2) (hs:∀p∈l2,p.qty.size≤13) W (hW:Below w.heap.size w W) (hk:RdK W.heap.size W A2 l2) =>
  Avz W.heap.size A ls c hc hlen hti A2 l2 c2 h2 hc2 (fun p hp=>by have:=hs p hp;omega) (fun _ p hp=>hs p hp) W (fun h=>by obtain⟨ad,e,h1,h2⟩:=hR.below (hW.mono hn) h;exact⟨ad,e,Aah h1 (Aap hn hW.size),h2⟩) (Aad _) hk (ht.below hW)
 rw[hlz] at HCH HCO ⊢
 obtain⟨N,hN⟩:∃N,ls.length=N:=⟨_,rfl⟩
 rw[hN] at HCH HCO hlzn ⊢
 replace HCH:=hI HCH
 replace HCO:=hI HCO
 have HTZ:=hI htz
 have HLN:Hid (lz.length≤10000):=by show lz.length≤_;omega
 obtain⟨E,hE⟩:∃E,chsE lz s q 1 []=E:=⟨_,rfl⟩
 have hlo:rngLo lz s q=if E=0 then rlo (mz lz s q) 4 else 0:=by unfold rngLo;rw[hE]
 have hhi:rngHi lz s q=if E=0 then rhi (mz lz s q) 4 else 0:=by unfold rngHi;rw[hE]
 obtain⟨lo,hlo2⟩:∃z,rngLo lz s q=z:=⟨_,rfl⟩
 obtain⟨hi,hhi2⟩:∃z,rngHi lz s q=z:=⟨_,rfl⟩
 rw[hlo2] at hlo
 rw[hhi2] at hhi
 rw[hE,hlo2,hhi2]
 have HLO:=hI hlo
 have HHI:=hI hhi
 have HE:=hI hE
 clear hR hn ht hc hlen hti hlz hN htz hlzn hlo hhi hE hlo2 hhi2
 go_enter Tryz.func11,Tryz.ntmps11
 go_wp2_with fail
 go_loopw [9,10,11] (fun v9 v10 v wr=>∃k:Nat,v=.int .i64 ((k:Int)+1)∧k≤4∧(0<k→E=0)∧v9=.string (I (rlo (mz lz s q) k))∧v10=.string (I (rhi (mz lz s q) k))∧Below w.heap.size w wr) (fun _ _ v _=>(5-intOf v).toNat)
 case atStart=>exact⟨0,rfl,Nat.zero_le _,fun h=>absurd h (Nat.lt_irrefl _),rfl,rfl,Below.refl _ _⟩
 case round =>
  obtain⟨k,rfl,hk,hk0,rfl,rfl,hb⟩:=hrel
  have HB:=hI hb
  have HK0:=hI hk0
  clear hb hk0
  rcases Aam k 4 with hlt|hge
  ·have hcx:decide ((k:Int)+1≤4)=true:=Aa3 (by omega)
   have HCC:=hI (HCH.out ((k:Int)+1) _ HB.out)
   have HES:Hid (chsE lz s q ((k:Int)+1) []=E):=(Avu hlt).trans HE.out
   go_wp2_with fail
   refine HCC.out.mono ?_
   rintro e w2 ⟨A2,c2,res,rfl,b2,hk2,hc2,hr0,hr1⟩
   have HB2:=hI (HB.out.trans (b2.mono HB.out.size))
   rw[HES.out]
   by_cases hE0:E=0
   case neg =>
    obtain rfl:=hr0 (by rw[HES.out];exact hE0)
    have t1:(E==0)=false:=Aaj.2 hE0
    have t2:(E != 0)=true:=by rw[bne,t1];rfl
    have hz1:lo=0:=by rw[HLO.out,if_neg hE0]
    have hz2:hi=0:=by rw[HHI.out,if_neg hE0]
    have HZ:=hI (And.intro hz1 hz2)
    clear hE0 b2 hk2 hc2 hr0 hr1 HCC hz1 hz2
    go_wp2_with fail
    go_ret3
    exact⟨by rw[HZ.out.1,HZ.out.2];rfl,HB2.out⟩
   have hres:res=chsR lz s q ((k:Int)+1) []:=hr1 (by rw[HES.out];exact hE0)
   have hok:=Avs (HES.out.trans hE0)
   have hrl:res.length≤10000:=by rw[hres];have:=Avt lz s q ((k:Int)+1) [];have:=HLN.out;simp at *;omega
   have hrs:∀p∈res,p.qty.size≤13:=fun p hp=>by rw[hres] at hp;exact hok.size13 HTZ.out p hp
   have hco:=HCO.out A2 res c2 hrl hc2 hrs w2 HB2.out hk2
   have hmz:cstZ lz res=mz lz s q k:=by unfold mz;rw[hres]
   rw[hmz] at hco
   have HCOC:=hI hco
   have hsz:∀j,j<4→(I (mz lz s q j)).size≤1000000:=fun j hj=>by
    have hokj:=Avs (((Avu hj).trans HE.out).trans hE0)
    exact Av0 HTZ.out (fun _=>hokj.size13 HTZ.out) (by have:=Avt lz s q ((j:Int)+1) [];have:=HLN.out;simp at *;omega)
   have HSZ:=hI hsz
   have HE0:=hI hE0
   subst hE0
   generalize res.length=rl at HCOC ⊢
   clear b2 hk2 hc2 hr0 hr1 HCC hres hok hrl hrs hco hmz hsz
   go_wp2_with fail
   refine HCOC.out.mono ?_
   rintro e w3 ⟨rfl,b3⟩
   have HB3:=hI (HB2.out.trans (b3.mono HB2.out.size))
   clear b3 HCOC
   rcases Aaq k with h0|hpos
   ·subst h0
    have HN1:Hid (rlo (mz lz s q) 1=mz lz s q 0∧rhi (mz lz s q) 1=mz lz s q 0):=⟨rfl,rfl⟩
    go_wp2_with fail
    go_roundw
    case rel=>exact⟨1,by go_num,by omega,(fun _=>by first|rfl|trivial),by rw[HN1.out.1],by rw[HN1.out.2],HB3.out⟩
    case measure=>simp[intOf]
   ·have t1:((k:Int)+1==1)=false:=Aaj.2 (by omega)
    obtain⟨j1,hj1,e1⟩:=Avv (mz lz s q) k hpos
    obtain⟨j2,hj2,e2⟩:=Avw (mz lz s q) k hpos
    have hc1:=fun W=>(Ahh (I (mz lz s q k)) (I (rlo (mz lz s q) k)) (HSZ.out k hlt) (by rw[e1];exact HSZ.out j1 (by omega)) W).mono fun e w' h=>(⟨h.1,by rw[←h.2];exact Below.refl _ _⟩:e=.returned (.int .i64 (cmpI (vl (I (mz lz s q k))) (vl (I (rlo (mz lz s q) k)))))∧Below W.heap.size W w')
    have hc2:=fun W=>(Ahh (I (mz lz s q k)) (I (rhi (mz lz s q) k)) (HSZ.out k hlt) (by rw[e2];exact HSZ.out j2 (by omega)) W).mono fun e w' h=>(⟨h.1,by rw[←h.2];exact Below.refl _ _⟩:e=.returned (.int .i64 (cmpI (vl (I (mz lz s q k))) (vl (I (rhi (mz lz s q) k)))))∧Below W.heap.size W w')
    simp only[vl_I] at hc1 hc2
    have hl:rlo (mz lz s q) (k+1)=if mz lz s q k<rlo (mz lz s q) k then mz lz s q k else rlo (mz lz s q) k:=by rw[rlo,if_neg (by omega)]
    have hh:rhi (mz lz s q) (k+1)=if rhi (mz lz s q) k<mz lz s q k then mz lz s q k else rhi (mz lz s q) k:=by rw[rhi,if_neg (by omega)]
    have HL:=hI hl
    have HH:=hI hh
    generalize rlo (mz lz s q) k=x at hc1 HL ⊢
    generalize rhi (mz lz s q) k=y at hc2 HH ⊢
    generalize mz lz s q k=z at hc1 hc2 HL HH ⊢
    have HC1:=hI (hc1 w3)
    have HC2:=hI hc2
    clear hl hh e1 e2 hj1 hj2 hc1 hc2
    go_wp2_with fail
    refine HC1.out.mono ?_
    rintro e w4 ⟨rfl,b4⟩
    have HB4:=hI (HB3.out.trans (b4.mono HB3.out.size))
    clear b4 HC1
    have HC2':=hI (HC2.out w4)
    by_cases hlt1:z<x
    ·have t2:decide (cmpI z x<0)=true:=Aa3 (cmpI_lt.2 hlt1)
     have HR1:Hid (rlo (mz lz s q) (k+1)=z):=by rw[Hid,HL.out,if_pos hlt1]
     clear hlt1
     go_wp2_with fail
     refine HC2'.out.mono ?_
     rintro e w5 ⟨rfl,b5⟩
     have HB5:=hI (HB4.out.trans (b5.mono HB4.out.size))
     clear b5 HC2'
     by_cases hlt2:y<z
     ·have t3:decide (cmpI z y > 0)=true:=Aa3 (cmpI_gt.2 hlt2)
      have t4:decide (0<cmpI z y)=true:=t3
      have HR2:Hid (rhi (mz lz s q) (k+1)=z):=by rw[Hid,HH.out,if_pos hlt2]
      clear hlt2
      go_wp2_with fail
      go_roundw
      case rel=>exact⟨k+1,by go_num,by omega,(fun _=>by first|rfl|trivial),by rw[HR1.out],by rw[HR2.out],HB5.out⟩
      case measure=>simp[intOf];omega
     ·have t3:decide (cmpI z y > 0)=false:=Aa4 (fun h=>hlt2 (cmpI_gt.1 h))
      have t4:decide (0<cmpI z y)=false:=t3
      have HR2:Hid (rhi (mz lz s q) (k+1)=y):=by rw[Hid,HH.out,if_neg hlt2]
      clear hlt2
      go_wp2_with fail
      go_roundw
      case rel=>exact⟨k+1,by go_num,by omega,(fun _=>by first|rfl|trivial),by rw[HR1.out],by rw[HR2.out],HB5.out⟩
      case measure=>simp[intOf];omega
    ·have t2:decide (cmpI z x<0)=false:=Aa4 (fun h=>hlt1 (cmpI_lt.1 h))
     have HR1:Hid (rlo (mz lz s q) (k+1)=x):=by rw[Hid,HL.out,if_neg hlt1]
     clear hlt1
     go_wp2_with fail
     refine HC2'.out.mono ?_
     rintro e w5 ⟨rfl,b5⟩
     have HB5:=hI (HB4.out.trans (b5.mono HB4.out.size))
     clear b5 HC2'
     by_cases hlt2:y<z
     ·have t3:decide (cmpI z y > 0)=true:=Aa3 (cmpI_gt.2 hlt2)
      have t4:decide (0<cmpI z y)=true:=t3
      have HR2:Hid (rhi (mz lz s q) (k+1)=z):=by rw[Hid,HH.out,if_pos hlt2]
      clear hlt2
      go_wp2_with fail
      go_roundw
      case rel=>exact⟨k+1,by go_num,by omega,(fun _=>by first|rfl|trivial),by rw[HR1.out],by rw[HR2.out],HB5.out⟩
      case measure=>simp[intOf];omega
     ·have t3:decide (cmpI z y > 0)=false:=Aa4 (fun h=>hlt2 (cmpI_gt.1 h))
      have t4:decide (0<cmpI z y)=false:=t3
      have HR2:Hid (rhi (mz lz s q) (k+1)=y):=by rw[Hid,HH.out,if_neg hlt2]
      clear hlt2
      go_wp2_with fail
      go_roundw
      case rel=>exact⟨k+1,by go_num,by omega,(fun _=>by first|rfl|trivial),by rw[HR1.out],by rw[HR2.out],HB5.out⟩
      case measure=>simp[intOf];omega
  ·have hcx:decide ((k:Int)+1≤4)=false:=Aa4 (by omega)
   obtain rfl:k=4:=by omega
   have hE0:=HK0.out (by decide)
   have HZ:Hid (lo=rlo (mz lz s q) 4∧hi=rhi (mz lz s q) 4∧E=0):=⟨by rw[HLO.out,if_pos hE0],by rw[HHI.out,if_pos hE0],hE0⟩
   clear hE0
   go_wp2_with fail
   go_ret3
   exact⟨by rw[HZ.out.1,HZ.out.2.1,HZ.out.2.2];rfl,HB.out⟩
theorem Av2{lz:List Lot}{ps:List Pk}{r1 r2 r1' r2':List SLot}(h0:takE lz ps≠0→r1=[]∧r2=[])(h:takE lz ps=0→r1.map Subtype.val=restR lz ps∧r2.map Subtype.val=Aqz lz ps)(h0':takE lz ps≠0→r1'=[]∧r2'=[])(h':takE lz ps=0→r1'.map Subtype.val=restR lz ps∧r2'.map Subtype.val=Aqz lz ps):
 r1.map Subtype.val=r1'.map Subtype.val∧r2.map Subtype.val=r2'.map Subtype.val:=by
 by_cases hz:takE lz ps=0
 ·exact⟨(h hz).1.trans (h' hz).1.symm,(h hz).2.trans (h' hz).2.symm⟩
 ·rw[(h0 hz).1,(h0 hz).2,(h0' hz).1,(h0' hz).2];exact⟨rfl,rfl⟩
theorem Av3{lz:List Lot}{ps:List Pk}{r1 r2:List SLot}(hl:lz.length≤10000)(hp:ps.length≤10000)(h0:takE lz ps≠0→r1=[]∧r2=[])(h:takE lz ps=0→r1.map Subtype.val=restR lz ps∧r2.map Subtype.val=Aqz lz ps):r1.length≤10000∧r2.length≤10000:=by
 by_cases hz:takE lz ps=0
 ·have a:=congrArg List.length (h hz).1
  have b:=congrArg List.length (h hz).2
  have a2:=Aq3 lz ps
  unfold Aqz at b
  rw[Aar,Aar] at b
  rw[Aar] at a
  exact⟨by omega,by omega⟩
 ·rw[(h0 hz).1,(h0 hz).2];exact⟨Nat.zero_le _,Nat.zero_le _⟩
theorem Av4(A:Option Addr)(ls:List Lot)(c:Nat)(hcap:ls.length≤c)(h1:ls.length≤9223372036854775807)(hA:A=none→ls.length=0∧c=0)(s q:ByteArray)(Ap:Option Addr)(ps:List Pk)(cp:Nat)(hcp:ps.length≤cp)(hp1:ps.length≤9223372036854775807)(w:World)
 (hR:RdL w A ls) (hK:RdK w.heap.size w Ap ps) (ht:Tabs w):Calls Tryz.prog 3 #[.slice A ls.length c,.string s,.string q,.slice Ap ps.length cp] w (Apk w):=by
 have HAW:=hI (fun W (hW:Below w.heap.size w W)=>Avn W (ht.below hW))
 have HGR:=hI (Avr w.heap.size A ls c h1 Ap ps cp hp1 s q w hR hK (Aad _))
 by_cases hsm:Sml ls ps s q
 case neg =>
  have HN:=hI hsm
  obtain⟨N,hN⟩:∃N,ls.length=N:=⟨_,rfl⟩
  obtain⟨P,hP⟩:∃P,ps.length=P:=⟨_,rfl⟩
  rw[hN,hP] at HGR ⊢
  clear hR hK ht hcap h1 hA hcp hp1 hsm hN hP
  go_enter Tryz.func3,Tryz.ntmps3
  go_wp2_with fail
  refine HGR.out.mono ?_
  rintro e w1 ⟨b,rfl,hb,b1⟩
  have hbt:b=true:=by cases b;exact (HN.out (hb rfl)).elim;rfl
  subst hbt
  have HB1:=hI b1
  have HA1:=hI (HAW.out w1 b1)
  clear b1 hb
  go_wp2_with fail
  refine HA1.out.mono ?_
  rintro e w2 ⟨rfl,b2⟩
  have HB2:=hI (HB1.out.trans (b2.mono HB1.out.size))
  clear b2
  go_wp2_with fail
  go_ret
  exact⟨rfl,HB2.out⟩
 obtain⟨sl,hsl⟩:=sl_of ls (fun l hl=>(hsm.tiny l hl).sized)
 have hll:sl.length=ls.length:=by rw[←hsl,Aar]
 have hrb:RdB w.heap.size w A sl:=by
  intro hl
  obtain⟨ad,e,q1,q2⟩:=hR (by rw[←hsl];intro h;exact hl (List.map_eq_nil_iff.1 h))
  exact⟨ad,e,q1,fun j l hj=>q2 j l.1 (by rw[←hsl,List.getElem?_map,hj];rfl)⟩
 have hti:∀l∈sl,l.1.tiny:=fun l hl=>hsm.tiny l.1 (by rw[←hsl];exact List.mem_map.2 ⟨l,hl,rfl⟩)
 have hpq:∀p∈ps,p.qty.size≤1000:=fun p hp=>by have:=(hsm.p p hp).2;omega
 have hp13:∀p∈ps,p.qty.size≤13:=fun p hp=>(hsm.p p hp).2
 have hqs:q.size≤1000:=by have:=hsm.q;omega
 have hl2:=hsm.len.2
 have hp2:=hsm.pl
 have hA2:A=none→sl.length=0∧c=0:=by rw[hll];exact hA
 have hrW:∀W,Below w.heap.size w W→RdB W.heap.size W A sl:=fun W hW h=>by obtain⟨ad,e,h1,h2⟩:=hrb.below hW h;exact⟨ad,e,Aah h1 hW.size,h2⟩
 have hrK:∀W,Below w.heap.size w W→RdK W.heap.size W Ap ps:=fun W hW=>(hK.below hW).mono hW.size
 have HTK:=fun W (hW:Below w.heap.size w W)=>Au0 W.heap.size A sl c (by omega) (by omega) hti Ap ps cp (by omega) hcp hpq (fun _=>hp13) W (hrW W hW) (Aad _) hA2 (hrK W hW) (ht.below hW)
 have HTR:=fun W (hW:Below w.heap.size w W)=>Avd W.heap.size A sl c (by omega) (by omega) hti Ap ps cp (by omega) hcp hpq (fun _=>hp13) W (hrW W hW) (Aad _) (hrK W hW) (ht.below hW)
 have HCO:=fun W (hW:Below w.heap.size w W)=>Au3 W.heap.size A sl c (by omega) (by omega) hti Ap ps cp (by omega) hcp hpq (fun _=>hp13) W (hrW W hW) (Aad _) hA2 (hrK W hW) (ht.below hW)
 have HCR:=fun W (hW:Below w.heap.size w W)=>Avz W.heap.size A sl c (by omega) (by omega) hti Ap ps cp (by omega) hcp hpq (fun _=>hp13) W (hrW W hW) (Aad _) (hrK W hW) (ht.below hW)
 have HRG:=fun W (hW:Below w.heap.size w W)=>Avy w.heap.size A sl c (by omega) (by omega) hti s q hqs W (hrb.below hW) hW.size hA2 (ht.below hW)
 have HRR:=fun W (hW:Below w.heap.size w W)=>Av1 w.heap.size A sl c (by omega) (by omega) hti s q hqs W (hrb.below hW) hW.size (ht.below hW)
 have HCK:=fun W (hW:Below w.heap.size w W)=>Au4 w.heap.size A sl c (by omega) (by omega) s Ap ps cp (by omega) hcp hpq W (hrb.below hW) hW.size (hK.below hW) (ht.below hW)
 have HKR:=fun W (hW:Below w.heap.size w W)=>Ava w.heap.size A sl c (by omega) (by omega) hti s Ap ps cp (by omega) hcp hpq W (hrb.below hW) hW.size (hK.below hW)
 rw[hsl] at HTK HTR HCO HCR HRG HRR HCK HKR
 rw[hll] at HTK HTR HCO HCR HRG HRR HCK HKR
 have HLP:Hid (ls.length≤10000∧ps.length≤10000):=⟨by omega,by omega⟩
 obtain⟨N,hN⟩:∃N,ls.length=N:=⟨_,rfl⟩
 obtain⟨P,hP⟩:∃P,ps.length=P:=⟨_,rfl⟩
 rw[hN] at HGR HTK HTR HCO HCR HRG HRR HCK HKR ⊢
 rw[hP] at HGR HTK HTR HCO HCR HCK HKR ⊢
 replace HTK:=hI HTK
 replace HTR:=hI HTR
 replace HCO:=hI HCO
 replace HCR:=hI HCR
 replace HRG:=hI HRG
 replace HRR:=hI HRR
 replace HCK:=hI HCK
 replace HKR:=hI HKR
 clear hR hK ht hcap h1 hA hcp hp1 hsm hN hP sl hsl hll hrb hpq hp13 hqs hti hA2 hrW hrK hl2 hp2
 go_enter Tryz.func3,Tryz.ntmps3
 go_wp2_with fail
 refine HGR.out.mono ?_
 rintro e w1 ⟨b,rfl,_,b1⟩
 have HB1:=hI b1
 clear b1 HGR
 cases b
 case true =>
  have HA1:=hI (HAW.out w1 HB1.out)
  go_wp2_with fail
  refine HA1.out.mono ?_
  rintro e w2 ⟨rfl,b2⟩
  have HB2:=hI (HB1.out.trans (b2.mono HB1.out.size))
  clear b2
  go_wp2_with fail
  go_ret
  exact⟨rfl,HB2.out⟩
 have HC:=hI (HTK.out w1 HB1.out)
 clear HTK
 go_wp2_with fail
 refine HC.out.mono ?_
 rintro e w2 ⟨A2,c2,r2,A3,c3,r3,rfl,b2,hr2,hr3,_,_,_,_,x0,x1⟩
 have HB2:=hI (HB1.out.trans (b2.mono HB1.out.size))
 have HR2:=hI hr2
 have HR3:=hI hr3
 have HX:=hI (And.intro x0 x1)
 have HC2:=hI (HTR.out w2 HB2.out)
 obtain⟨l2,e2⟩:∃n,r2.length=n:=⟨_,rfl⟩
 obtain⟨l3,e3⟩:∃n,r3.length=n:=⟨_,rfl⟩
 rw[e2,e3]
 have HE2:=hI e2
 have HE3:=hI e3
 clear b2 hr2 hr3 x0 x1 HC HTR e2 e3
 go_wp2_with fail
 refine HC2.out.mono ?_
 rintro e w3 ⟨A4,c4,r4,A5,c5,r5,rfl,b3,hr4,hr5,_,_,_,_,x0,x1⟩
 have HB3:=hI (HB2.out.trans (b3.mono HB2.out.size))
 have HB23:=hI b3
 have hsame:=Av2 HX.out.1 HX.out.2 x0 x1
 obtain⟨g1,g2⟩:=Av3 HLP.out.1 HLP.out.2 HX.out.1 HX.out.2
 obtain⟨g3,g4⟩:=Av3 HLP.out.1 HLP.out.2 x0 x1
 have HQ1:=fun W (hW:Below w3.heap.size w3 W)=>Aph A2 A4 (r2.map Subtype.val) (r4.map Subtype.val) c2 c4 (by rw[Aar];omega) (by rw[Aar];omega) w2.heap.size w3.heap.size W (HR2.out.below (HB23.out.trans (hW.mono HB23.out.size))).rdb' (hr4.below hW).rdb'
 have HQ2:=fun W (hW:Below w3.heap.size w3 W)=>Aph A3 A5 (r3.map Subtype.val) (r5.map Subtype.val) c3 c5 (by rw[Aar];omega) (by rw[Aar];omega) w2.heap.size w3.heap.size W (HR3.out.below (HB23.out.trans (hW.mono HB23.out.size))).rdb' (hr5.below hW).rdb'
 simp only[Aar] at HQ1 HQ2
 rw[Apb hsame.1] at HQ1
 rw[Apb hsame.2] at HQ2
 rw[HE2.out] at HQ1
 rw[HE3.out] at HQ2
 generalize r4.length=l4 at HQ1 ⊢
 generalize r5.length=l5 at HQ2 ⊢
 replace HQ1:=hI HQ1
 replace HQ2:=hI HQ2
 have HC3:=hI (HCO.out w3 HB3.out)
 clear b3 hr4 hr5 x0 x1 hsame g1 g2 g3 g4 HC2 HCO HX HR2 HR3
 obtain⟨zt,hzt⟩:∃z,takE ls ps=z:=⟨_,rfl⟩
 obtain⟨cz,hcz⟩:∃z,I (cstZ ls ps)=z:=⟨_,rfl⟩
 rw[hzt,hcz] at HC3 HCR
 rw[hzt]
 clear hzt hcz
 go_wp2_with fail
 refine HC3.out.mono ?_
 rintro e w4 ⟨rfl,b4⟩
 have HB4:=hI (HB3.out.trans (b4.mono HB3.out.size))
 have HB34:=hI b4
 have HC4:=hI (HCR.out w4 HB4.out)
 clear b4 HC3 HCR
 go_wp2_with fail
 refine HC4.out.mono ?_
 rintro e w5 ⟨rfl,b5⟩
 have HB5:=hI (HB4.out.trans (b5.mono HB4.out.size))
 have HB35:=hI (HB34.out.trans (b5.mono HB34.out.size))
 have HC5:=hI (HRG.out w5 HB5.out)
 clear b5 HC4 HRG
 obtain⟨lo,hlo⟩:∃z,I (rngLo ls s q)=z:=⟨_,rfl⟩
 obtain⟨hi,hhi⟩:∃z,I (rngHi ls s q)=z:=⟨_,rfl⟩
 obtain⟨zr,hzr⟩:∃z,chsE ls s q 1 []=z:=⟨_,rfl⟩
 rw[hlo,hhi,hzr] at HC5 HRR
 clear hlo hhi hzr
 go_wp2_with fail
 refine HC5.out.mono ?_
 rintro e w6 ⟨rfl,b6⟩
 have HB6:=hI (HB5.out.trans (b6.mono HB5.out.size))
 have HB36:=hI (HB35.out.trans (b6.mono HB35.out.size))
 have HC6:=hI (HRR.out w6 HB6.out)
 clear b6 HC5 HRR
 go_wp2_with fail
 refine HC6.out.mono ?_
 rintro e w7 ⟨rfl,b7⟩
 have HB7:=hI (HB6.out.trans (b7.mono HB6.out.size))
 have HB37:=hI (HB36.out.trans (b7.mono HB36.out.size))
 have HC7:=hI (HCK.out w7 HB7.out)
 clear b7 HC6 HCK
 obtain⟨zk,hzk⟩:∃z,chkE ls s ps=z:=⟨_,rfl⟩
 rw[hzk] at HC7 HKR
 clear hzk
 go_wp2_with fail
 refine HC7.out.mono ?_
 rintro e w8 ⟨rfl,b8⟩
 have HB8:=hI (HB7.out.trans (b8.mono HB7.out.size))
 have HB38:=hI (HB37.out.trans (b8.mono HB37.out.size))
 have HC8:=hI (HKR.out w8 HB8.out)
 clear b8 HC7 HKR
 go_wp2_with fail
 refine HC8.out.mono ?_
 rintro e w9 ⟨rfl,b9⟩
 have HB9:=hI (HB8.out.trans (b9.mono HB8.out.size))
 have HB39:=hI (HB38.out.trans (b9.mono HB38.out.size))
 have HC9:=hI (HQ1.out w9 HB39.out)
 clear b9 HC8 HQ1
 go_wp2_with fail
 refine HC9.out.mono ?_
 rintro e w10 ⟨rfl,m1,rfl⟩
 have HB10:=hI (Acz HB9.out m1)
 have HC10:=hI (HQ2.out _ (Acz HB39.out m1))
 clear HC9 HQ2
 generalize w9.drewN m1=w10 at *
 go_wp2_with fail
 refine HC10.out.mono ?_
 rintro e w11 ⟨rfl,m2,rfl⟩
 have HB11:=hI (Acz HB10.out m2)
 clear HC10
 generalize w10.drewN m2=w11 at *
 have HA:=hI (HAW.out w11 HB11.out)
 go_wp2_with fail
 refine HA.out.mono ?_
 rintro e w12 ⟨rfl,b12⟩
 have HB12:=hI (HB11.out.trans (b12.mono HB11.out.size))
 clear b12
 go_wp2_with fail
 go_ret
 exact⟨rfl,HB12.out⟩
end Go.Proofs.YtcmgmemffncbhabGreatDoor
