/-
  What relief.Take holds while it takes.
-/
import Derived.Test.YtcmgmemffncbhabGreatDoorT35
import Derived.Test.YtcmgmemffncbhabGreatDoorT38
import Derived.BigQuiet
import Derived.Deep.DeepCutAuto
import Derived.Laws.StructEq
set_option linter.unusedVariables false
set_option linter.unusedSimpArgs false
set_option maxHeartbeats 16000000
set_option maxRecDepth 100000
namespace Go.Proofs.YtcmgmemffncbhabGreatDoor
open Go.RowKit Tr Go.Shelf
noncomputable def takE(lz:List Lot)(ps:List Pk):Int:=open Classical in if lall lz≠0 then 1 else posE lz none [] ps
theorem Aus{lz:List Lot}(h:lall lz≠0)(ps:List Pk):takE lz ps=1:=by unfold takE;rw[if_pos h]
theorem Aut{lz:List Lot}(h:lall lz=0)(ps:List Pk):takE lz ps=posE lz none [] ps:=by unfold takE;rw[if_neg (fun y=>y h)]
def Auu(w:World)(lz:List Lot)(ps:List Pk)(e:Ending)(w':World):Prop :=
 ∃(A1:Option Addr) (c1:Nat) (r1:List SLot) (A2:Option Addr) (c2:Nat) (r2:List SLot),e=.returned (.tuple #[.slice A1 r1.length c1,.slice A2 r2.length c2,.int .i64 (takE lz ps)])∧Below w.heap.size w w'∧RdB w'.heap.size w' A1 r1∧RdB w'.heap.size w' A2 r2∧r1.length≤c1∧r2.length≤c2 ∧
  (A1=none→r1.length=0∧c1=0)∧(A2=none→r2.length=0∧c2=0)∧(takE lz ps≠0→r1=[]∧r2=[])∧(takE lz ps=0→r1.map Subtype.val=restR lz ps∧r2.map Subtype.val=Aqz lz ps)
theorem Auv{w w':World}{lz:List Lot}{ps:List Pk}{E:Int}(h:takE lz ps=E)(h0:E≠0)(hb:Below w.heap.size w w'):Auu w lz ps (.returned (.tuple #[.slice none 0 0,.slice none 0 0,.int .i64 E])) w' :=
 ⟨none,0,[],none,0,[],by rw[h];rfl,hb,(fun e=>absurd rfl e),(fun e=>absurd rfl e),Aad _,Aad _,(fun _=>⟨rfl,rfl⟩),(fun _=>⟨rfl,rfl⟩),(fun _=>⟨rfl,rfl⟩),fun e=>absurd (h.symm.trans e) h0⟩
theorem SRow.self{V:Lot→Prop}{w0 W:World}{g:Nat}{sp:List Value}{D:List Lot}(h:SRow V w0 g sp D W):SRow V W g sp D W:=⟨h.row,h.ok,⟨rfl,rfl,rfl,Aad _,fun _ _ _=>rfl⟩,h.ltW⟩
theorem SRow.kept{V:Lot→Prop}{W W':World}{g:Nat}{sp:List Value}{D:List Lot}(h:SRow V W g sp D W){row:Option Nat}(hg:W.grownBy W' row)(hne:row≠some g):SRow V W' g sp D W' :=
 ⟨(hg.block g h.lt (fun e=>hne e.symm)).trans h.row,h.ok,⟨rfl,rfl,rfl,Aad _,fun _ _ _=>rfl⟩,Aah h.lt hg.size⟩
theorem SRow.stay{V:Lot→Prop}{W W':World}{g:Nat}{sp:List Value}{D:List Lot}(h:SRow V W g sp D W)(hb:Below W.heap.size W W'):SRow V W' g sp D W' :=
 h.kept (row:=none) ⟨hb.os,hb.tape,hb.output,hb.size,fun k hk _=>hb.block k hk⟩ (by simp)
theorem SRow.rdb{V:Lot→Prop}{w0 W:World}{g:Nat}{sp:List Value}{D:List Lot}(h:SRow V w0 g sp D W):RdB' W.heap.size W (some ⟨g,0,none⟩) D :=
 fun _=>⟨_,rfl,h.ltW,fun j l hj=>by rw[Ake];exact h.at hj⟩
theorem Auw{w w':World}{base n:Nat}{v:Value}{xs:List Value}{row:Option Nat}(h:w.ownsRow base 38 7 v n xs)(hg:w.grownBy w' row)(hne:v.ownBlock=none∨v.ownBlock≠row):w'.ownsRow base 38 7 v n xs:=h.kept hg hne
theorem Aux(w:World)(base:Nat)(v:Value)(n:Nat)(xs:List Value)(x:Lot)(B cB:Nat)(hown:w.ownsRow base 38 7 v n xs)(hx:LotBox w B x)(hn:n≤100000)(hb:base≤w.heap.size):
 ∃v' w',(Builtin.append_ #[22,22] 22 #[v,.slice (some ⟨B,0,none⟩) 1 cB]).run Tryz.prog w=.ok v' w' ∧
  w'.ownsRow base 38 7 v' (n+1) (xs++x.cells.toList)∧w.grownBy w' v.ownBlock∧∀g,g<w.heap.size→v.ownBlock≠some g→v'.ownBlock≠some g:=by
 obtain⟨i0,hi0,hz0,hz1,hz2⟩:=info_parts Tryz.infoLot
 obtain⟨g',cap,w',h1,h2,h3,h4,_⟩:=run_append_lies (P:=Tryz.prog) w 22 22 base 38 i0 _ 7 96 Tryz.underlying22 hi0 hz0 hz1 hz2 rfl (by decide) v n xs hown ⟨B,0,none⟩ 1 cB x.cells.toList rfl (Apr hx) (Apt x) (by decide) (by unfold maxLen;omega) (by omega) hb w.heap.size rfl
 refine⟨_,w',h1,h2,h3,fun g hg hne e=>?_⟩
 have e2:g'=g:=by simpa[Value.ownBlock] using e
 rcases h4 with h4|h4
 ·exact hne (by rw[h4,e2])
 ·omega
theorem Auy(w:World)(a b:Lot):∃W1 W2 W3 W4,w.alloc (.cells #[.string ⟨#[]⟩,.string ⟨#[]⟩,.int .i64 0,.int .i64 0,.string ⟨#[]⟩,.string ⟨#[]⟩,.string ⟨#[]⟩] 38)=W1∧W1.alloc (.cells #[.string ⟨#[]⟩,.string ⟨#[]⟩,.int .i64 0,.int .i64 0,.string ⟨#[]⟩,.string ⟨#[]⟩,.string ⟨#[]⟩] 38)=W2 ∧
 (Instr.storeAt 38 (.pointer (some ⟨w.heap.size,0,none⟩)) a.enc).run Tryz.prog W2=.ok () W3∧(Instr.storeAt 38 (.pointer (some ⟨W1.heap.size,0,none⟩)) b.enc).run Tryz.prog W3=.ok () W4∧LotBox W4 w.heap.size a∧LotBox W4 W1.heap.size b∧Below w.heap.size w W4∧W1.heap.size=w.heap.size+1:=by
 obtain⟨W1,hW1⟩:∃W1,w.alloc (.cells #[.string ⟨#[]⟩,.string ⟨#[]⟩,.int .i64 0,.int .i64 0,.string ⟨#[]⟩,.string ⟨#[]⟩,.string ⟨#[]⟩] 38)=W1:=⟨_,rfl⟩
 obtain⟨W2,hW2⟩:∃W2,W1.alloc (.cells #[.string ⟨#[]⟩,.string ⟨#[]⟩,.int .i64 0,.int .i64 0,.string ⟨#[]⟩,.string ⟨#[]⟩,.string ⟨#[]⟩] 38)=W2:=⟨_,rfl⟩
 have hs:W1.heap.size=w.heap.size+1:=by rw[←hW1,World.size_alloc]
 have hb1:Below w.heap.size w W1:=by rw[←hW1];exact (Below.refl _ w).alloc (Aad _) _
 have hb2:Below W1.heap.size W1 W2:=by rw[←hW2];exact (Below.refl _ W1).alloc (Aad _) _
 have k1:W1.heap[w.heap.size]?=some (.cells #[.string ⟨#[]⟩,.string ⟨#[]⟩,.int .i64 0,.int .i64 0,.string ⟨#[]⟩,.string ⟨#[]⟩,.string ⟨#[]⟩] 38 (0,0)):=by rw[←hW1];exact Aa5 w _
 have k1':=(hb2.block _ (by omega)).trans k1
 have k2:W2.heap[W1.heap.size]?=some (.cells #[.string ⟨#[]⟩,.string ⟨#[]⟩,.int .i64 0,.int .i64 0,.string ⟨#[]⟩,.string ⟨#[]⟩,.string ⟨#[]⟩] 38 (0,0)):=by rw[←hW2];exact Aa5 W1 _
 have r3:=run_store_row W2 w.heap.size 7 38 _ a.cells (by kernel_rfl) k1' rfl rfl (Apt a)
 have k3:(W2.setRow w.heap.size a.cells).heap[W1.heap.size]?=_:=(setRow_other _ _ _ _ (by omega)).trans k2
 have r4:=run_store_row (W2.setRow w.heap.size a.cells) W1.heap.size 7 38 _ b.cells (by kernel_rfl) k3 rfl rfl (Apt b)
 refine⟨W1,W2,_,_,hW1,hW2,r3,r4,?_,?_,?_,hs⟩
 ·exact (setRow_other _ _ _ _ (by omega)).trans (setRow_heap _ _ _ _ _ _ k1')
 ·exact setRow_heap _ _ _ _ _ _ k3
 ·exact below_setRow (below_setRow (hb1.trans (hb2.mono hb1.size)) (Aad _) _) (by omega) _
theorem Auz(x:Lot):flatV [x]=x.cells.toList:=by rw[Ar9,flatV_nil,List.append_nil]
structure TkS(w:World)(lz:List Lot)(ps:List Pk)(k g:Nat)(v9:Value)(W:World):Prop where
 row:∃sp,SRow Lot.mid W g sp (restR lz (ps.take k)) W
 own:W.ownsRow w.heap.size 38 7 v9 k (flatV (Aqz lz (ps.take k)))
 ne:v9.ownBlock≠some g
 be:Below w.heap.size w W
 ge:w.heap.size≤g
theorem TkS.below{w:World}{lz:List Lot}{ps:List Pk}{k g:Nat}{v9:Value}{W W':World}(h:TkS w lz ps k g v9 W)(hb:Below W.heap.size W W'):TkS w lz ps k g v9 W':=by
 obtain⟨sp,hr⟩:=h.row
 exact⟨⟨sp,hr.stay hb⟩,Anz h.own hb,h.ne,h.be.trans (hb.mono h.be.size),h.ge⟩
theorem Au0(n₀:Nat)(A:Option Addr)(ls:List SLot)(c:Nat)(hc:ls.length≤c)(hlen:ls.length≤10000)(hti:∀l∈ls,l.1.tiny)(Ap:Option Addr)(ps:List Pk)(cp:Nat)(hpl:ps.length≤10000)(hcp:ps.length≤cp)(hps:∀p∈ps,p.qty.size≤1000)(h13:posE (ls.map Subtype.val) none [] ps=0→∀p∈ps,p.qty.size≤13)(w:World)
 (hR:RdB n₀ w A ls) (hn:n₀≤w.heap.size) (hA:A=none→ls.length=0∧c=0) (hK:RdK n₀ w Ap ps) (ht:Tabs w) :
 Calls Tryz.prog 6 #[.slice A ls.length c,.slice Ap ps.length cp] w (Auu w (ls.map Subtype.val) ps):=by
 obtain⟨lz,hlz⟩:∃lz,ls.map Subtype.val=lz:=⟨_,rfl⟩
 have hlzn:lz.length=ls.length:=by rw[←hlz,Aar]
 have htz:∀l∈lz,l.tiny:=fun l hl=>by rw[←hlz] at hl;obtain⟨y,hy,rfl⟩:=List.mem_map.1 hl;exact hti y hy
 have HCA:=hI (Amz A c (ls.map Subtype.val) (by rw[Aar];exact hc) (by rw[Aar];omega) w ((hR.rdb').rdl hn) (fun l hl=>by obtain⟨y,_,rfl⟩:=List.mem_map.1 hl;exact y.2) ht)
 have HPO:=fun W (hW:Below w.heap.size w W)=>Aup n₀ A ls c (by omega) none (.pointer none) Ap ps cp hpl hcp hps W (hR.below (hW.mono hn)) (Aap hn hW.size) (hK.below (hW.mono hn)) (.inl ⟨rfl,rfl⟩)
 have HCL:=fun W (hW:Below w.heap.size w W)=>Apn A ls c n₀ W (hR.below (hW.mono hn)) (Aap hn hW.size) (by omega) hA
 have hfl:flatL ls=flatV lz:=by rw[←hlz,Asc]
 rw[hfl] at HCL
 rw[Aar] at HCA
 rw[hlz] at HCA HPO h13 ⊢
 obtain⟨N,hN⟩:∃N,ls.length=N:=⟨_,rfl⟩
 obtain⟨P,hP⟩:∃P,ps.length=P:=⟨_,rfl⟩
 rw[hN] at HCA HPO HCL hlzn ⊢
 rw[hP] at HPO ⊢
 replace HPO:=hI HPO
 replace HCL:=hI HCL
 have HKP:=hI hK
 have HNn:=hI hn
 have HT:=hI ht
 have HTZ:=hI htz
 have H13:=hI h13
 have HPZ:=hI hps
 have HLN:=hI hlzn
 have HP:=hI hP
 have hPl:P≤10000:=by omega
 have hNl:N≤10000:=by omega
 clear hR hn hA hK ht hti htz hc hlen hpl hcp h13 hlz hlzn hfl hps hN hP
 go_enter Tryz.func6,Tryz.ntmps6
 go_wp2_with fail
 refine HCA.out.mono ?_
 rintro e w1 ⟨rfl,b1⟩
 have HB1:=hI b1
 clear b1 HCA
 by_cases h0:lall lz=0
 case neg =>
  have t1:(lall lz==0)=false:=Aaj.2 h0
  have t2:(lall lz != 0)=true:=by rw[bne,t1];rfl
  have HE:=hI (Aus h0 ps)
  clear h0
  go_wp2_with fail
  go_ret3
  exact Auv HE.out (by decide) HB1.out
 have H0:=hI h0
 rw[h0]
 clear h0
 have HPOS:=hI (HPO.out w1 HB1.out)
 clear HPO
 go_wp2_with fail
 refine HPOS.out.mono ?_
 rintro e w2 ⟨rfl,b2⟩
 have HB2:=hI (HB1.out.trans (b2.mono HB1.out.size))
 clear b2 HPOS HB1
 by_cases hpo:posE lz none [] ps=0
 case neg =>
  have HE:=hI (And.intro (Aut H0.out ps) hpo)
  generalize posE lz none [] ps=z at hpo HE ⊢
  have t1:(z==0)=false:=Aaj.2 hpo
  have t2:(z != 0)=true:=by rw[bne,t1];rfl
  clear hpo
  go_wp2_with fail
  go_ret3
  exact Auv HE.out.1 HE.out.2 HB2.out
 have HE:Hid (takE lz ps=0):=(Aut H0.out ps).trans hpo
 have HOK:=hI ((posE_zero lz none ps []).1 hpo).2
 have HQ13:=hI (H13.out hpo)
 rw[hpo]
 clear hpo H13
 have HCLC:=hI (HCL.out w2 HB2.out)
 clear HCL
 go_wp2_with fail
 refine HCLC.out.mono ?_
 rintro e w3 ⟨v,rfl,hown,b3⟩
 have HB3:=hI (HB2.out.trans (b3.mono HB2.out.size))
 have HOWN:=hI (Apu hown HB2.out.size)
 clear hown b3 HCLC HB2
 have hall:=(Apz lz).1 H0.out
 have HALL:=hI hall
 rcases Aaq P with hp0|hpp
 ·subst hp0
  have HPS:Hid (ps=[]):=Aag HP.out
  have hfin:Auu w lz ps (.returned (.tuple #[v,.slice none 0 0,.int .i64 0])) w3:=by
   obtain⟨sl,hsl⟩:=sl_of lz (fun l hl=>(HTZ.out l hl).sized)
   have hln:sl.length=N:=by rw[←HLN.out,←hsl,Aar]
   have ho:=HOWN.out
   rw[←hsl,Asc,←hln] at ho
   have hnil:∀A1 c1,v=.slice A1 sl.length c1→A1=none→sl.length=0∧c1=0:=fun A1 c1 hv h1=>by
    rcases ho.2 with⟨h,h2⟩|⟨g,cap,cur,h,_⟩
    ·rw[h] at hv;injection hv with _ _ h3;exact⟨h2,h3.symm⟩
    ·rw[h] at hv;injection hv with h3 _ _;rw[h1] at h3;cases h3
   obtain⟨A1,c1,rfl,hc1,_,hr1⟩:=RdB.of_own ho
   exact⟨A1,c1,sl,none,0,[],by rw[HE.out];rfl,HB3.out,hr1,(fun e=>absurd rfl e),hc1,Aad _,hnil A1 c1 rfl,(fun _=>⟨rfl,rfl⟩),(fun h=>absurd HE.out h),fun _=>⟨by rw[HPS.out,Aq0,hsl],by rw[HPS.out];rfl⟩⟩
  have HFIN:=hI hfin
  clear hfin hall
  go_wp2_with fail
  refine wp_loop_rounds 1 ?_
  rw[rounds_succ]
  go_wp2_with fail
  go_ret3
  exact HFIN.out
 ·have hNp:0<N:=by
   obtain⟨p,hp⟩:∃p,ps[0]?=some p:=⟨_,Aae (by rw[HP.out];exact hpp)⟩
   obtain⟨x,hx⟩:=HOK.out.ok p (Aas hp)
   have:=(Aqn hx.lot).1
   rw[←HLN.out]
   exact List.length_pos_of_mem this
  obtain⟨g,cap,rfl,hbg,hgl⟩:=HOWN.out.form hNp
  have hcap:N≤cap∧cap≤maxLen∧∃sp,w3.heap[g]?=some (.cells (flatV lz++sp).toArray 38 (0,0)):=by
   rcases HOWN.out.2 with⟨h,_⟩|⟨g',cap',cur,h,_,hg,hnc,hcm,_,ht⟩
   ·simp at h
   ·simp at h
    obtain⟨rfl,rfl⟩:=h
    refine⟨hnc,hcm,cur.toList.drop (N*7),?_⟩
    rw[←ht,Aav]
    exact hg
  obtain⟨hcap1,hcap2,sp0,hrow0⟩:=hcap
  have hS0:TkS w lz ps 0 g (.slice none 0 0) w3:=⟨⟨sp0,by rw[List.take_zero,Aq0];exact⟨hrow0,fun x hx=>(HTZ.out x hx).mid,⟨rfl,rfl,rfl,Aad _,fun _ _ _=>rfl⟩,hgl⟩⟩,World.ownsRow_nil _ _ _ _,by simp[Value.ownBlock],HB3.out,hbg⟩
  have HS0:=hI hS0
  have HL0:Hid ((restR lz (ps.take 0)).length=N):=by rw[Hid,List.take_zero,Aq0,HLN.out]
  have hcapm:cap≤9223372036854775807:=by unfold maxLen at hcap2;omega
  clear hall hbg hgl hcap2 hrow0 hS0 HOWN HB3
  go_wp2_with fail
  go_loopw [8,9,31] (fun v8 v9 v wr=>∃(k M:Nat) (t9:Value),t9=v9∧v=.int .i64 (k:Int)∧k≤P∧v8=.slice (some ⟨g,0,none⟩) M cap∧M≤cap∧M≤N∧(restR lz (ps.take k)).length=M∧TkS w lz ps k g t9 wr) (fun _ _ v _=>P-(intOf v).toNat)
  case atStart=>exact⟨0,N,_,rfl,rfl,Nat.zero_le _,rfl,hcap1,Aad _,HL0.out,HS0.out⟩
  case round =>
   clear HS0 HL0 hcap1
   obtain⟨k,M,t9,rfl,rfl,hkP,rfl,hMc,hMN,hlen,hS⟩:=hrel
   have HLEN:=hI hlen
   have HS:=hI hS
   clear hlen hS
   rcases Aam k P with hlt|hge
   ·obtain⟨p,hp⟩:∃p,ps[k]?=some p:=⟨_,Aae (by rw[HP.out];exact hlt)⟩
    obtain⟨ad,rfl,had,hcell⟩:=HKP.out (by intro e;rw[e] at hp;cases hp)
    have hcx:decide ((k:Int)<(P:Int))=true:=by simp;omega
    obtain⟨c0,c1⟩:=(hcell k p hp).below (HS.out.be.mono HNn.out) (by rw[Acv];exact had)
    have htk:=Amq hp
    have hpm:=Aas hp
    obtain⟨x,hx⟩:=HOK.out.ok p hpm
    have hxm:=(Aqn hx.lot).1
    have hxo:=lchk_zero.1 (HALL.out.ok x hxm)
    have hnin:p.lot ∉ (ps.take k).map Pk.lot:=by
     have hd:=HOK.out.nd
     have h2:ps=ps.take k++p::ps.drop (k+1):=by
      obtain⟨h1,h2⟩:=Aak.1 hp
      rw[←h2,←Aa2 h1,Aav]
     rw[h2,List.map_append,List.map_cons,List.nodup_append] at hd
     exact fun hm=>hd.2.2 _ hm _ (Aaw ..) rfl
    obtain⟨Pr,Q,e1,e2,e3⟩:=Aq5 HALL.out.nd hx.lot hnin
    have e4:=Aqy hx.lot
    have HX:=hI hx
    have HPM:=hI hpm
    have HXO:=hI hxo
    have HXT:=hI (HTZ.out x hxm)
    have HTKN:Hid (Aqz lz (ps.take (k+1))=Aqz lz (ps.take k)++[tknO lz p]):=by rw[Hid,htk,Arq]
    have HE1:=hI e1
    have HE3:Hid (restR lz (ps.take (k+1))=Pr++(if x.qty=p.qty then [] else [cutB x p.qty])++Q):=by rw[Hid,htk];exact e3
    have HE4:=hI e4
    obtain⟨W5,hW5⟩:∃W5,wr.alloc (.cells p.cells 43)=W5:=⟨_,rfl⟩
    have b5:Below wr.heap.size wr W5:=by rw[←hW5];exact (Below.refl _ wr).alloc (Aad _) _
    have k5:PkBox W5 wr.heap.size p:=by rw[←hW5];exact Aa5 wr _
    have HS5:=hI (HS.out.below b5)
    have HK5:=hI k5
    obtain⟨sp5,hr5⟩:=HS5.out.row
    have hfi:=Aru W5.heap.size (some ⟨g,0,none⟩) (restR lz (ps.take k)) cap p.lot (by rw[HLEN.out];omega) W5 hr5.rdb (Aad _)
    rw[HLEN.out,e2] at hfi
    have HFI:=hI hfi
    obtain⟨i,hi⟩:∃i,Pr.length=i:=⟨_,rfl⟩
    have hiM:i<M:=by rw[←HLEN.out,e1,Aan,Aa0];omega
    have HIX:Hid ((restR lz (ps.take k))[i]?=some x):=by rw[Hid,e1,←hi,Aa1 (Aad _),Nat.sub_self];rfl
    rw[hi] at HFI
    have HI:=hI hi
    have d0:=Aaa k5 0
    simp[Pk.cells] at d0
    clear b5 k5 hr5 hfi hcell hp htk hpm hx hxm hxo hnin e1 e2 e3 e4 had hi HS
    unfold Pk.cells at hW5
    go_wp2_with fail
    refine HFI.out.mono ?_
    rintro e w6 ⟨rfl,b6⟩
    have HS6:=hI (HS5.out.below b6)
    have HK6:=hI (HK5.out.below b6)
    clear b6 HS5 HK5 HFI d0 c0 c1
    obtain⟨sp6,hr6⟩:=HS6.out.row
    obtain⟨ad2,had2⟩:∃ad2:Addr,ad2=⟨g,0,none⟩:=⟨_,rfl⟩
    rw[←had2]
    obtain⟨c0,c1,c2,c3,c4,c5,c6⟩:=hr6.at' had2 HIX.out
    obtain⟨W7,hW7⟩:∃W7,w6.alloc (.cells x.cells 38)=W7:=⟨_,rfl⟩
    have b7:Below w6.heap.size w6 W7:=by rw[←hW7];exact (Below.refl _ w6).alloc (Aad _) _
    have k7:LotBox W7 w6.heap.size x:=by rw[←hW7];exact Aa5 w6 _
    have HS7:=hI (HS6.out.below b7)
    have HK7:=hI (HK6.out.below b7)
    have HX7:=hI k7
    have p1:=Aaa HK7.out 1
    have x0:=Aaa k7 0
    have x1:=Aaa k7 1
    have x2:=Aaa k7 2
    have x3:=Aaa k7 3
    have x4:=Aaa k7 4
    have x5:=Aaa k7 5
    have x6:=Aaa k7 6
    simp[Pk.cells,Lot.cells] at p1 x0 x1 x2 x3 x4 x5 x6
    have HAD:=hI had2
    have hse:=Aj8 x.qty p.qty
    clear b7 k7 hr6 had2 HS6 HK6
    unfold Lot.cells at hW7
    by_cases hq:x.qty=p.qty
    ·have t1:(x.qty.toList==p.qty.toList)=true:=by rw[hse];exact Aa3 hq
     have HQ:=hI hq
     clear hq hse
     obtain⟨W8,hW8⟩:∃W8,W7.alloc (.cells x.cells 38)=W8:=⟨_,rfl⟩
     have b8:Below W7.heap.size W7 W8:=by rw[←hW8];exact (Below.refl _ W7).alloc (Aad _) _
     have k8:LotBox W8 W7.heap.size x:=by rw[←hW8];exact Aa5 W7 _
     have hS8:=HS7.out.below b8
     obtain⟨v9',w9,r9,o9,g9,l9⟩:=Aux W8 w.heap.size _ k _ x W7.heap.size 1 hS8.own k8 (by omega) hS8.be.size
     obtain⟨sp8,hr8⟩:=hS8.row
     have hr9:=hr8.kept g9 (fun e=>hS8.ne e)
     have hb9:Below w.heap.size w w9:=hS8.be.grown g9 hS8.be.size (fun k e=>(hS8.own.lt k e).1)
     have hne9:=l9 g hr8.lt hS8.ne
     have HD:=hI (At2 Lot.mid w9 g M cap i (i+1) rfl sp8 _ HLEN.out hMc hcapm hiM w9 hr9)
     have HR9:Hid (w9.ownsRow w.heap.size 38 7 v9' (k+1) (flatV (Aqz lz (ps.take (k+1))))∧v9'.ownBlock≠some g∧Below w.heap.size w w9∧w.heap.size≤g):=by
      refine⟨?_,hne9,hb9,hS8.ge⟩
      rw[HTKN.out,HE4.out,if_pos HQ.out,Ar8,Auz]
      exact o9
     clear b8 k8 hS8 o9 g9 l9 hr8 hr9 hb9 hne9 HS7 HX7 HK7
     unfold Lot.cells at hW8
     rw[←HAD.out] at HD
     go_wp2_with (at_builtin;refine Lib.wpList_append_run _ rfl _ _ _ _ rfl _ _ rfl rfl _ _ r9 ?_)
     refine HD.out.mono ?_
     rintro e w10 ⟨rfl,sp',hr10⟩
     have hfin:(restR lz (ps.take (k+1))).length=M-1∧TkS w lz ps (k+1) g v9' w10:=by
      obtain⟨q1,q2,q3,q4⟩:=HR9.out
      have hD:(restR lz (ps.take k)).take i++(restR lz (ps.take k)).drop (i+1)=restR lz (ps.take (k+1)):=by
       rw[HE3.out,if_pos HQ.out,HE1.out,←HI.out,List.take_left,show Pr++x::Q=(Pr++[x])++Q from by simp,show Pr.length+1=(Pr++[x]).length from by simp,List.drop_left]
       simp
      rw[hD] at hr10
      refine⟨?_,⟨⟨sp',hr10.self⟩,Auw q1 hr10.gr (.inr q2),q2,q3.grown hr10.gr q3.size (fun k e=>by injection e with e;rw[←e];exact q4),q4⟩⟩
      have h1:=HLEN.out
      rw[HE1.out,Aan,Aa0] at h1
      rw[HE3.out,if_pos HQ.out,Aan,Aan]
      simp;omega
     have HFIN:=hI hfin
     clear hr10 hfin HD r9 HR9 c0 c1 c2 c3 c4 c5 c6 p1 x0 x1 x2 x3 x4 x5 x6
     rw[HAD.out]
     go_wp2_with fail
     go_roundw
     case rel=>exact⟨k+1,M-1,_,rfl,by go_num,by omega,rfl,by omega,by omega,HFIN.out.1,HFIN.out.2⟩
     case measure=>simp[intOf];omega
    ·have t1:(x.qty.toList==p.qty.toList)=false:=by rw[hse];exact Aa4 hq
     have hlt2:=pk_lt HXO.out HX.out hq
     have HQ:=hI hq
     have hsz2:=Arj HXT.out HXO.out (HQ13.out p HPM.out) HX.out.pos hlt2
     obtain⟨LA,hLA⟩:∃LA,cutA x p.qty=LA:=⟨_,rfl⟩
     obtain⟨LB,hLB⟩:∃LB,cutB x p.qty=LB:=⟨_,rfl⟩
     have hcut:=lCut_ok x p.qty HXT.out.sized HXO.out HX.out.can (HPZ.out p HPM.out) HX.out.pos hlt2 W7 (HT.out.below HS7.out.be)
     rw[hLA,hLB] at hcut hsz2
     have HSZ2:=hI hsz2
     have HLA:Hid (tknO lz p=LA):=by rw[Hid,HE4.out,if_neg HQ.out,hLA]
     have HLB:Hid (restR lz (ps.take (k+1))=Pr++[LB]++Q):=by rw[Hid,HE3.out,if_neg HQ.out,hLB]
     unfold Lot.enc Lot.cells at hcut
     have HCUT:=hI hcut
     clear hq hse hlt2 hsz2 hcut hLA hLB
     go_wp2_with fail
     refine HCUT.out.mono ?_
     rintro e w8 ⟨rfl,b8⟩
     have HS8:=hI (HS7.out.below b8)
     clear b8 HCUT HS7 HX7 HK7 c0 c1 c2 c3 c4 c5 c6 p1 x0 x1 x2 x3 x4 x5 x6
     obtain⟨W9,W10,W11,W12,hW9,hW10,r11,r12,kA,kB,b12,hz9⟩:=Auy w8 LA LB
     obtain⟨z9,hz⟩:∃z9,W9.heap.size=z9:=⟨_,rfl⟩
     rw[hz] at r12 kB hz9
     have hS12:=HS8.out.below b12
     obtain⟨a0,a1,a2,a3,a4,a5,a6⟩:=lbc kA
     obtain⟨W13,hW13⟩:∃W13,W12.alloc (.cells LA.cells 38)=W13:=⟨_,rfl⟩
     have b13:Below W12.heap.size W12 W13:=by rw[←hW13];exact (Below.refl _ W12).alloc (Aad _) _
     have k13:LotBox W13 W12.heap.size LA:=by rw[←hW13];exact Aa5 W12 _
     have hS13:=hS12.below b13
     obtain⟨v9',w14,r14,o14,g14,l14⟩:=Aux W13 w.heap.size _ k _ LA W12.heap.size 1 hS13.own k13 (by omega) hS13.be.size
     obtain⟨sp13,hr13⟩:=hS13.row
     have hr14:=hr13.kept g14 (fun e=>hS13.ne e)
     have hb14:Below w.heap.size w w14:=hS13.be.grown g14 hS13.be.size (fun k e=>(hS13.own.lt k e).1)
     have hne14:=l14 g hr13.lt hS13.ne
     have kB14:LotBox w14 z9 LB:=by
      have hzl:=kB.lt
      have h1:W13.heap[z9]?=some (.cells LB.cells 38 (0,0)):=(b13.block z9 hzl).trans kB
      refine (g14.block z9 (Aah hzl b13.size) (fun e=>?_)).trans h1
      have:=(HS8.out.own.lt _ e.symm).2
      omega
     obtain⟨y0,y1,y2,y3,y4,y5,y6⟩:=lbc kB14
     obtain⟨w15,r15,hr15⟩:=hr14.st HAD.out HIX.out HSZ2.out.2
     have hfin:(restR lz (ps.take (k+1))).length=M∧TkS w lz ps (k+1) g v9' w15:=by
      have hD:(restR lz (ps.take k)).set i LB=restR lz (ps.take (k+1)):=by
       rw[HLB.out,HE1.out,←HI.out,List.set_append_right _ _ (Aad _),Nat.sub_self]
       simp
      have hl:(restR lz (ps.take (k+1))).length=M:=by rw[←hD,List.length_set];exact HLEN.out
      rw[hD] at hr15
      refine⟨hl,⟨⟨_,hr15.self⟩,Auw ?_ hr15.gr (.inr hne14),hne14,hb14.grown hr15.gr hb14.size (fun k e=>by injection e with e;rw[←e];exact hS13.ge),hS13.ge⟩⟩
      rw[HTKN.out,HLA.out,Ar8,Auz]
      exact o14
     have HFIN:=hI hfin
     clear hS12 hS13 b12 b13 k13 kA kB kB14 o14 g14 l14 hr13 hr14 hb14 hne14 hr15 hfin HS8 hz9
     unfold Lot.enc Lot.cells at r11 r12
     unfold Lot.cells at hW13
     go_wp2_with (first|(at_builtin;refine Lib.wpList_append_run _ rfl _ _ _ _ rfl _ _ rfl rfl _ _ r14 ?_)|(refine wpList_store_run r11 rfl _ _ rfl rfl rfl ?_)|(refine wpList_store_run r12 rfl _ _ rfl rfl rfl ?_)|(refine wpList_store_run r15 rfl _ _ rfl rfl rfl ?_))
     clear r11 r12 r14 r15 a0 a1 a2 a3 a4 a5 a6 y0 y1 y2 y3 y4 y5 y6
     try rw[HAD.out]
     go_roundw
     case rel=>exact⟨k+1,M,_,rfl,by go_num,by omega,rfl,by omega,by omega,HFIN.out.1,HFIN.out.2⟩
     case measure=>simp[intOf];omega
   ·have hcx:decide ((k:Int)<(P:Int))=false:=by simp;omega
    have hfin:Auu w lz ps (.returned (.tuple #[.slice (some ⟨g,0,none⟩) M cap,t9,.int .i64 0])) wr:=by
     have hkp:ps.take k=ps:=Aai (by rw[HP.out];exact hge)
     obtain⟨⟨sp,hr⟩,ho,hne,hbe,hgg⟩:=HS.out
     have hl:=HLEN.out
     rw[hkp] at hr ho hl
     obtain⟨s1,hs1⟩:=sl_of (restR lz ps) (fun l hl=>(hr.ok l hl).sized)
     obtain⟨s2,hs2⟩:=sl_of (Aqz lz ps) (fun l hl=>(Arr HALL.out HTZ.out HOK.out HQ13.out hl).sized)
     have hl1:s1.length=M:=by rw[←hl,←hs1,Aar]
     have hl2:s2.length=k:=by
      have h:(Aqz lz ps).length=ps.length:=by unfold Aqz;rw[Aar]
      rw[←hs2,Aar] at h
      have:=HP.out
      omega
     rw[←hs2,Asc,←hl2] at ho
     have hnil:∀A1 c1,t9=.slice A1 s2.length c1→A1=none→s2.length=0∧c1=0:=fun A1 c1 hv h1=>by
      rcases ho.2 with⟨h,h2⟩|⟨g,cap,cur,h,_⟩
      ·rw[h] at hv;injection hv with _ _ h3;exact⟨h2,h3.symm⟩
      ·rw[h] at hv;injection hv with h3 _ _;rw[h1] at h3;cases h3
     obtain⟨A2,c2,rfl,hc2,_,hr2⟩:=RdB.of_own ho
     refine⟨_,cap,s1,A2,c2,s2,by rw[HE.out,hl1],hbe,?_,hr2,by rw[hl1];exact hMc,hc2,(fun h=>by cases h),hnil A2 c2 rfl,(fun h=>absurd HE.out h),fun _=>⟨hs1,hs2⟩⟩
     intro hne1
     obtain⟨ad,e,h1,h2⟩:=hr.rdb (by rw[←hs1];intro h;exact hne1 (List.map_eq_nil_iff.1 h))
     exact⟨ad,e,h1,fun j l hj=>h2 j l.1 (by rw[←hs1,List.getElem?_map,hj];rfl)⟩
    have HFIN:=hI hfin
    clear hfin
    go_wp2_with fail
    go_ret3
    exact HFIN.out
theorem Au1(n:Nat)(hn:1000≤n)(sl:List SLot)(h:sl.length≤10000):(I (sumL (fun l=>vl l.cost) (sl.map Subtype.val))).size≤n+6:=by
 suffices hh:(sumL (fun l=>vl l.cost) (sl.map Subtype.val)).natAbs<10^(5+n) by
  have:=Aen hh
  omega
 rw[←Arp]
 have h1:=sumBy_bd (f:=fun x:SLot=>vl x.1.cost) (K:=10^n) (fun x=>Aah (vl_lt x.1.cost) (Aep (Aap x.2.2.2.2.1 hn))) sl
 rw[Nat.pow_add]
 have h0:0<(10:Nat)^n:=Nat.pow_pos (by decide)
 generalize (10:Nat)^n=K at *
 have h2:sl.length*K≤10000*K:=Nat.mul_le_mul_right _ h
 omega
noncomputable def cstZ(lz:List Lot)(ps:List Pk):Int:=if takE lz ps=0 then sumL (fun l=>vl l.cost) (Aqz lz ps) else 0
theorem Au2{f:Lot→Int}{l:List Lot}{k:Nat}{x:Lot}(h:l[k]?=some x):sumL f (l.take (k+1))=sumL f (l.take k)+f x:=by
 rw[Amq h,Ark,Arm,Arn];omega
theorem Au3(n₀:Nat)(A:Option Addr)(ls:List SLot)(c:Nat)(hc:ls.length≤c)(hlen:ls.length≤10000)(hti:∀l∈ls,l.1.tiny)(Ap:Option Addr)(ps:List Pk)(cp:Nat)(hpl:ps.length≤10000)(hcp:ps.length≤cp)(hps:∀p∈ps,p.qty.size≤1000)(h13:posE (ls.map Subtype.val) none [] ps=0→∀p∈ps,p.qty.size≤13)(w:World)
 (hR:RdB n₀ w A ls) (hn:n₀≤w.heap.size) (hA:A=none→ls.length=0∧c=0) (hK:RdK n₀ w Ap ps) (ht:Tabs w) :
 Calls Tryz.prog 8 #[.slice A ls.length c,.slice Ap ps.length cp] w fun e w'=>e=.returned (.tuple #[.string (I (cstZ (ls.map Subtype.val) ps)),.int .i64 (takE (ls.map Subtype.val) ps)])∧Below w.heap.size w w':=by
 have HTK:=hI (Au0 n₀ A ls c hc hlen hti Ap ps cp hpl hcp hps h13 w hR hn hA hK ht)
 have HT:=hI ht
 obtain⟨lz,hlz⟩:∃lz,ls.map Subtype.val=lz:=⟨_,rfl⟩
 rw[hlz] at HTK ⊢
 have hPl:=hpl
 have HHP:Hid (ps.length≤10000):=hpl
 clear hR hn hA hK ht hti hc hlen hpl hcp hps h13 hlz hPl
 go_enter Tryz.func8,Tryz.ntmps8
 go_wp2_with fail
 refine HTK.out.mono ?_
 rintro e w1 ⟨A1,c1,r1,A2,c2,r2,rfl,b1,_,hr2,_,_,_,_,h0,h1⟩
 have HB1:=hI b1
 have HR2:=hI hr2
 have hrl:r2.length≤10000:=by
  have:=HHP.out
  by_cases hz:takE lz ps=0
  ·have h:=congrArg List.length (h1 hz).2
   unfold Aqz at h
   rw[Aar,Aar] at h
   omega
  ·rw[(h0 hz).2];exact Nat.zero_le _
 have hcs:sumL (fun l=>vl l.cost) (r2.map Subtype.val)=cstZ lz ps:=by
  unfold cstZ
  by_cases hz:takE lz ps=0
  ·rw[if_pos hz,(h1 hz).2]
  ·rw[if_neg hz,(h0 hz).2];rfl
 have HCS:=hI hcs
 obtain⟨zE,hzE⟩:∃z,takE lz ps=z:=⟨_,rfl⟩
 rw[hzE]
 have HZE:=hI hzE
 obtain⟨M,hM⟩:∃M,r2.length=M:=⟨_,rfl⟩
 rw[hM] at hrl ⊢
 have HM:=hI hM
 clear b1 hr2 h0 h1 hcs HTK hM hzE
 go_wp2_with fail
 go_loopw [9,21] (fun v9 v wr=>∃k:Nat,v=.int .i64 (k:Int)∧k≤M∧v9=.string (I (sumL (fun l=>vl l.cost) ((r2.map Subtype.val).take k)))∧Below w1.heap.size w1 wr) (fun _ v _=>M-(intOf v).toNat)
 case atStart=>exact⟨0,rfl,Nat.zero_le _,rfl,Below.refl _ _⟩
 case round =>
  obtain⟨k,rfl,hk,rfl,hb⟩:=hrel
  have HB:=hI hb
  clear hb
  rcases Aam k M with hlt|hge
  ·obtain⟨y,hy⟩:∃y,r2[k]?=some y:=⟨_,Aae (by rw[HM.out];exact hlt)⟩
   obtain⟨ad,rfl,had,hcell⟩:=HR2.out (by intro e;rw[e] at hy;cases hy)
   have hcx:decide ((k:Int)<(M:Int))=true:=by simp;omega
   obtain⟨c0,c1',c2',c3,c4,c5,c6⟩:=(hcell k y hy).below HB.out (by rw[Acv];exact had)
   have hym:(r2.map Subtype.val)[k]?=some y.1:=by rw[List.getElem?_map,hy];rfl
   have HTK:=hI (Au2 (f:=fun l=>vl l.cost) hym)
   obtain⟨z,hz⟩:∃z,sumL (fun l=>vl l.cost) ((r2.map Subtype.val).take k)=z:=⟨_,rfl⟩
   have hzs:(I z).size≤4000000:=by
    rw[←hz,←List.map_take]
    have:=Au1 1000 (Aad _) (r2.take k) (by rw[Aat];omega)
    omega
   rw[hz]
   have HZ:=hI hz
   obtain⟨W5,hW5⟩:∃W5,wr.alloc (.cells y.1.cells 38)=W5:=⟨_,rfl⟩
   have b5:Below wr.heap.size wr W5:=by rw[←hW5];exact (Below.refl _ wr).alloc (Aad _) _
   have k5:LotBox W5 wr.heap.size y.1:=by rw[←hW5];exact Aa5 wr _
   have HB5:=hI (HB.out.trans (b5.mono HB.out.size))
   have d5:=Aaa k5 5
   simp[Lot.cells] at d5
   have hadd:=Agj (I z) y.1.cost W5 hzs (by have:=y.2.2.2.2.1;omega) (HT.out.below (HB1.out.trans (HB5.out.mono HB1.out.size)))
   rw[vl_I] at hadd
   have HADD:=hI hadd
   clear b5 k5 hcell hy hym had hadd hz hzs
   unfold Lot.cells at hW5
   go_wp2_with fail
   refine HADD.out.mono ?_
   rintro e w6 ⟨rfl,b6⟩
   have HB6:=hI (HB5.out.trans (b6.mono HB5.out.size))
   clear b6 HADD d5 c0 c1' c2' c3 c4 c5 c6
   go_wp2_with fail
   go_roundw
   case rel=>exact⟨k+1,by go_num,by omega,by rw[HTK.out,HZ.out],HB6.out⟩
   case measure=>simp[intOf];omega
  ·have hcx:decide ((k:Int)<(M:Int))=false:=by simp;omega
   have he:sumL (fun l=>vl l.cost) ((r2.map Subtype.val).take k)=cstZ lz ps:=by rw[Aai (by rw[Aar,HM.out];exact hge)];exact HCS.out
   rw[he]
   clear he
   go_wp2_with fail
   go_ret2
   exact⟨by rw[HZE.out];rfl,HB1.out.trans (HB.out.mono HB1.out.size)⟩
noncomputable def chkE(lz:List Lot)(s:ByteArray)(ps:List Pk):Int:=open Classical in if lall lz≠0 then 1 else posE lz (some s) [] ps
theorem Au4(n₀:Nat)(A:Option Addr)(ls:List SLot)(c:Nat)(hc:ls.length≤c)(hlen:ls.length≤10000)(s:ByteArray)(Ap:Option Addr)(ps:List Pk)(cp:Nat)(hpl:ps.length≤10000)(hcp:ps.length≤cp)(hps:∀p∈ps,p.qty.size≤1000)(w:World)
 (hR:RdB n₀ w A ls) (hn:n₀≤w.heap.size) (hK:RdK n₀ w Ap ps) (ht:Tabs w) :
 Calls Tryz.prog 12 #[.slice A ls.length c,.string s,.slice Ap ps.length cp] w fun e w'=>e=.returned (.int .i64 (chkE (ls.map Subtype.val) s ps))∧Below w.heap.size w w':=by
 obtain⟨W0,hW0⟩:∃W0,w.alloc (.cells #[.string s] 9)=W0:=⟨_,rfl⟩
 have hb0:Below w.heap.size w W0:=by rw[←hW0];exact (Below.refl _ w).alloc (Aad _) _
 have k0:Boxed W0 w.heap.size 9 (.string s):=by rw[←hW0];exact Aa5 w _
 have HCA:=hI (Amz A c (ls.map Subtype.val) (by rw[Aar];exact hc) (by rw[Aar];omega) W0 (((hR.below (hb0.mono hn)).rdb').rdl (Aap hn hb0.size)) (fun l hl=>by obtain⟨y,_,rfl⟩:=List.mem_map.1 hl;exact y.2) (ht.below hb0))
 have HPO:=fun W (hW:Below w.heap.size w W) (hk:Boxed W w.heap.size 9 (.string s))=>Aup n₀ A ls c (by omega) (some s) (.pointer (some ⟨w.heap.size,0,none⟩)) Ap ps cp hpl hcp hps W (hR.below (hW.mono hn)) (Aap hn hW.size) (hK.below (hW.mono hn)) (.inr ⟨s,_,rfl,rfl,hk⟩)
 rw[Aar] at HCA
 obtain⟨lz,hlz⟩:∃lz,ls.map Subtype.val=lz:=⟨_,rfl⟩
 rw[hlz] at HCA HPO ⊢
 replace HPO:=hI HPO
 have HB0:=hI hb0
 have HK0:=hI k0
 obtain⟨N,hN⟩:∃N,ls.length=N:=⟨_,rfl⟩
 obtain⟨P,hP⟩:∃P,ps.length=P:=⟨_,rfl⟩
 rw[hN] at HCA HPO ⊢
 rw[hP] at HPO ⊢
 clear hR hn hK ht hc hlen hpl hcp hps hlz hb0 k0 hN hP
 go_enter Tryz.func12,Tryz.ntmps12
 go_wp2_with fail
 refine HCA.out.mono ?_
 rintro e w1 ⟨rfl,b1⟩
 have HB1:=hI (HB0.out.trans (b1.mono HB0.out.size))
 have HK1:Hid (Boxed w1 w.heap.size 9 (.string s)):=(b1.block _ HK0.out.lt).trans HK0.out
 clear b1 HCA
 by_cases h0:lall lz=0
 case neg =>
  have t1:(lall lz==0)=false:=Aaj.2 h0
  have t2:(lall lz != 0)=true:=by rw[bne,t1];rfl
  have HE:Hid (chkE lz s ps=1):=by unfold Hid chkE;rw[if_pos h0]
  clear h0
  go_wp2_with fail
  go_ret
  exact⟨by rw[HE.out];rfl,HB1.out⟩
 have HE:Hid (chkE lz s ps=posE lz (some s) [] ps):=by unfold Hid chkE;rw[if_neg (fun y=>y h0)]
 have HPOS:=hI (HPO.out w1 HB1.out HK1.out)
 rw[h0]
 clear h0 HPO
 go_wp2_with fail
 refine HPOS.out.mono ?_
 rintro e w2 ⟨rfl,b2⟩
 have HB2:=hI (HB1.out.trans (b2.mono HB1.out.size))
 clear b2 HPOS
 go_wp2_with fail
 go_ret
 exact⟨by rw[HE.out];rfl,HB2.out⟩
noncomputable def chkX(lz:List Lot)(io:Option ByteArray)(ps:List Pk):Int:=open Classical in if lall lz≠0 then 1 else posE lz io [] ps
theorem Au5{lz:List Lot}(h:lall lz≠0)(io:Option ByteArray)(ps:List Pk):chkX lz io ps=1:=by unfold chkX;rw[if_pos h]
theorem Au6{lz:List Lot}(h:lall lz=0)(io:Option ByteArray)(ps:List Pk):chkX lz io ps=posE lz io [] ps:=by unfold chkX;rw[if_neg (fun y=>y h)]
theorem Au7(lz:List Lot)(ps:List Pk):chkX lz none ps=takE lz ps:=rfl
theorem Au8(lz:List Lot)(s:ByteArray)(ps:List Pk):chkX lz (some s) ps=chkE lz s ps:=rfl
theorem LotAt.drewN{w:World}{p:Addr}{l:Lot}(h:LotAt w p l)(n:Nat):LotAt (w.drewN n) p l:=⟨h.c0,h.c1,h.c2,h.c3,h.c4,h.c5,h.c6⟩
theorem Au9(n₀:Nat)(A:Option Addr)(ls:List SLot)(c:Nat)(hc:ls.length≤c)(hlen:ls.length≤10000)(hti:∀l∈ls,l.1.tiny)(any:Bool)(s:ByteArray)(io:Option ByteArray)(hio:(any=true∧io=none)∨(any=false∧io=some s))(Ap:Option Addr)(ps:List Pk)(cp:Nat)(hpl:ps.length≤10000)(hcp:ps.length≤cp)(hps:∀p∈ps,p.qty.size≤1000)(w:World)
 (hR:RdB n₀ w A ls) (hn:n₀≤w.heap.size) (hK:RdK n₀ w Ap ps) :
 Calls Tryz.prog 25 #[.slice A ls.length c,.bool any,.string s,.slice Ap ps.length cp] w fun e w'=>e=.returned (.int .i64 (chkX (ls.map Subtype.val) io ps))∧Below w.heap.size w w':=by
 obtain⟨lz,hlz⟩:∃lz,ls.map Subtype.val=lz:=⟨_,rfl⟩
 obtain⟨N,hN⟩:∃N,ls.length=N:=⟨_,rfl⟩
 obtain⟨P,hP⟩:∃P,ps.length=P:=⟨_,rfl⟩
 have hNm:lz.length=N:=by rw[←hlz,Aar,hN]
 have htk:lz.take N=lz:=Aai (by rw[hNm];exact Aad _)
 have HCA:=Anp A (ls.map Subtype.val) c (by rw[Aar];exact hc) (by rw[Aar];omega) (fun l hl=>by obtain⟨y,hy,rfl⟩:=List.mem_map.1 hl;exact hti y hy) w ((hR.rdb').rdl hn)
 have HFI:=fun (id:ByteArray) W (hW:Below w.heap.size w W)=>Ak6 A (ls.map Subtype.val) N c (by rw[hlz,hNm];exact Aad _) (by rw[Aar];omega) id W (((hR.below (hW.mono hn)).rdb').rdl (Aap hn hW.size))
 have HTK:=hI (fun (ad:Addr) (e:Ap=some ad) (id:ByteArray) (k:Nat) (hk:k≤P) W (hW:Below w.heap.size w W)=>Atb n₀ Ap (ps.take k) cp (by rw[Aat];omega) id W ((hK.below (hW.mono hn)).take k))
 rw[hlz] at HCA HFI
 rw[hNm] at HCA
 rw[htk] at HFI
 rw[hlz]
 rw[hN] at ⊢
 rw[hP] at hpl hcp ⊢
 replace HCA:=hI HCA
 replace HFI:=hI HFI
 have HR:=hI hR
 have HKP:=hI hK
 have HPZ:=hI hps
 have HIO:=hI hio
 have HN:=hI hN
 have HP:=hI hP
 have HLZ:=hI hlz
 have HTI:=hI hti
 clear hR hK hps hio hN hP hlz hNm htk hti hc hlen
 go_enter Tryz.func25,Tryz.ntmps25
 go_wp2_with fail
 refine HCA.out.mono ?_
 rintro e w1 ⟨rfl,b1⟩
 have HB1:=hI b1
 clear b1 HCA
 by_cases h0:lall lz=0
 case neg =>
  have t1:(lall lz==0)=false:=Aaj.2 h0
  have t2:(lall lz != 0)=true:=by rw[bne,t1];rfl
  have HE:=hI (Au5 h0 io ps)
  clear h0
  go_wp2_with fail
  go_ret
  exact⟨by rw[HE.out];rfl,HB1.out⟩
 have HE0:=hI (Au6 h0 io ps)
 rw[h0]
 clear h0
 go_wp2_with fail
 go_loopw [9] (fun v wr=>∃k:Nat,v=.int .i64 (k:Int)∧k≤P∧posE lz io [] ps=posE lz io (ps.take k) (ps.drop k)∧(∀p∈ps.take k,p.qty≠⟨#[]⟩)∧Below w.heap.size w wr) (fun v _=>P-(intOf v).toNat)
 case atStart=>exact⟨0,rfl,by omega,rfl,fun p hp=>by simp at hp,HB1.out⟩
 case round =>
  obtain⟨k,rfl,hkP,hrl,hne,hb⟩:=hrel
  have HREL0:=hI hrl
  have HB:=hI hb
  have HNE:=hI hne
  clear hrl hb hne HB1
  rcases Aam k P with hlt|hge
  ·obtain⟨p,hp⟩:∃p,ps[k]?=some p:=⟨_,Aae (by rw[HP.out];exact hlt)⟩
   obtain⟨ad,rfl,had,hcell⟩:=HKP.out (by intro e;rw[e] at hp;cases hp)
   have hcx:decide ((k:Int)<(P:Int))=true:=by simp;omega
   obtain⟨c0,c1⟩:=(hcell k p hp).below (HB.out.mono hn) (by rw[Acv];exact had)
   have hdr:ps.drop k=p::ps.drop (k+1):=by
    obtain⟨h1,h2⟩:=Aak.1 hp
    rw[←h2,Aa2 h1]
   have HREL:Hid (posE lz io [] ps=posE lz io (ps.take k) (p::ps.drop (k+1))):=by rw[Hid,←hdr];exact HREL0.out
   have HTKS:Hid (ps.take (k+1)=ps.take k++[p]):=Amq hp
   have HPQ:Hid (p.qty.size≤1000):=HPZ.out p (Aas hp)
   have HF:=hI (HFI.out p.lot wr HB.out)
   have HC01:Hid (∀n,(wr.drewN n).cell? (ad.add (k*2))=some (.string p.lot)∧(wr.drewN n).cell? ⟨(ad.add (k*2)).block,(ad.add (k*2)).off+1,none⟩=some (.string p.qty)):=fun n=>⟨c0,c1⟩
   have hkl:(k:Int)<(P:Int):=by omega
   clear hcell hp hdr HREL0
   go_wp2_with fail
   refine HF.out.mono ?_
   rintro e wz ⟨rfl,rfl⟩
   clear HF
   cases hlo:lotOf lz p.lot with
   | none =>
     rw[Aqr hlo]
     have HE:=hI (Aq6 (io:=io) (pre:=ps.take k) (r:=ps.drop (k+1)) hlo)
     clear hlo
     go_wp2_with fail
     go_ret
     exact⟨by rw[HE0.out,HREL.out,HE.out];rfl,HB.out⟩
   | some x =>
     obtain⟨g1,g2⟩:=Aqq hlo
     have HLO:=hI hlo
     generalize hfr:findR lz p.lot 0=fr at g1 g2 ⊢
     obtain⟨i,is⟩:=fr
     obtain rfl:is=true:=g1
     obtain⟨y,hy,hyx⟩:∃y:SLot,ls[i]?=some y∧y.1=x:=by
      have h:(ls.map Subtype.val)[i]?=some x:=by rw[HLZ.out];exact g2
      rw[List.getElem?_map] at h
      obtain⟨y,hy,e⟩:=Option.map_eq_some_iff.1 h
      exact⟨y,hy,e⟩
     obtain⟨ad2,rfl,had2,hcell2⟩:=HR.out (by intro e;rw[e] at hy;cases hy)
     have hx0:=(hcell2 i y hy).below (HB.out.mono hn) (by rw[Acv];exact had2)
     rw[hyx] at hx0
     have hxs:x.sized:=by rw[←hyx];exact y.2
     have HXQ:Hid (x.qty.size≤1000):=hxs.2.2.1
     have HLX:Hid (LotAt wr (ad2.add (i*7)) x):=hx0
     have hiN:i<N:=by rw[←HN.out];exact (Aak.1 hy).1
     have hil:(i:Int)<(N:Int):=by omega
     clear hlo g2 hfr hy hyx hcell2 had2 hx0 hxs
     go_upto_region 9 with fail
     go_cut [43] (fun v wx=>∃b:Bool,v=.bool b∧(b=false→∀s,io=some s→x.inst=s)∧(b=true→∃s,io=some s∧x.inst≠s)∧wr=wx)
     case first =>
      rcases HIO.out with⟨rfl,h1⟩|⟨rfl,h1⟩
      ·have HI:=hI h1
       clear h1
       go_wp2_with fail
       go_meet
       case rel=>exact⟨false,rfl,fun _ s e=>(by rw[HI.out] at e;cases e),fun e=>(Aaz e).elim,rfl⟩
      ·obtain⟨x0,x1,x2,x3,x4,x5,x6⟩:=HLX.out
       have hse:=Aj8 x.inst s
       have HI:=hI h1
       clear h1
       by_cases hq:x.inst=s
       ·have t1:(x.inst.toList==s.toList)=true:=by rw[hse];exact Aa3 hq
        have t2:(x.inst.toList != s.toList)=false:=by rw[bne,t1];rfl
        have HQ:=hI hq
        clear hq hse
        go_wp2_with fail
        go_meet
        case rel=>exact⟨false,by first|rfl|simp,fun _ t e=>(by rw[HI.out] at e;injection e with e;rw[←e];exact HQ.out),fun e=>(Aaz e).elim,rfl⟩
       ·have t1:(x.inst.toList==s.toList)=false:=by rw[hse];exact Aa4 hq
        have t2:(x.inst.toList != s.toList)=true:=by rw[bne,t1];rfl
        have HQ:=hI hq
        clear hq hse
        go_wp2_with fail
        go_meet
        case rel=>exact⟨true,by first|rfl|simp,fun e=>(Aaz e.symm).elim,fun _=>⟨s,HI.out,HQ.out⟩,rfl⟩
     case rest =>
     obtain⟨b,rfl,hb0,hb1,rfl⟩:=hcut
     cases b
     case true =>
      obtain⟨s,hs,hne⟩:=hb1 rfl
      have HE:=hI (Aq7 (pre:=ps.take k) (r:=ps.drop (k+1)) HLO.out hs hne)
      clear hb0 hb1 hs hne
      go_wp2_with fail
      go_ret
      exact⟨by rw[HE0.out,HREL.out,HE.out];rfl,HB.out⟩
     have HINS:=hI (hb0 rfl)
     clear hb0 hb1
     have hslc:=fun W=>Aun W ad P cp k (by omega)
     have hin:=rtk_in (ps:=ps.take k) HNE.out p.lot
     have htk2:=fun W hW=>HTK.out ad rfl p.lot k hkP W hW
     rw[show (ps.take k).length=k from by rw[Aat,HP.out];omega] at htk2
     generalize rtk (ps.take k) p.lot=q at hin htk2
     have HTC:=hI htk2
     clear htk2
     have hqe:=Ajs q
     by_cases hm:p.lot∈(ps.take k).map Pk.lot
     case pos =>
      have hq:q≠⟨#[]⟩:=fun e=>(hin.1 e) hm
      rw[Aa4 hq] at hqe
      have t2:(q.toList != [])=true:=by rw[bne,hqe];rfl
      have HE:=hI (Aq8 (r:=ps.drop (k+1)) HLO.out HINS.out hm)
      clear hm hq hin
      go_wp2_with fail
      go_quiet ((go_at_call 26;exact Ain (HTC.out _ (Acz HB.out _))))
      go_wp2_with fail
      go_ret
      exact⟨by rw[HE0.out,HREL.out,HE.out];rfl,Acz HB.out _⟩
     have hq:q=⟨#[]⟩:=hin.2 hm
     rw[Aa3 hq] at hqe
     have t2:(q.toList != [])=false:=by rw[bne,hqe];rfl
     have HNM:=hI hm
     clear hm hq hin
     go_wp2_with fail
     go_quiet ((go_at_call 26;exact Ain (HTC.out _ (Acz HB.out _))))
     clear hslc HTC hqe t2
     obtain⟨d0,d1⟩:=HC01.out nq
     have HB8:=hI (Acz HB.out nq)
     have HLX8:Hid (LotAt (wr.drewN nq) (ad2.add (i*7)) x):=HLX.out.drewN nq
     generalize wr.drewN nq=w8 at *
     by_cases hcq:Can p.qty
     case neg =>
      have HC:=hI (Ag7 p.qty (by have:=HPQ.out;omega) hcq w8)
      have HE:=hI (Aq9 (r:=ps.drop (k+1)) HLO.out HINS.out HNM.out hcq)
      clear hcq
      go_wp2_with fail
      refine HC.out.mono ?_
      rintro e w9 ⟨rfl,rfl⟩
      go_wp2_with fail
      go_ret
      exact⟨by rw[HE0.out,HREL.out,HE.out];rfl,HB8.out⟩
     have HC:=hI (Ag6 p.qty (by have:=HPQ.out;omega) hcq w8)
     have HCN:=hI hcq
     clear hcq
     go_wp2_with fail
     refine HC.out.mono ?_
     rintro e w9 ⟨rfl,rfl⟩
     have HPO:=hI (As5 p.qty (by have:=HPQ.out;omega) w8)
     clear HC
     go_wp2_with fail
     refine HPO.out.mono ?_
     rintro e w9 ⟨rfl,rfl⟩
     clear HPO
     by_cases h0:0<vl p.qty
     case neg =>
      have HE:=hI (Ara (r:=ps.drop (k+1)) HLO.out HINS.out HNM.out HCN.out (by omega))
      rw[Aa4 h0]
      clear h0
      go_wp2_with fail
      go_ret
      exact⟨by rw[HE0.out,HREL.out,HE.out];rfl,HB8.out⟩
     rw[Aa3 h0]
     have HPS:=hI h0
     have HQN:=hI (Atg h0)
     clear h0
     have HCMP:=hI (fun W=>Ahh p.qty x.qty (by have:=HPQ.out;omega) (by have:=HXQ.out;omega) W)
     obtain⟨x0,x1,x2,x3,x4,x5,x6⟩:=HLX8.out
     by_cases hcm:vl x.qty<vl p.qty
     ·have t1:decide (cmpI (vl p.qty) (vl x.qty) > 0)=true:=Aa3 (cmpI_gt.2 hcm)
      have t2:decide (0<cmpI (vl p.qty) (vl x.qty))=true:=t1
      have HE:=hI (Arb (r:=ps.drop (k+1)) HLO.out HINS.out HNM.out HCN.out HPS.out hcm)
      clear hcm
      go_wp2_with fail
      go_quiet ((go_at_call 33;exact Ain (HCMP.out _)))
      go_wp2_with fail
      go_ret
      exact⟨by rw[HE0.out,HREL.out,HE.out];rfl,Acz HB8.out _⟩
     ·have t1:decide (cmpI (vl p.qty) (vl x.qty) > 0)=false:=Aa4 (fun h=>hcm (cmpI_gt.1 h))
      have t2:decide (0<cmpI (vl p.qty) (vl x.qty))=false:=t1
      have HE:=hI (Arc (r:=ps.drop (k+1)) ⟨HLO.out,HINS.out,HCN.out,HPS.out,by omega⟩ HNM.out)
      clear hcm
      go_wp2_with fail
      go_quiet ((go_at_call 33;exact Ain (HCMP.out _)))
      go_wp2_with fail
      go_roundw
      case rel =>
       refine⟨k+1,by go_num,by omega,by rw[HREL.out,HE.out,HTKS.out],fun a ha=>?_,Acz HB8.out _⟩
       rw[HTKS.out,List.mem_append] at ha
       rcases ha with ha|ha
       ·exact HNE.out a ha
       ·rw[List.mem_singleton] at ha;subst ha;exact HQN.out
      case measure=>simp[intOf];omega
  ·have hcx:decide ((k:Int)<(P:Int))=false:=by simp;omega
   have HE:Hid (posE lz io [] ps=0):=by rw[Hid,HREL0.out,List.drop_eq_nil_of_le (by rw[HP.out];exact hge)];rw[posE]
   go_wp2_with fail
   go_ret
   exact⟨by rw[HE0.out,HE.out];rfl,HB.out⟩
theorem Ava(n₀:Nat)(A:Option Addr)(ls:List SLot)(c:Nat)(hc:ls.length≤c)(hlen:ls.length≤10000)(hti:∀l∈ls,l.1.tiny)(s:ByteArray)(Ap:Option Addr)(ps:List Pk)(cp:Nat)(hpl:ps.length≤10000)(hcp:ps.length≤cp)(hps:∀p∈ps,p.qty.size≤1000)(w:World)
 (hR:RdB n₀ w A ls) (hn:n₀≤w.heap.size) (hK:RdK n₀ w Ap ps) :
 Calls Tryz.prog 13 #[.slice A ls.length c,.string s,.slice Ap ps.length cp] w fun e w'=>e=.returned (.int .i64 (chkE (ls.map Subtype.val) s ps))∧Below w.heap.size w w':=by
 have HC:=hI (Au9 n₀ A ls c hc hlen hti false s (some s) (.inr ⟨rfl,rfl⟩) Ap ps cp hpl hcp hps w hR hn hK)
 rw[Au8] at HC
 obtain⟨N,hN⟩:∃N,ls.length=N:=⟨_,rfl⟩
 obtain⟨P,hP⟩:∃P,ps.length=P:=⟨_,rfl⟩
 rw[hN,hP] at HC ⊢
 clear hc hlen hti hpl hcp hps hR hn hK hN hP
 go_enter Tryz.func13,Tryz.ntmps13
 go_wp2_with fail
 refine HC.out.mono ?_
 rintro e w1 ⟨rfl,b1⟩
 have HB:=hI b1
 clear b1
 go_wp2_with fail
 go_ret
 exact⟨rfl,HB.out⟩
theorem Avb{P:Program}{ops:Array Oper}{o:Oper}{a:Act}{K:Act→World→Prop}{Q:Exit→Act→World→Prop}{E:Prop}{t:TypeId}{pv xv:Value}{w w':World}(hr:(Instr.storeAt t pv xv).run P w=.ok () w')(hgd:o.guard=none)(p x:Operand)
 (ho:o.op=.store t p x) (hp:a.eval p=pv) (hx:a.eval x=xv) (h:K (a.put o.dst undef) w'):if Region.wanted o (yielded ops a.tmps)=true then Oper.wp P o a w K Q else E:=by
 have hw:Region.wanted o (yielded ops a.tmps)=true:=by simp[Region.wanted,hgd]
 rw[if_pos hw]
 exact oper_store_run hr p x ho hp hx h
theorem one_box(w:World)(a:Lot):∃W1 W2,w.alloc (.cells #[.string ⟨#[]⟩,.string ⟨#[]⟩,.int .i64 0,.int .i64 0,.string ⟨#[]⟩,.string ⟨#[]⟩,.string ⟨#[]⟩] 38)=W1 ∧
 (Instr.storeAt 38 (.pointer (some ⟨w.heap.size,0,none⟩)) a.enc).run Tryz.prog W1=.ok () W2∧LotBox W2 w.heap.size a∧Below w.heap.size w W2:=by
 obtain⟨W1,hW1⟩:∃W1,w.alloc (.cells #[.string ⟨#[]⟩,.string ⟨#[]⟩,.int .i64 0,.int .i64 0,.string ⟨#[]⟩,.string ⟨#[]⟩,.string ⟨#[]⟩] 38)=W1:=⟨_,rfl⟩
 have hb1:Below w.heap.size w W1:=by rw[←hW1];exact (Below.refl _ w).alloc (Aad _) _
 have k1:W1.heap[w.heap.size]?=some (.cells #[.string ⟨#[]⟩,.string ⟨#[]⟩,.int .i64 0,.int .i64 0,.string ⟨#[]⟩,.string ⟨#[]⟩,.string ⟨#[]⟩] 38 (0,0)):=by rw[←hW1];exact Aa5 w _
 have r3:=run_store_row W1 w.heap.size 7 38 _ a.cells (by kernel_rfl) k1 rfl rfl (Apt a)
 exact⟨W1,_,hW1,r3,setRow_heap _ _ _ _ _ _ k1,below_setRow hb1 (Aad _) _⟩
structure TkA(w:World)(lz:List Lot)(ps:List Pk)(k:Nat)(v8:Value)(W:World):Prop where
 own:W.ownsRow w.heap.size 38 7 v8 (restR (lz.take k) ps).length (flatV (restR (lz.take k) ps))
 be:Below w.heap.size w W
theorem TkA.below{w:World}{lz:List Lot}{ps:List Pk}{k:Nat}{v8:Value}{W W':World}(h:TkA w lz ps k v8 W)(hb:Below W.heap.size W W'):TkA w lz ps k v8 W':=⟨Anz h.own hb,h.be.trans (hb.mono h.be.size)⟩
theorem TkA.same{w:World}{lz:List Lot}{ps:List Pk}{k:Nat}{v8:Value}{W:World}(h:TkA w lz ps k v8 W)(e:restR (lz.take (k+1)) ps=restR (lz.take k) ps):TkA w lz ps (k+1) v8 W:=⟨by rw[e];exact h.own,h.be⟩
theorem TkA.more{w:World}{lz:List Lot}{ps:List Pk}{k:Nat}{v8:Value}{W:World}{x:Lot}(h:TkA w lz ps k v8 W)(e:restR (lz.take (k+1)) ps=restR (lz.take k) ps++[x]){B:Nat}(hB:LotBox W B x)(hl:k≤10000):
 ∃v' w',(Builtin.append_ #[22,22] 22 #[v8,.slice (some ⟨B,0,none⟩) 1 1]).run Tryz.prog W=.ok v' w'∧TkA w lz ps (k+1) v' w':=by
 have hn:(restR (lz.take k) ps).length≤100000:=Aap (Aq3 _ _) (by rw[Aat];omega)
 obtain⟨v',w',r,o,g,_⟩:=Aux W w.heap.size v8 _ _ x B 1 h.own hB hn h.be.size
 refine⟨v',w',r,⟨?_,h.be.grown g h.be.size (fun j e=>(h.own.lt j e).1)⟩⟩
 rw[e,Ar8,Auz,Aan]
 exact o
theorem Avc{ls:List Lot}{io:Option ByteArray}{ps:List Pk}(ha:AllOk ls)(hti:∀l∈ls,l.tiny)(h:PksOk ls io ps)(h13:∀p∈ps,p.qty.size≤13){y:Lot}(hy:y∈restR ls ps):y.mid:=by
 obtain⟨x,hx,e⟩:=List.mem_filterMap.1 hy
 cases hp:pkOf ps x.id with
 | none=>rw[Aqv hp] at e;injection e with e;rw[←e];exact (hti x hx).mid
 | some p =>
   rw[Aqw hp] at e
   split at e
   ·cases e
   ·injection e with e
    rename_i hq
    obtain⟨hpm,hpl⟩:=Aqu hp
    obtain⟨x',hx'⟩:=h.ok p hpm
    obtain rfl:x=x':=by
     have h1:=hx'.lot
     rw[hpl,Aqp ha.nd hx] at h1
     injection h1
    rw[←e]
    exact (Arj (hti x hx) (lchk_zero.1 (ha.ok x hx)) (h13 p hpm) hx'.pos (pk_lt (lchk_zero.1 (ha.ok x hx)) hx' hq)).2
structure R6V(wS:World)(p:Pk)(x LA LB:Lot)(adp:Addr)(P cp k Bo:Nat)  (L:Array Bool) (W:World) (s96 s97 s98 s99 s100 s101 s102 s103 s104 s105 s106:Value):Prop where
 k0:L.getD 0 false=true→s97=.agg #[.string x.id,.string x.inst,.int .i64 x.acq,.int .i64 x.opn,.string x.qty,.string x.cost,.string x.used]
 k1:L.getD 1 false=true→s98=.slice (some adp) P cp
 k2:L.getD 2 false=true→s99=.int .i64 (k:Int)
 k3:L.getD 3 false=true→s100=.pointer (some (adp.add (k*2)))
 k4:L.getD 4 false=true→s101=.pointer (some ⟨(adp.add (k*2)).block,(adp.add (k*2)).off+1,none⟩)
 k5:L.getD 5 false=true→s102=.string p.qty
 k6:L.getD 6 false=true→s103=.tuple #[.agg #[.string LA.id,.string LA.inst,.int .i64 LA.acq,.int .i64 LA.opn,.string LA.qty,.string LA.cost,.string LA.used],.agg #[.string LB.id,.string LB.inst,.int .i64 LB.acq,.int .i64 LB.opn,.string LB.qty,.string LB.cost,.string LB.used],.int .i64 0]
 k7:L.getD 7 false=true→s96=.tuple #[.agg #[.string LA.id,.string LA.inst,.int .i64 LA.acq,.int .i64 LA.opn,.string LA.qty,.string LA.cost,.string LA.used],.agg #[.string LB.id,.string LB.inst,.int .i64 LB.acq,.int .i64 LB.opn,.string LB.qty,.string LB.cost,.string LB.used],.int .i64 0]
 k8:L.getD 8 false=true→s104=.agg #[.string LA.id,.string LA.inst,.int .i64 LA.acq,.int .i64 LA.opn,.string LA.qty,.string LA.cost,.string LA.used]
 k9:L.getD 9 false=true→s105=.agg #[.string LB.id,.string LB.inst,.int .i64 LB.acq,.int .i64 LB.opn,.string LB.qty,.string LB.cost,.string LB.used]
 k10:L.getD 10 false=true→s106=.int .i64 0
 g:Below wS.heap.size wS W
 bx:L.getD 11 false=false→LotBox W Bo x
 by':L.getD 11 false=true→LotBox W Bo LA
 q11:L.getD 11 false=true→L.getD 0 false=true
structure R6J(wS:World)(p:Pk)(x LA LB:Lot)(adp:Addr)(P cp k Bo:Nat)(x0 x2 x3 x4 x5 x6 x7 x8 x9 x10 x11 x12 x13 x14 x16 x17 x19 x20 x21 x22 x23 x24 x25 x26 x27 x28 x29 x30 x31 x32 x33 x34 x35 x36 x37 x38 x39 x40 x41 x42 x43 x44 x45 x46 x47 x48 x49 x50 x51 x52 x53 x54 x55 x56 x57 x58 x59 x60 x61 x62 x63 x64 x65 x66 x67 x68 x69 x70 x71 x72 x73 x74 x75 x76 x77 x78 x79 x80 x81 x82 x83 x84 x85 x86 x87 x88 x89 x90 x91 x92 x93 x94 x95 x107 x108 x109 x110 x111 x112:Value)(L:Array Bool)(a:Act)(W:World):Prop where
 sz:L.size=12
 fr:∃s96 s97 s98 s99 s100 s101 s102 s103 s104 s105 s106:Value,a={tmps:=#[x0,.slice (some adp) P cp,x2,x3,x4,x5,x6,x7,x8,x9,x10,x11,x12,x13,x14,.int .i64 (k:Int),x16,x17,.pointer (some ⟨Bo,0,none⟩),x19,x20,x21,x22,x23,x24,x25,x26,x27,x28,x29,x30,x31,x32,x33,x34,x35,x36,x37,x38,x39,x40,x41,x42,x43,x44,x45,x46,x47,x48,x49,x50,x51,x52,x53,x54,x55,x56,x57,x58,x59,x60,x61,x62,x63,x64,x65,x66,x67,x68,x69,x70,x71,x72,x73,x74,x75,x76,x77,x78,x79,x80,x81,x82,x83,x84,x85,x86,x87,x88,x89,x90,x91,x92,x93,x94,x95,s96,s97,s98,s99,s100,s101,s102,s103,s104,s105,s106,x107,x108,x109,x110,x111,x112],defers:=[]}∧R6V wS p x LA LB adp P cp k Bo  L W s96 s97 s98 s99 s100 s101 s102 s103 s104 s105 s106
theorem Avd(n₀:Nat)(A:Option Addr)(ls:List SLot)(c:Nat)(hc:ls.length≤c)(hlen:ls.length≤10000)(hti:∀l∈ls,l.1.tiny)(Ap:Option Addr)(ps:List Pk)(cp:Nat)(hpl:ps.length≤10000)(hcp:ps.length≤cp)(hps:∀p∈ps,p.qty.size≤1000)(h13:posE (ls.map Subtype.val) none [] ps=0→∀p∈ps,p.qty.size≤13)(w:World)
 (hR:RdB n₀ w A ls) (hn:n₀≤w.heap.size) (hK:RdK n₀ w Ap ps) (ht:Tabs w) :
 Calls Tryz.prog 7 #[.slice A ls.length c,.slice Ap ps.length cp] w (Auu w (ls.map Subtype.val) ps):=by
 obtain⟨lz,hlz⟩:∃lz,ls.map Subtype.val=lz:=⟨_,rfl⟩
 have hNm:lz.length=ls.length:=by rw[←hlz,Aar]
 have htz:∀l∈lz,l.tiny:=fun l hl=>by rw[←hlz] at hl;obtain⟨y,hy,rfl⟩:=List.mem_map.1 hl;exact hti y hy
 have HCK:=Au9 n₀ A ls c hc hlen hti true ⟨#[]⟩ none (.inl ⟨rfl,rfl⟩) Ap ps cp hpl hcp hps w hR hn hK
 rw[Au7,hlz] at HCK
 have htk:lz.take ls.length=lz:=Aai (by omega)
 have HFI:=fun (id:ByteArray) W (hW:Below w.heap.size w W)=>Ak6 A (ls.map Subtype.val) ls.length c (by rw[Aar];exact Aad _) (by rw[Aar];omega) id W (((hR.below (hW.mono hn)).rdb').rdl (Aap hn hW.size))
 rw[hlz,htk] at HFI
 have HRT:=hI (fun (id:ByteArray) W (hW:Below w.heap.size w W)=>Atb n₀ Ap ps cp (by omega) id W (hK.below (hW.mono hn)))
 rw[hlz] at h13 ⊢
 have HCT:=hI (fun (x:Lot) (q:ByteArray) (h1:x.tiny) (h2:x.ok) (h3:Can q) (h4:q.size≤13) (h5:0<vl q) (h6:vl q<vl x.qty) W (hW:Below w.heap.size w W)=>Apa x q h1 h2 h3 h4 h5 h6 W (ht.below hW))
 have HR:=hI (fun W (hW:Below w.heap.size w W)=>hR.below (hW.mono hn))
 have HKP:=hI (fun W (hW:Below w.heap.size w W)=>hK.below (hW.mono hn))
 have HNn:=hI hn
 obtain⟨N,hN⟩:∃N,ls.length=N:=⟨_,rfl⟩
 obtain⟨P,hP⟩:∃P,ps.length=P:=⟨_,rfl⟩
 rw[hN] at HCK HFI hNm hlen ⊢
 rw[hP] at HCK HRT hpl hcp ⊢
 replace HCK:=hI HCK
 replace HFI:=hI HFI
 have HN:=hI hN
 have HP:=hI hP
 have HLN:=hI hNm
 have HTZ:=hI htz
 have HLZ:=hI hlz
 have H13:=hI h13
 have HLL:Hid (N≤10000∧P≤10000):=⟨hlen,hpl⟩
 clear hR hn hK ht hc hlen hti hpl hcp hps h13 hN hP hNm htz hlz htk
 go_enter Tryz.func7,Tryz.ntmps7
 go_wp2_with fail
 refine HCK.out.mono ?_
 rintro e w1 ⟨rfl,b1⟩
 have HB1:=hI b1
 clear b1 HCK
 by_cases h0:takE lz ps=0
 case neg =>
  obtain⟨z,hz⟩:∃z,takE lz ps=z:=⟨_,rfl⟩
  rw[hz] at h0 ⊢
  have t1:(z==0)=false:=Aaj.2 h0
  have t2:(z != 0)=true:=by rw[bne,t1];rfl
  have HE:=hI (Auv hz h0 HB1.out)
  clear h0 hz
  go_wp2_with fail
  go_ret3
  exact HE.out
 have hal:lall lz=0:=Classical.byContradiction fun x=>by rw[Aus x] at h0;exact absurd h0 (by decide)
 have hok:=(Apz lz).1 hal
 have hpos:posE lz none [] ps=0:=(Aut hal ps).symm.trans h0
 have HALL:=hI hok
 have HOK:=hI ((posE_zero lz none ps []).1 hpos).2
 have HQ13:=hI (H13.out hpos)
 have HE:=hI h0
 rw[h0]
 clear h0 hal hok hpos H13
 go_wp2_with fail
 go_loopw [8,10] (fun u8 v wr=>∃(k:Nat) (v8:Value),v=.int .i64 (k:Int)∧v8=u8∧k≤N∧TkA w lz ps k v8 wr) (fun _ v _=>N-(intOf v).toNat)
 case atStart=>exact⟨0,_,rfl,rfl,Nat.zero_le _,⟨by rw[List.take_zero];exact World.ownsRow_nil _ _ _ _,HB1.out⟩⟩
 case round =>
  obtain⟨k,v8,rfl,rfl,hk,hst⟩:=hrel
  have HS:=hI hst
  clear hst HB1
  rcases Aam k N with hlt|hge
  ·obtain⟨y,hy⟩:∃y,ls[k]?=some y:=⟨_,Aae (by rw[HN.out];exact hlt)⟩
   obtain⟨x,hyx⟩:∃x,y.1=x:=⟨_,rfl⟩
   have hzx:lz[k]?=some x:=by rw[←HLZ.out,List.getElem?_map,hy];exact congrArg some hyx
   have HXM:=hI (Aas hzx)
   have HSN:Hid (restR (lz.take (k+1)) ps=restR (lz.take k) ps++(leftO ps x).toList):=by rw[Hid,Amq hzx,Ath]
   obtain⟨ad,rfl,had,hcell⟩:=HR.out wr HS.out.be (by intro e;rw[e] at hy;cases hy)
   have hcx:decide ((k:Int)<(N:Int))=true:=by simp;omega
   have hxa:=hcell k y hy
   rw[hyx] at hxa
   obtain⟨c0,c1,c2,c3,c4,c5,c6⟩:=hxa
   have HRTC:=hI (HRT.out x.id wr HS.out.be)
   have hk1:k≤10000:=by have:=HLL.out;omega
   clear hcell hy hyx hzx
   go_wp2_with fail
   refine HRTC.out.mono ?_
   rintro e wz ⟨rfl,rfl⟩
   clear HRTC
   obtain⟨q,hq⟩:∃q,rtk ps x.id=q:=⟨_,rfl⟩
   rw[hq]
   have hqe:=Ajs q
   cases hpk:pkOf ps x.id with
   | none =>
     rw[As8 hpk] at hq
     rw[Aa3 hq.symm] at hqe
     have he:=HSN.out
     rw[Aqv hpk] at he
     obtain⟨W2,hW2⟩:∃W2,wr.alloc (.cells x.cells 38)=W2:=⟨_,rfl⟩
     have b2:Below wr.heap.size wr W2:=by rw[←hW2];exact (Below.refl _ wr).alloc (Aad _) _
     have k2:LotBox W2 wr.heap.size x:=by rw[←hW2];exact Aa5 wr _
     obtain⟨v',w3,r3,hs3⟩:=(HS.out.below b2).more he k2 hk1
     have HS3:=hI hs3
     clear hpk hq he b2 k2 hs3
     unfold Lot.cells at hW2
     go_wp2_with (at_builtin;refine Lib.wpList_append_run _ rfl _ _ _ _ rfl _ _ rfl rfl _ _ r3 ?_)
     clear r3 hW2 c0 c1 c2 c3 c4 c5 c6 hqe
     go_roundw
     case rel=>exact⟨k+1,_,by go_num,rfl,by omega,HS3.out⟩
     case measure=>simp[intOf];omega
   | some p =>
     rw[As9 hpk] at hq
     subst hq
     obtain⟨hpm,hpl⟩:=Aqu hpk
     obtain⟨x',hx'⟩:=HOK.out.ok p hpm
     obtain rfl:x=x':=by
      have h1:=hx'.lot
      rw[hpl,Aqp HALL.out.nd HXM.out] at h1
      injection h1
     have HPX:=hI hx'
     rw[Aa4 (Atg hx'.pos)] at hqe
     have he:=HSN.out
     rw[Aqw hpk] at he
     have hse:=Aj8 p.qty x.qty
     by_cases hq:x.qty=p.qty
     ·rw[Aa3 hq.symm] at hse
      have t2:(p.qty.toList != x.qty.toList)=false:=by rw[bne,hse];rfl
      rw[if_pos hq,Option.toList_none,List.append_nil] at he
      have HS3:=hI (HS.out.same he)
      clear hpk hpm hpl hx' he hq
      go_wp2_with fail
      clear c0 c1 c2 c3 c4 c5 c6 hqe hse t2
      go_roundw
      case rel=>exact⟨k+1,_,by go_num,rfl,by omega,HS3.out⟩
      case measure=>simp[intOf];omega
     ·rw[Aa4 (fun e=>hq e.symm)] at hse
      have t2:(p.qty.toList != x.qty.toList)=true:=by rw[bne,hse];rfl
      rw[if_neg hq,Option.toList_some] at he
      have hxo:=lchk_zero.1 (HALL.out.ok x HXM.out)
      have hlt2:=pk_lt hxo hx' hq
      have hcut:=HCT.out x p.qty (HTZ.out x HXM.out) hxo hx'.can (HQ13.out p hpm) hx'.pos hlt2 wr HS.out.be
      obtain⟨LA,hLA⟩:∃LA,cutA x p.qty=LA:=⟨_,rfl⟩
      obtain⟨LB,hLB⟩:∃LB,cutB x p.qty=LB:=⟨_,rfl⟩
      rw[hLA,hLB] at hcut
      rw[hLB] at he
      unfold Lot.enc Lot.cells at hcut
      have HCUT:=hI hcut
      have HEE:=hI he
      clear hpk hpm hpl hx' he hq hxo hlt2 hcut hLA hLB
      go_wp2_with fail
      refine HCUT.out.mono ?_
      rintro e w3 ⟨rfl,b3⟩
      have HS3:=hI (HS.out.below b3)
      clear b3 HCUT c0 c1 c2 c3 c4 c5 c6
      obtain⟨W9,W10,W11,W12,hW9,hW10,r11,r12,kA,kB,b12,hz9⟩:=Auy w3 LA LB
      obtain⟨z9,hz⟩:∃z9,W9.heap.size=z9:=⟨_,rfl⟩
      rw[hz] at r12 kB hz9
      obtain⟨b0,b1,b2,b3,b4,b5,b6⟩:=lbc kB
      obtain⟨W13,hW13⟩:∃W13,W12.alloc (.cells LB.cells 38)=W13:=⟨_,rfl⟩
      have b13:Below W12.heap.size W12 W13:=by rw[←hW13];exact (Below.refl _ W12).alloc (Aad _) _
      have k13:LotBox W13 W12.heap.size LB:=by rw[←hW13];exact Aa5 W12 _
      obtain⟨v',w14,r14,hs14⟩:=((HS3.out.below b12).below b13).more HEE.out k13 hk1
      have HS4:=hI hs14
      clear kA kB b12 b13 k13 hs14 hz9 HS HS3 HEE
      unfold Lot.enc Lot.cells at r11 r12
      unfold Lot.cells at hW13
      go_wp2_with (first|(at_builtin;refine Lib.wpList_append_run _ rfl _ _ _ _ rfl _ _ rfl rfl _ _ r14 ?_)|(refine wpList_store_run r11 rfl _ _ rfl rfl rfl ?_)|(refine wpList_store_run r12 rfl _ _ rfl rfl rfl ?_))
      clear r11 r12 r14 hW9 hW10 hW13 b0 b1 b2 b3 b4 b5 b6 hqe hse t2
      go_roundw
      case rel=>exact⟨k+1,_,by go_num,rfl,by omega,HS4.out⟩
      case measure=>simp[intOf];omega
  ·have hcx:decide ((k:Int)<(N:Int))=false:=by simp;omega
   have hcx2:decide (k<N)=false:=Aa4 (by omega)
   have hkp:lz.take k=lz:=Aai (by rw[HLN.out];exact hge)
   have ho:=HS.out.own
   rw[hkp] at ho
   obtain⟨s1,hs1⟩:=sl_of (restR lz ps) (fun l hl=>(Avc HALL.out HTZ.out HOK.out HQ13.out hl).sized)
   rw[←hs1,Asc,Aar] at ho
   have hnil:∀A1 c1,v8=.slice A1 s1.length c1→A1=none→s1.length=0∧c1=0:=fun A1 c1 hv h1=>by
    rcases ho.2 with⟨h,h2⟩|⟨g,cap,cur,h,_⟩
    ·rw[h] at hv;injection hv with _ _ h3;exact⟨h2,h3.symm⟩
    ·rw[h] at hv;injection hv with h3 _ _;rw[h1] at h3;cases h3
   obtain⟨A1,c1,rfl,hc1,_,hr1⟩:=RdB.of_own ho
   have HR1:Hid (RdB wr.heap.size wr A1 s1∧s1.length≤c1∧(A1=none→s1.length=0∧c1=0)∧s1.map Subtype.val=restR lz ps):=⟨hr1,hc1,hnil A1 c1 rfl,hs1⟩
   have HBO:=hI HS.out.be
   obtain⟨M,hM⟩:∃M,s1.length=M:=⟨_,rfl⟩
   rw[hM]
   have HM:=hI hM
   clear hk ho hkp hc1 hr1 hnil hs1 hM HS hge HRT
   generalize hwo:wr=wo at *
   clear hwo
   go_wp2_with fail
   clear hcx hcx2
   go_loopw [9,15] (fun u9 v wr=>∃(k:Nat) (v9:Value),v=.int .i64 (k:Int)∧v9=u9∧k≤P∧wr.ownsRow wo.heap.size 38 7 v9 k (flatV (Aqz lz (ps.take k)))∧Below wo.heap.size wo wr) (fun _ v _=>P-(intOf v).toNat)
   case atStart=>exact⟨0,_,rfl,rfl,Nat.zero_le _,by rw[List.take_zero];exact World.ownsRow_nil _ _ _ _,Below.refl _ _⟩
   case round =>
    obtain⟨k,v9,rfl,rfl,hk,hown,hbr⟩:=hrel
    have HOWN:=hI hown
    have HBR:=hI hbr
    have hkP:k≤10000:=by have:=HLL.out;omega
    have HBW:=hI (HBO.out.trans (hbr.mono HBO.out.size))
    clear hown hbr
    rcases Aam k P with hlt|hge
    ·obtain⟨p,hp⟩:∃p,ps[k]?=some p:=⟨_,Aae (by rw[HP.out];exact hlt)⟩
     have HPM:=hI (Aas hp)
     obtain⟨x,hx⟩:=HOK.out.ok p HPM.out
     have HX:=hI hx
     have hcx:decide ((k:Int)<(P:Int))=true:=by simp;omega
     have HTKN:Hid (Aqz lz (ps.take (k+1))=Aqz lz (ps.take k)++[tknO lz p]):=by rw[Hid,Amq hp];unfold Aqz;rw[List.map_append];rfl
     obtain⟨adp,rfl,hadp,hcellp⟩:=HKP.out wr HBW.out (by intro e;rw[e] at hp;cases hp)
     have hpa:=hcellp k p hp
     obtain⟨d0,d1⟩:=hpa
     obtain⟨g1,g2⟩:=Aqq hx.lot
     generalize hfr:findR lz p.lot 0=fr at g1 g2
     obtain⟨i,is⟩:=fr
     obtain rfl:is=true:=g1
     dsimp only at g2
     have hfc:=HFI.out p.lot wr HBW.out
     rw[hfr] at hfc
     have HFC:=hI hfc
     obtain⟨y,hy,hyx⟩:∃y:SLot,ls[i]?=some y∧y.1=x:=by
      have h:(ls.map Subtype.val)[i]?=some x:=by rw[HLZ.out];exact g2
      rw[List.getElem?_map] at h
      obtain⟨y,hy,e⟩:=Option.map_eq_some_iff.1 h
      exact⟨y,hy,e⟩
     obtain⟨ad,rfl,had,hcell⟩:=HR.out wr HBW.out (by intro e;rw[e] at hy;cases hy)
     have hxa:=hcell i y hy
     rw[hyx] at hxa
     obtain⟨c0,c1,c2,c3,c4,c5,c6⟩:=hxa
     have hiN:i<N:=by rw[←HN.out];exact (Aak.1 hy).1
     have hil:(i:Int)<(N:Int):=by omega
     have HXM:Hid (x∈lz):=(Aqn hx.lot).1
     obtain⟨W3,w4,hW3,r4,k4,b4⟩:=one_box wr x
     obtain⟨Bo,hBo⟩:∃Bo,wr.heap.size=Bo:=⟨_,rfl⟩
     have HB4:=hI (HBR.out.trans (b4.mono HBR.out.size))
     have HBW4:=hI (HBW.out.trans (b4.mono HBW.out.size))
     have HO4:=hI (Anz HOWN.out b4)
     have k4':=k4
     rw[hBo] at k4' r4
     have HX4:=hI k4'
     have HBQ:Hid (wr.heap.size≤Bo):=by rw[Hid,hBo];exact Aad _
     have HG4:=hI b4
     have p0:=(b4.cell (p:=adp.add (k*2)) (by rw[Acv];exact Aah hadp (Aap HNn.out HBW.out.size))).trans d0
     have p1:=(b4.cell (p:=⟨(adp.add (k*2)).block,(adp.add (k*2)).off+1,none⟩) (by show (adp.add (k*2)).block<_;rw[Acv];exact Aah hadp (Aap HNn.out HBW.out.size))).trans d1
     have HPA:Hid (PkAt wr (adp.add (k*2)) p∧(adp.add (k*2)).block<wr.heap.size):=⟨⟨d0,d1⟩,by rw[Acv];exact Aah hadp (Aap HNn.out HBW.out.size)⟩
     have HKP2:Hid ((k:Int)<(P:Int)):=by show (k:Int)<_;omega
     have x0:=Aaa k4' 0;have x1:=Aaa k4' 1;have x2:=Aaa k4' 2;have x3:=Aaa k4' 3;have x4:=Aaa k4' 4;have x5:=Aaa k4' 5;have x6:=Aaa k4' 6
     simp[Lot.cells] at x0 x1 x2 x3 x4 x5 x6
     have hse:=Aj8 p.qty x.qty
     have hkl:(k:Int)<(P:Int):=by omega
     clear hcellp hcell hadp had hp hx g2 hfr hfc hy hyx k4 k4' b4 hiN
     unfold Lot.enc Lot.cells at r4
     go_wp2_with fail
     refine HFC.out.mono ?_
     rintro e wz ⟨rfl,rfl⟩
     clear HFC
     by_cases hq:x.qty=p.qty
     ·rw[Aa3 hq.symm] at hse
      have t2:(p.qty.toList != x.qty.toList)=false:=by rw[bne,hse];rfl
      have HLAE:Hid (tknO lz p=x):=by rw[Hid,Aqy HX.out.lot,if_pos hq]
      clear hq
      go_wp2_with (refine wpList_store_run r4 rfl _ _ rfl rfl rfl ?_)
      go_quiet (fail)
      have HB4:=hI (Acz HB4.out nq)
      have HO4:=hI (Anz HO4.out (Acz (Below.refl _ w4) nq))
      have HX4:Hid (LotBox (w4.drewN nq) Bo x):=HX4.out
      clear r4 hW3 hBo c0 c1 c2 c3 c4 c5 c6 d0 d1 p0 p1 x0 x1 x2 x3 x4 x5 x6 hse t2
      generalize w4.drewN nq=w4 at *
      obtain⟨W7,hW7⟩:∃W7,w4.alloc (.cells x.cells 38)=W7:=⟨_,rfl⟩
      have b7:Below w4.heap.size w4 W7:=by rw[←hW7];exact (Below.refl _ w4).alloc (Aad _) _
      have k7:LotBox W7 w4.heap.size x:=by rw[←hW7];exact Aa5 w4 _
      have hb7:=HB4.out.trans (b7.mono HB4.out.size)
      obtain⟨v8',w8,r8,o8,g8,_⟩:=Aux W7 wo.heap.size _ k _ x w4.heap.size 1 (Anz HO4.out b7) k7 (by omega) hb7.size
      have hf:w8.ownsRow wo.heap.size 38 7 v8' (k+1) (flatV (Aqz lz (ps.take (k+1))))∧Below wo.heap.size wo w8:=by
       refine⟨?_,hb7.grown g8 hb7.size (fun j e=>((Anz HO4.out b7).lt j e).1)⟩
       rw[HTKN.out,HLAE.out,Ar8,Auz]
       exact o8
      have HFN:=hI hf
      have hla:=HX4.out
      obtain⟨b0,b1,b2,b3,b4,b5,b6⟩:=lbc hla
      clear b7 k7 hb7 o8 g8 hf hla
      unfold Lot.cells at hW7
      go_wp2_with (at_builtin;refine Lib.wpList_append_run _ rfl _ _ _ _ rfl _ _ rfl rfl _ _ r8 ?_)
      clear r8 hW7 b0 b1 b2 b3 b4 b5 b6
      go_roundw
      case rel=>exact⟨k+1,_,by go_num,rfl,by omega,HFN.out.1,HFN.out.2⟩
      case measure=>simp[intOf];omega
     ·rw[Aa4 (fun e=>hq e.symm)] at hse
      have t2:(p.qty.toList != x.qty.toList)=true:=by rw[bne,hse];rfl
      have hxo:=lchk_zero.1 (HALL.out.ok x HXM.out)
      have hlt2:=pk_lt hxo HX.out hq
      obtain⟨LA,hLA⟩:∃LA,cutA x p.qty=LA:=⟨_,rfl⟩
      obtain⟨LB,hLB⟩:∃LB,cutB x p.qty=LB:=⟨_,rfl⟩
      have HLAE:Hid (tknO lz p=LA):=by rw[Hid,Aqy HX.out.lot,if_neg hq,hLA]
      have hct:=fun W hW=>HCT.out x p.qty (HTZ.out x HXM.out) hxo HX.out.can (HQ13.out p HPM.out) HX.out.pos hlt2 W hW
      rw[hLA,hLB] at hct
      unfold Lot.enc Lot.cells at hct
      clear hq hxo hlt2 hLA hLB
      go_wp2_with (refine wpList_store_run r4 rfl _ _ rfl rfl rfl ?_)
      go_quiet (fail)
      have HG5:=hI (Acz HG4.out nq)
      have HX5:Hid (LotBox (w4.drewN nq) Bo x):=HX4.out
      have HCUT:=hI (fun W (hW:Below wr.heap.size wr W)=>hct W (HBW.out.trans (hW.mono HBW.out.size)))
      clear r4 hW3 hBo c0 c1 c2 c3 c4 c5 c6 d0 d1 p0 p1 x0 x1 x2 x3 x4 x5 x6 hse t2 hct HB4 HO4 HX4 HG4 HBW4
      generalize w4.drewN nq=w5 at *
      go_upto_region 20 with fail
      have hgS:Below wr.heap.size wr w5.drew:=HG5.out.drew
      have hbS:LotBox w5.drew Bo x:=HX5.out
      have mixed:Tryz.prog.follows .mixedOrders=true:=by kernel_rfl
      refine wp_region_any mixed (Akw (R6J wr p x LA LB adp P cp k Bo _ _ _ _ _ _ _ _ _ _ _ _ _ _ _ _ _ _ _ _ _ _ _ _ _ _ _ _ _ _ _ _ _ _ _ _ _ _ _ _ _ _ _ _ _ _ _ _ _ _ _ _ _ _ _ _ _ _ _ _ _ _ _ _ _ _ _ _ _ _ _ _ _ _ _ _ _ _ _ _ _ _ _ _ _ _ _ _ _ _ _ _ _ _ _ _ _ _ _) ?stR6 ?dnR6 _ _ _ _ ⟨by simp,⟨_,_,_,_,_,_,_,_,_,_,_,rfl,fun h=>by simp at h,fun h=>by simp at h,fun h=>by simp at h,fun h=>by simp at h,fun h=>by simp at h,fun h=>by simp at h,fun h=>by simp at h,fun h=>by simp at h,fun h=>by simp at h,fun h=>by simp at h,fun h=>by simp at h,hgS,fun _=>hbS,fun h=>by simp at h,fun h=>by simp at h⟩⟩ (by decide))
      case dnR6 =>
       intro L a w' hj hr
       have all:=Akv hr hj.sz (by kernel_rfl)
       obtain⟨s96,s97,s98,s99,s100,s101,s102,s103,s104,s105,s106,rfl,hv⟩:=hj.fr
       have hg:=hv.g
       have hla:=hv.by' (all 11 (by omega))
       have HB6:=hI (HBR.out.trans (hg.mono HBR.out.size))
       have HO6:=hI (Anz HOWN.out hg)
       have HLA6:=hI hla
       clear all hv hj hr hg hla HCUT HPA HOWN HBR
       dsimp only
       obtain⟨W7,hW7⟩:∃W7,w'.alloc (.cells LA.cells 38)=W7:=⟨_,rfl⟩
       have b7:Below w'.heap.size w' W7:=by rw[←hW7];exact (Below.refl _ w').alloc (Aad _) _
       have k7:LotBox W7 w'.heap.size LA:=by rw[←hW7];exact Aa5 w' _
       have hb7:=HB6.out.trans (b7.mono HB6.out.size)
       obtain⟨v8',w8,r8,o8,g8,_⟩:=Aux W7 wo.heap.size _ k _ LA w'.heap.size 1 (Anz HO6.out b7) k7 (by omega) hb7.size
       have hf:w8.ownsRow wo.heap.size 38 7 v8' (k+1) (flatV (Aqz lz (ps.take (k+1))))∧Below wo.heap.size wo w8:=by
        refine⟨?_,hb7.grown g8 hb7.size (fun j e=>((Anz HO6.out b7).lt j e).1)⟩
        rw[HTKN.out,HLAE.out,Ar8,Auz]
        exact o8
       have HFN:=hI hf
       have hla:=HLA6.out
       obtain⟨b0,b1,b2,b3,b4,b5,b6⟩:=lbc hla
       clear b7 k7 hb7 o8 g8 hf hla
       unfold Lot.cells at hW7
       go_wp2_with (at_builtin;refine Lib.wpList_append_run _ rfl _ _ _ _ rfl _ _ rfl rfl _ _ r8 ?_)
       clear r8 hW7 b0 b1 b2 b3 b4 b5 b6
       go_roundw
       case rel=>exact⟨k+1,_,by go_num,rfl,by omega,HFN.out.1,HFN.out.2⟩
       case measure=>simp[intOf];omega
      case stR6 =>
       intro L a w' hj i hi
       obtain⟨hun,o,ho,hall⟩:=mem_ready.1 hi
       have hoff:=Akk hun
       have hlt:=(Aab.1 ho).1
       simp at hlt
       obtain⟨s96,s97,s98,s99,s100,s101,s102,s103,s104,s105,s106,rfl,hv⟩:=hj.fr
       have HV:=hI hv
       have HJ:=hI hj
       clear hv hj
       rcases (show i=0∨i=1∨i=2∨i=3∨i=4∨i=5∨i=6∨i=7∨i=8∨i=9∨i=10∨i=11 from by omega) with rfl|rfl|rfl|rfl|rfl|rfl|rfl|rfl|rfl|rfl|rfl|rfl
       all_goals simp at ho
       all_goals subst ho
       have h11:L.getD 11 false=false:=(Akr L 11).resolve_right (fun h=>Akq hoff (HV.out.q11 h))
       have hb:=HV.out.bx h11
       obtain⟨b0,b1,b2,b3,b4,b5,b6⟩:=lbc hb
       clear hb
       rotate_left
       rotate_left
       rotate_left
       cases HV.out.k1 (Hq hall 1).out
       cases HV.out.k2 (Hq hall 2).out
       have hkp:=HKP2.out
       rotate_left
       cases HV.out.k3 (Hq hall 3).out
       rotate_left
       cases HV.out.k4 (Hq hall 4).out
       have hp1:=HPA.out.1.below HV.out.g HPA.out.2
       obtain⟨p0,p1⟩:=hp1
       rotate_left
       ·cases HV.out.k0 (Hq hall 0).out
        cases HV.out.k5 (Hq hall 5).out
        clear hall hi
        refine Akt rfl fun K' HK=>?_
        go_simp
        refine (HCUT.out w' HV.out.g).mono ?_
        rintro e wn ⟨rfl,bn⟩
        cases HV.out
        refine HK.out _ _ ⟨by simp[HJ.out.sz],⟨_,_,_,_,_,_,_,_,_,_,_,rfl,?_,?_,?_,?_,?_,?_,fun _=>rfl,?_,?_,?_,?_,HV.out.g.trans (bn.mono HV.out.g.size),fun h=>(HV.out.bx (Dz h)).below bn,fun h=>(HV.out.by' (Uz h)).below bn,fun h=>Akm hun (HV.out.q11 (Uz h))⟩⟩
        all_goals exact Um (by assumption)
       cases HV.out.k6 (Hq hall 6).out
       rotate_left
       cases HV.out.k7 (Hq hall 7).out
       rotate_left
       cases HV.out.k7 (Hq hall 7).out
       rotate_left
       cases HV.out.k7 (Hq hall 7).out
       rotate_left
       ·have H0:=Hq hall 0
        cases HV.out.k8 (Hq hall 8).out
        clear hall hi
        have HBX:=hI (HV.out.bx hoff)
        refine Akt rfl fun K' HK=>?_
        refine Avb (run_store_row w' Bo 7 38 _ LA.cells (by kernel_rfl) HBX.out rfl rfl (Apt LA)) rfl _ _ rfl rfl rfl ?_
        go_simp
        cases HV.out
        refine HK.out _ _ ⟨by simp[HJ.out.sz],⟨_,_,_,_,_,_,_,_,_,_,_,rfl,?_,?_,?_,?_,?_,?_,?_,?_,?_,?_,?_,below_setRow HV.out.g HBQ.out _,fun h=>(Akq h (Aki hun)).elim,fun _=>setRow_heap _ _ _ _ _ _ HBX.out,fun _=>Akm hun H0.out⟩⟩
        all_goals exact Um (by assumption)
       all_goals
        clear hall hi
        refine Akt rfl fun K' HK=>?_
        go_simp
        cases HV.out
        refine HK.out _ _ ⟨by simp[HJ.out.sz],?_⟩
        iterate 11 apply Exists.intro
        refine⟨rfl,?_⟩
        constructor
        all_goals first|exact Um (by assumption)|exact Un (by assumption)|exact Uf (by assumption)|exact fun _=>rfl|assumption|exact Uq hun (by assumption)|exact Uq2 hun (by assumption)|exact Uq3 hun (by assumption)
    ·have hcx:decide ((k:Int)<(P:Int))=false:=by simp;omega
     have hcx2:decide (k<P)=false:=Aa4 (by omega)
     have hkp:ps.take k=ps:=Aai (by rw[HP.out];exact hge)
     have ho:=HOWN.out
     rw[hkp] at ho
     obtain⟨s2,hs2⟩:=sl_of (Aqz lz ps) (fun l hl=>(Arr HALL.out HTZ.out HOK.out HQ13.out hl).sized)
     have hl2:s2.length=k:=by
      have h:(Aqz lz ps).length=ps.length:=by unfold Aqz;rw[Aar]
      rw[←hs2,Aar] at h
      have:=HP.out
      omega
     rw[←hs2,Asc,←hl2] at ho
     have hnil2:∀A2 c2,v9=.slice A2 s2.length c2→A2=none→s2.length=0∧c2=0:=fun A1 c1 hv h1=>by
      rcases ho.2 with⟨h,h2⟩|⟨g,cap,cur,h,_⟩
      ·rw[h] at hv;injection hv with _ _ h3;exact⟨h2,h3.symm⟩
      ·rw[h] at hv;injection hv with h3 _ _;rw[h1] at h3;cases h3
     obtain⟨A2,c2,rfl,hc2,_,hr2⟩:=RdB.of_own ho
     have hfin:Auu w lz ps (.returned (.tuple #[.slice A1 M c1,.slice A2 s2.length c2,.int .i64 0])) wr:=by
      obtain⟨q1,q2,q3,q4⟩:=HR1.out
      exact⟨A1,c1,s1,A2,c2,s2,by rw[HE.out,HM.out],HBW.out,(q1.below HBR.out).wid HBR.out.size,hr2,q2,hc2,q3,hnil2 A2 c2 rfl,(fun h=>absurd HE.out h),fun _=>⟨q4,hs2⟩⟩
     have HFIN:=hI hfin
     clear hfin ho hkp hs2 hl2 hnil2 hc2 hr2
     go_wp2_with fail
     go_ret3
     exact HFIN.out
structure OutK(W:World)(A:Option Addr)(c:Nat)(out:Am):Prop where
 rd:RdK W.heap.size W A (pksOf out)
 cap:(pksOf out).length≤c
 nil:A=none→(pksOf out).length=0∧c=0
theorem OutK.below{W W':World}{A:Option Addr}{c:Nat}{out:Am}(h:OutK W A c out)(hb:Below W.heap.size W W'):OutK W' A c out:=⟨(h.rd.below hb).mono hb.size,h.cap,h.nil⟩
theorem OutK.start(W:World):OutK W none 0 []:=⟨RdK.nil _ _ _,Aad _,fun _=>⟨rfl,rfl⟩⟩
theorem Ave{own:List Lot}{q0:Int}{st:Am×Int}(h:InvA own q0 st){x:Lot}(hx:x∈own){mo:Int}(hm:0≤mo):tk st x mo=(putA st.1 x.id (tkN st x mo),st.2-tkN st x mo):=tk_ref h hx hm
theorem Avf{own:List Lot}{q:ByteArray}(hq:q.size≤1000){st:Am×Int}(hinv:InvA own (vl q) st)(hos:∀y∈own,y.sized){x:Lot}(hx:x∈own){mo:Int}(hmo:0≤mo):
 (I st.2).size≤2000∧(I (amt st.1 x.id)).size≤2000∧(I (vl x.qty-amt st.1 x.id)).size≤2000∧(I (tkN st x mo)).size≤2000∧∀a∈st.1,(I a.2).size≤2000:=by
 have hxq:=(hos x hx).2.2.1
 have h1:=hinv.le x hx
 have h2:=hinv.nn x.id
 have h3:=Aqk hinv hx hmo
 have h4:=@Aqj st x mo
 have h5:=hinv.q_le
 refine⟨Aap (Auh hinv.q hinv.q_le) (by omega),Aap (Auh (a:=x.qty) h2 h1) (by omega),Aap (Auh (a:=x.qty) (by omega) (by omega)) (by omega),Aap (Auh (a:=q) h3 (by omega)) (by omega),fun a ha=>?_⟩
 obtain⟨y,hy,e⟩:=hinv.sub a ha
 have hyq:=(hos y hy).2.2.1
 have h3:=hinv.le y hy
 rw[e,Aqh hinv.nd ha] at h3
 exact Aap (Auh (a:=y.qty) (Int.le_of_lt (hinv.pos a ha)) h3) (by omega)
theorem Avg(a b:Int):(if vl (I a)<vl (I b) then I a else I b)=I (min a b):=by
 rw[vl_I,vl_I]
 by_cases h:a<b
 ·rw[if_pos h,Int.min_eq_left (by omega)]
 ·rw[if_neg h,Int.min_eq_right (by omega)]
theorem Avh{own:List Lot}{st:Am×Int}{p:Pk}{x:Lot}(h:lotOf own p.lot=some x):tkP own st p=tk st x (vl p.qty):=by unfold lotOf at h;unfold tkP;rw[h]
theorem Avi{own:List Lot}{st:Am×Int}{p:Pk}(h:lotOf own p.lot=none):tkP own st p=st:=by unfold lotOf at h;unfold tkP;rw[h]
theorem Avj(S:List Lot)(x:Lot)(st:Am×Int):tkAll (S++[x]) st=tk (tkAll S st) x (vl x.qty):=by unfold tkAll;rw[List.foldl_append];rfl
theorem Avk{p:Pk}(h:¬(Can p.qty∧0<vl p.qty)):badP p=true:=by
 cases hb:badP p
 ·exact (h (At6 hb)).elim
 ·rfl
theorem badP_ok{p:Pk}(h1:Can p.qty)(h2:0<vl p.qty):badP p=false:=by
 unfold badP
 rw[Aa3 (show I (vl p.qty)=p.qty from h1),Aa3 h2];rfl
structure CAV(wS:World)(x:Lot)(ad:Addr)(M cs i No co:Nat)(Ao:Option Addr)(am lf qv n:Int)  (L:Array Bool) (W:World) (s20 s94 s95 s96 s97 s98 s99 s100 s101 s102 s103 s104 s105 s106:Value):Prop where
 k0:L.getD 0 false=true→s94=.slice (some ad) M cs
 k1:L.getD 1 false=true→s95=.int .i64 (i:Int)
 k2:L.getD 2 false=true→s96=.pointer (some (ad.add (i*7)))
 k3:L.getD 3 false=true→s97=.pointer (some ⟨(ad.add (i*7)).block,(ad.add (i*7)).off+4,none⟩)
 k4:L.getD 4 false=true→s98=.string x.qty
 k5:L.getD 5 false=true→s99=.slice Ao No co
 k6:L.getD 6 false=true→s100=.slice (some ad) M cs
 k7:L.getD 7 false=true→s101=.int .i64 (i:Int)
 k8:L.getD 8 false=true→s102=.pointer (some (ad.add (i*7)))
 k9:L.getD 9 false=true→s103=.pointer (some (ad.add (i*7)))
 k10:L.getD 10 false=true→s104=.string x.id
 k11:L.getD 11 false=true→s105=.string (I am)
 k12:L.getD 12 false=true→s106=.string (I lf)
 k13:L.getD 13 false=true→s20=.string (I lf)
 g:Below wS.heap.size wS W
structure CAJ(wS:World)(x:Lot)(ad:Addr)(M cs i No co:Nat)(Ao:Option Addr)(am lf qv n:Int)(x0 x1 x2 x3 x4 x5 x6 x7 x8 x9 x10 x11 x12 x13 x14 x17 x19 x21 x22 x23 x24 x25 x26 x27 x28 x29 x30 x31 x32 x33 x34 x35 x36 x37 x38 x39 x40 x41 x42 x43 x44 x45 x46 x47 x48 x49 x50 x51 x52 x53 x54 x55 x56 x57 x58 x59 x60 x61 x62 x63 x64 x65 x66 x67 x68 x69 x70 x71 x72 x73 x74 x75 x76 x77 x78 x79 x80 x81 x82 x83 x84 x85 x86 x87 x88 x89 x90 x91 x92 x93 x107 x108 x109 x110 x111 x112 x113 x114 x115 x116 x117 x118 x119 x120 x121 x122 x123 x124 x125 x126 x127 x128 x129 x130 x131 x132 x133 x134 x135 x136 x137 x138 x139 x140 x141 x142 x143 x144 x145 x146 x147 x148 x149 x150 x151 x152 x153 x154 x155 x156 x157 x158 x159:Value)(L:Array Bool)(a:Act)(W:World):Prop where
 sz:L.size=14
 fr:∃s20 s94 s95 s96 s97 s98 s99 s100 s101 s102 s103 s104 s105 s106:Value,a={tmps:=#[x0,x1,x2,x3,x4,x5,x6,x7,x8,x9,x10,x11,x12,x13,x14,.slice (some ad) M cs,.slice Ao No co,x17,.int .i64 (i:Int),x19,s20,x21,x22,x23,x24,x25,x26,x27,x28,x29,x30,x31,x32,x33,x34,x35,x36,x37,x38,x39,x40,x41,x42,x43,x44,x45,x46,x47,x48,x49,x50,x51,x52,x53,x54,x55,x56,x57,x58,x59,x60,x61,x62,x63,x64,x65,x66,x67,x68,x69,x70,x71,x72,x73,x74,x75,x76,x77,x78,x79,x80,x81,x82,x83,x84,x85,x86,x87,x88,x89,x90,x91,x92,x93,s94,s95,s96,s97,s98,s99,s100,s101,s102,s103,s104,s105,s106,x107,x108,x109,x110,x111,x112,x113,x114,x115,x116,x117,x118,x119,x120,x121,x122,x123,x124,x125,x126,x127,x128,x129,x130,x131,x132,x133,x134,x135,x136,x137,x138,x139,x140,x141,x142,x143,x144,x145,x146,x147,x148,x149,x150,x151,x152,x153,x154,x155,x156,x157,x158,x159],defers:=[]}∧CAV wS x ad M cs i No co Ao am lf qv n  L W s20 s94 s95 s96 s97 s98 s99 s100 s101 s102 s103 s104 s105 s106
structure CBV(wS:World)(x:Lot)(ad:Addr)(M cs i No co:Nat)(Ao:Option Addr)(am lf qv n:Int)  (L:Array Bool) (W:World) (s23 s133 s134 s135 s136 s137 s138 s139 s140 s141 s142 s143 s144 s145 s146 s147:Value):Prop where
 k0:L.getD 0 false=true→s133=.slice (some ad) M cs
 k1:L.getD 1 false=true→s134=.int .i64 (i:Int)
 k2:L.getD 2 false=true→s135=.pointer (some (ad.add (i*7)))
 k3:L.getD 3 false=true→s136=.pointer (some ⟨(ad.add (i*7)).block,(ad.add (i*7)).off+4,none⟩)
 k4:L.getD 4 false=true→s137=.string x.qty
 k5:L.getD 5 false=true→s138=.slice Ao No co
 k6:L.getD 6 false=true→s139=.slice (some ad) M cs
 k7:L.getD 7 false=true→s140=.int .i64 (i:Int)
 k8:L.getD 8 false=true→s141=.pointer (some (ad.add (i*7)))
 k9:L.getD 9 false=true→s142=.pointer (some (ad.add (i*7)))
 k10:L.getD 10 false=true→s143=.string x.id
 k11:L.getD 11 false=true→s144=.string (I am)
 k12:L.getD 12 false=true→s145=.string (I lf)
 k13:L.getD 13 false=true→s146=.string (I qv)
 k14:L.getD 14 false=true→s147=.string (I n)
 k15:L.getD 15 false=true→s23=.string (I n)
 g:Below wS.heap.size wS W
structure CBJ(wS:World)(x:Lot)(ad:Addr)(M cs i No co:Nat)(Ao:Option Addr)(am lf qv n:Int)(x0 x1 x3 x4 x5 x6 x7 x8 x9 x10 x11 x12 x13 x14 x17 x18 x19 x20 x21 x24 x25 x26 x27 x28 x29 x30 x31 x32 x33 x34 x35 x36 x37 x38 x39 x40 x41 x42 x43 x44 x45 x46 x47 x48 x49 x50 x51 x52 x53 x54 x55 x56 x57 x58 x59 x60 x61 x62 x63 x64 x65 x66 x67 x68 x69 x70 x71 x72 x73 x74 x75 x76 x77 x78 x79 x80 x81 x82 x83 x84 x85 x86 x87 x88 x89 x90 x91 x92 x93 x94 x95 x96 x97 x98 x99 x100 x101 x102 x103 x104 x105 x106 x107 x108 x109 x110 x111 x112 x113 x114 x115 x116 x117 x118 x119 x120 x121 x122 x123 x124 x125 x126 x127 x128 x129 x130 x131 x132 x148 x149 x150 x151 x152 x153 x154 x155 x156 x157 x158 x159:Value)(L:Array Bool)(a:Act)(W:World):Prop where
 sz:L.size=16
 fr:∃s23 s133 s134 s135 s136 s137 s138 s139 s140 s141 s142 s143 s144 s145 s146 s147:Value,a={tmps:=#[x0,x1,.string (I qv),x3,x4,x5,x6,x7,x8,x9,x10,x11,x12,x13,x14,.slice (some ad) M cs,.slice Ao No co,x17,x18,x19,x20,x21,.int .i64 (i:Int),s23,x24,x25,x26,x27,x28,x29,x30,x31,x32,x33,x34,x35,x36,x37,x38,x39,x40,x41,x42,x43,x44,x45,x46,x47,x48,x49,x50,x51,x52,x53,x54,x55,x56,x57,x58,x59,x60,x61,x62,x63,x64,x65,x66,x67,x68,x69,x70,x71,x72,x73,x74,x75,x76,x77,x78,x79,x80,x81,x82,x83,x84,x85,x86,x87,x88,x89,x90,x91,x92,x93,x94,x95,x96,x97,x98,x99,x100,x101,x102,x103,x104,x105,x106,x107,x108,x109,x110,x111,x112,x113,x114,x115,x116,x117,x118,x119,x120,x121,x122,x123,x124,x125,x126,x127,x128,x129,x130,x131,x132,s133,s134,s135,s136,s137,s138,s139,s140,s141,s142,s143,s144,s145,s146,s147,x148,x149,x150,x151,x152,x153,x154,x155,x156,x157,x158,x159],defers:=[]}∧CBV wS x ad M cs i No co Ao am lf qv n  L W s23 s133 s134 s135 s136 s137 s138 s139 s140 s141 s142 s143 s144 s145 s146 s147
theorem Avm(n₀:Nat)(A:Option Addr)(ls:List SLot)(c:Nat)(hc:ls.length≤c)(hlen:ls.length≤10000)(hti:∀l∈ls,l.1.tiny)(s q:ByteArray)(hq:q.size≤1000)(m:Int)(Ap:Option Addr)(ps:List Pk)(cp:Nat)(hpl:ps.length≤10000)(hps:∀p∈ps,p.qty.size≤1000)(w:World)
 (hR:RdB n₀ w A ls) (hn:n₀≤w.heap.size) (hK:RdK n₀ w Ap ps) :
 Calls Tryz.prog 32 #[.slice A ls.length c,.string s,.string q,.int .i64 m,.slice Ap ps.length cp] w (Auf w (ls.map Subtype.val) s q m ps):=by
 obtain⟨lz,hlz⟩:∃lz,ls.map Subtype.val=lz:=⟨_,rfl⟩
 have hNm:lz.length=ls.length:=by rw[←hlz,Aar]
 have HCA:=Anp A (ls.map Subtype.val) c (by rw[Aar];exact hc) (by rw[Aar];omega) (fun l hl=>by obtain⟨y,hy,rfl⟩:=List.mem_map.1 hl;exact hti y hy) w ((hR.rdb').rdl hn)
 have HTO:=fun W (hW:Below w.heap.size w W)=>Api W.heap.size A ls c s W (by omega) ((hR.below (hW.mono hn)).wid (Aap hn hW.size)) (Aad _)
 have HOF:=fun W (hW:Below w.heap.size w W)=>Apj n₀ A ls c s W (by omega) (hR.below (hW.mono hn)) (Aap hn hW.size)
 have htot:sumBy qtyOf (ownL ls s)=totQ (ownB lz s):=by rw[←hlz,←Are,Arg]
 rw[htot] at HTO
 rw[hlz,hNm] at HCA
 rw[hlz]
 have HLZ:=hI hlz
 have HKP:=hI hK
 have HPS:=hI hps
 have HNn:=hI hn
 have HQS:=hI hq
 have HLL:Hid (ls.length≤10000∧ps.length≤10000):=⟨hlen,hpl⟩
 have HKN:=hI (fun W=>As7 m W)
 obtain⟨N,hN⟩:∃N,ls.length=N:=⟨_,rfl⟩
 obtain⟨P,hP⟩:∃P,ps.length=P:=⟨_,rfl⟩
 rw[hN] at HCA HTO HOF ⊢
 rw[hP] at ⊢
 replace HCA:=hI HCA
 replace HTO:=hI HTO
 replace HOF:=hI HOF
 have HN:=hI hN
 have HP:=hI hP
 clear hR hn hK hc hlen hq hpl hps hlz hNm htot hti hN hP
 go_enter Tryz.func32,Tryz.ntmps32
 go_wp2_with fail
 refine HCA.out.mono ?_
 rintro e w1 ⟨rfl,b1⟩
 have HB1:=hI b1
 clear b1 HCA
 by_cases h0:lall lz=0
 case neg =>
  have t1:(lall lz==0)=false:=Aaj.2 h0
  have t2:(lall lz != 0)=true:=by rw[bne,t1];rfl
  have HE:=hI (At9 (lz:=lz) (s:=s) (q:=q) (m:=m) (ps:=ps) (.inl h0))
  clear h0
  go_wp2_with fail
  go_ret2
  exact Aug HE.out (by decide) HB1.out
 have H0:=hI h0
 rw[h0]
 clear h0
 by_cases hcq:Can q
 case neg =>
  have HC:=hI (Ag7 q (by have:=HQS.out;omega) hcq w1)
  have HE:=hI (At9 (lz:=lz) (s:=s) (q:=q) (m:=m) (ps:=ps) (.inr hcq))
  clear hcq
  go_wp2_with fail
  refine HC.out.mono ?_
  rintro e w2 ⟨rfl,rfl⟩
  go_wp2_with fail
  go_ret2
  exact Aug HE.out (by decide) HB1.out
 have HC:=hI (Ag6 q (by have:=HQS.out;omega) hcq w1)
 have HCQ:=hI hcq
 clear hcq
 go_wp2_with fail
 refine HC.out.mono ?_
 rintro e w2 ⟨rfl,rfl⟩
 clear HC
 go_upto_if 33 with fail
 go_cut [4] (fun v wx=>∃(A':Option Addr) (c':Nat) (ps':List Pk),v=.slice A' ps'.length c'∧ps'=(if m=5 then ps else [])∧RdK n₀ w A' ps'∧w1=wx)
 case first =>
  by_cases hm5:m=5
  ·have t1:(m==5)=true:=beq_iff_eq.2 hm5
   have t2:(m != 5)=false:=by rw[bne,t1];rfl
   have HM5:=hI hm5
   clear hm5
   go_wp2_with fail
   go_meet
   case rel=>exact⟨Ap,cp,ps,by rw[HP.out],(if_pos HM5.out).symm,HKP.out,rfl⟩
  ·have t1:(m==5)=false:=Aaj.2 hm5
   have t2:(m != 5)=true:=by rw[bne,t1];rfl
   have HM5:=hI hm5
   clear hm5
   go_wp2_with fail
   go_meet
   case rel=>exact⟨none,0,[],rfl,(if_neg HM5.out).symm,RdK.nil _ _ _,rfl⟩
 case rest =>
 obtain⟨A',c',ps',rfl,hps',hk',rfl⟩:=hcut
 have HPE:=hI hps'
 have HK':=hI hk'
 have hpl':ps'.length≤10000:=by rw[hps'];split;exact HLL.out.2;exact Nat.zero_le _
 have HPS':Hid (∀p∈ps',p.qty.size≤1000):=fun p hp=>by
  rw[hps'] at hp
  split at hp
  ·exact HPS.out p hp
  ·cases hp
 have HANY:Hid ((m=5∧ps.any badP=true)↔ps'.any badP=true):=by
  rw[Hid,hps']
  by_cases h:m=5
  ·rw[if_pos h];exact⟨fun x=>x.2,fun x=>⟨h,x⟩⟩
  ·rw[if_neg h];exact⟨fun x=>(h x.1).elim,fun x=>(Aaz x).elim⟩
 have HFO:Hid (ps'.foldl (tkP (ownB lz s)) ([],vl q)=if m=5 then ps.foldl (tkP (ownB lz s)) ([],vl q) else ([],vl q)):=by
  rw[Hid,hps']
  split<;>rfl
 obtain⟨P',hP'⟩:∃P',ps'.length=P':=⟨_,rfl⟩
 rw[hP'] at hpl' ⊢
 have HP':=hI hP'
 clear hps' hk' hP' HPS HKP HP
 go_wp2_with fail
 go_loop [12] (fun v=>∃k:Nat,v=.int .i64 (k:Int)∧k≤P'∧∀p∈ps'.take k,badP p=false) (fun v=>P'-(intOf v).toNat)
 case atStart=>exact⟨0,rfl,by omega,fun x hx=>by simp at hx⟩
 case round =>
  obtain⟨k,rfl,hk,hx⟩:=hrel
  have HX:=hI hx
  clear hx
  rcases Aam k P' with hlt|hge
  ·obtain⟨p,hp⟩:∃p,ps'[k]?=some p:=⟨_,Aae (by rw[HP'.out];exact hlt)⟩
   obtain⟨ad,rfl,had,hcell⟩:=HK'.out (by intro e;rw[e] at hp;cases hp)
   have hcx:decide ((k:Int)<(P':Int))=true:=by simp;omega
   obtain⟨c0,c1⟩:=(hcell k p hp).below (HB1.out.mono HNn.out) (by rw[Acv];exact had)
   have HTKN:=hI (Amq hp)
   have HPM:=hI (Aas hp)
   have hpz:=HPS'.out p (Aas hp)
   clear hcell hp
   by_cases hcp:Can p.qty
   case neg =>
    have HC:=hI (Ag7 p.qty (by omega) hcp w1)
    have HE:=hI (Aua (s:=s) H0.out HCQ.out (HANY.out.2 (List.any_eq_true.2 ⟨p,HPM.out,Avk (fun h=>hcp h.1)⟩)))
    clear hcp
    go_wp2_with fail
    refine HC.out.mono ?_
    rintro e w2 ⟨rfl,rfl⟩
    go_wp2_with fail
    go_ret2
    exact Aug HE.out (by decide) HB1.out
   have HC:=hI (Ag6 p.qty (by omega) hcp w1)
   have HCP:=hI hcp
   have HPO:=hI (As5 p.qty (by omega) w1)
   clear hcp
   go_wp2_with fail
   refine HC.out.mono ?_
   rintro e w2 ⟨rfl,rfl⟩
   go_wp2_with fail
   refine HPO.out.mono ?_
   rintro e w2 ⟨rfl,rfl⟩
   clear HC HPO
   by_cases h0:0<vl p.qty
   case neg =>
    have HE:=hI (Aua (s:=s) H0.out HCQ.out (HANY.out.2 (List.any_eq_true.2 ⟨p,HPM.out,Avk (fun h=>h0 h.2)⟩)))
    rw[Aa4 h0]
    clear h0
    go_wp2_with fail
    go_ret2
    exact Aug HE.out (by decide) HB1.out
   rw[Aa3 h0]
   have HPB:=hI (badP_ok HCP.out h0)
   clear h0
   go_wp2_with fail
   go_round
   case rel =>
    refine⟨k+1,by go_num,by omega,fun x hx=>?_⟩
    rw[HTKN.out,List.mem_append] at hx
    rcases hx with hx|hx
    ·exact HX.out x hx
    ·rw[List.mem_singleton] at hx;subst hx;exact HPB.out
   case measure=>simp[intOf];omega
  ·have hcx:decide ((k:Int)<(P':Int))=false:=by simp;omega
   have HVP:Hid (∀p∈ps',Can p.qty∧0<vl p.qty):=fun p hp=>At6 (HX.out p (by rw[Aai (by rw[HP'.out];exact hge)];exact hp))
   have HNB:Hid (¬(m=5∧ps.any badP=true)):=fun h=>by
    obtain⟨p,hp,hb⟩:=List.any_eq_true.1 (HANY.out.1 h)
    rw[HX.out p (by rw[Aai (by rw[HP'.out];exact hge)];exact hp)] at hb
    exact Aaz hb
   clear hk HX HANY
   go_wp2_with fail
   clear hcx hge
   refine (HKN.out w1).mono ?_
   rintro e wz ⟨rfl,rfl⟩
   by_cases hm:1≤m∧m≤6
   case neg =>
    have HE:=hI (Aub (s:=s) H0.out HCQ.out HNB.out hm)
    rw[Aa4 hm]
    clear hm
    go_wp2_with fail
    go_ret2
    exact Aug HE.out (by decide) HB1.out
   rw[Aa3 hm]
   have HM:=hI hm
   clear hm
   have HPO:=hI (As5 q (by have:=HQS.out;omega) w1)
   go_wp2_with fail
   refine HPO.out.mono ?_
   rintro e wz ⟨rfl,rfl⟩
   clear HPO HKN
   by_cases hp:0<vl q
   case neg =>
    have HE:=hI (Auc (s:=s) H0.out HCQ.out HNB.out HM.out (by omega))
    rw[Aa4 hp]
    clear hp
    go_wp2_with fail
    go_ret2
    exact Aug HE.out (by decide) HB1.out
   rw[Aa3 hp]
   have HPQ:=hI hp
   clear hp
   have HTOT:=hI (HTO.out w1 HB1.out)
   go_wp2_with fail
   refine HTOT.out.mono ?_
   rintro e w4 ⟨rfl,b4⟩
   have HB4:=hI (HB1.out.trans (b4.mono HB1.out.size))
   clear b4 HTOT HTO
   have hsz:(I (totQ (ownB lz s))).size≤1000000:=by
    have h:=Auj 1000 (Aad _) (ownL ls s) (by have:=Aj7 ls s ls.length;rw[List.take_length] at this;have:=HLL.out.1;omega)
    rw[Are,HLZ.out] at h
    omega
   have HCMP:=hI (Ahh (I (totQ (ownB lz s))) q hsz (by have:=HQS.out;omega) w4)
   rw[vl_I] at HCMP
   clear hsz
   go_wp2_with fail
   refine HCMP.out.mono ?_
   rintro e w5 ⟨rfl,rfl⟩
   clear HCMP
   by_cases hs:totQ (ownB lz s)<vl q
   case pos =>
    have t1:decide (cmpI (totQ (ownB lz s)) (vl q)<0)=true:=Aa3 (cmpI_lt.2 hs)
    have HE:=hI (Aud (s:=s) H0.out HCQ.out HNB.out HM.out HPQ.out hs)
    clear hs
    go_wp2_with fail
    go_ret2
    exact Aug HE.out (by decide) HB4.out
   have t1:decide (cmpI (totQ (ownB lz s)) (vl q)<0)=false:=Aa4 (fun x=>hs (cmpI_lt.1 x))
   have HE:=hI (Aue (s:=s) H0.out HCQ.out HNB.out HM.out HPQ.out (by omega))
   have HOFC:=hI (HOF.out w4 HB4.out)
   clear hs HOF
   go_wp2_with fail
   refine HOFC.out.mono ?_
   rintro e w6 ⟨A2,c2,rfl,hc2,_,hr2,b6⟩
   have HB6:=hI (HB4.out.trans (b6.mono HB4.out.size))
   have hol:(ownL ls s).length≤10000:=by have:=Aj7 ls s ls.length;rw[List.take_length] at this;have:=HLL.out.1;omega
   have HSOC:=hI (Atr w6.heap.size A2 (ownL ls s) c2 hol m w6 hr2 (Aad _))
   clear b6 hr2 hc2 HOFC t1
   go_wp2_with fail
   refine HSOC.out.mono ?_
   rintro e wb ⟨As,cs,rs,rfl,hso⟩
   have HBB:=hI (HB6.out.trans (hso.be.mono HB6.out.size))
   obtain⟨own,hown⟩:∃own,ownB lz s=own:=⟨_,rfl⟩
   have hsl:(ownL ls s).map Subtype.val=own:=by rw[Are,HLZ.out,hown]
   have hall:=(Apz lz).1 H0.out
   have hid0:(own.map Lot.id).Nodup:=by rw[←hown];exact Arf s hall.nd
   have hok:∀x∈own,x.ok:=fun x hx=>by rw[←hown] at hx;exact lchk_zero.1 (hall.ok x (ownB_mem.1 hx).1)
   have hsz:∀x∈own,x.sized:=fun x hx=>by rw[←hsl] at hx;obtain⟨y,_,rfl⟩:=List.mem_map.1 hx;exact y.2
   have hrs:rs.map Subtype.val=ordP m own:=by rw[hso.eq,hsl];exact Aqf m own (fun l hl=>(hok l hl).pq)
   obtain⟨S,hS⟩:∃S,ordP m own=S:=⟨_,rfl⟩
   rw[hS] at hrs
   have hpm:S.Perm own:=by rw[←hS];exact Aqc m own
   obtain⟨M,hM⟩:∃M,rs.length=M:=⟨_,rfl⟩
   have hSM:S.length=M:=by rw[←hrs,Aar,hM]
   have hMl:M≤10000:=by rw[←hSM,hpm.length_eq,←hsl,Aar];exact hol
   rw[hM]
   rw[hown] at HFO
   have HID:=hI hid0
   have HOVN:Hid ((∀x∈own,x.ok)∧∀x∈own,x.sized):=⟨hok,hsz⟩
   have HRS:=hI hso.rd
   have HRSV:=hI hrs
   have HMM:=hI hM
   have HSM:=hI hSM
   have HPM:=hI hpm
   have HSE:=hI hS
   have HOWD:=hI hown
   have HI0:=hI (InvA.start (own:=own) (Int.le_of_lt HPQ.out) (fun x hx=>(hok x hx).pq))
   have HFI:=hI (fun (id:ByteArray) W (hW:Below wb.heap.size wb W)=>Ak6 As (rs.map Subtype.val) M cs (by rw[Aar,hM];exact Aad _) (by rw[Aar];omega) id W (((hso.rd.below hW).rdb').rdl hW.size))
   rw[hrs,show S.take M=S from Aai (by rw[hSM];exact Aad _)] at HFI
   clear hso hsl hall hid0 hok hsz hrs hS hpm hM hSM hol HSOC HB6 HB4 HLZ hown HLL
   go_wp2_with fail
   go_loopw [2,16,17] (fun u o v wr=>∃(k:Nat) (st:Am×Int) (Ao:Option Addr) (co:Nat),v=.int .i64 (k:Int)∧k≤P'∧u=.string (I st.2)∧o=.slice Ao (pksOf st.1).length co∧st=(ps'.take k).foldl (tkP own) ([],vl q)∧InvA own (vl q) st∧st.1.length≤k∧OutK wr Ao co st.1∧Below wb.heap.size wb wr) (fun _ _ v _=>P'-(intOf v).toNat)
   case atStart=>exact⟨0,([],vl q),none,0,rfl,Nat.zero_le _,(by show Value.string q=Value.string (I (vl q));rw[show I (vl q)=q from HCQ.out]),rfl,rfl,HI0.out,Aad _,OutK.start _,Below.refl _ _⟩
   case round =>
    clear HI0
    obtain⟨k,st,Ao,co,rfl,hk,rfl,rfl,hst,hinv,hsl,hout,hb⟩:=hrel
    have HST:=hI hst
    have HINV:=hI hinv
    have HSLN:=hI hsl
    have HOK:=hI hout
    have HBR:=hI hb
    clear hst hinv hsl hout hb
    obtain⟨No,hNo⟩:∃No,(pksOf st.1).length=No:=⟨_,rfl⟩
    rcases Aam k P' with hlt|hge
    ·obtain⟨p,hp⟩:∃p,ps'[k]?=some p:=⟨_,Aae (by rw[HP'.out];exact hlt)⟩
     obtain⟨adp,rfl,hadp,hcell⟩:=HK'.out (by intro e;rw[e] at hp;cases hp)
     have hcx:decide ((k:Int)<(P':Int))=true:=by simp;omega
     have HKP:Hid ((k:Int)<(P':Int)):=by show (k:Int)<_;omega
     obtain⟨hcan,hpos⟩:=HVP.out p (Aas hp)
     have hbw:=HBB.out.trans (HBR.out.mono HBB.out.size)
     have hpa:=(hcell k p hp).below (hbw.mono HNn.out) (by rw[Acv];exact hadp)
     have HTKN:=hI (Amq hp)
     have HPZ:=hI (HPS'.out p (Aas hp))
     have HPC:Hid (p.qty=I (vl p.qty)):=hcan.symm
     have HPA:Hid (PkAt wr (adp.add (k*2)) p∧(adp.add (k*2)).block<wr.heap.size):=⟨hpa,by rw[Acv];exact Aah hadp (Aap HNn.out hbw.size)⟩
     obtain⟨c0,c1⟩:=hpa
     have HFC:=hI (HFI.out p.lot wr HBR.out)
     clear hcell hp hcan hbw hadp
     go_wp2_with fail
     refine HFC.out.mono ?_
     rintro e wz ⟨rfl,rfl⟩
     clear HFC c0 c1
     have hlp:=Atf HPM.out HID.out p.lot
     rcases hlo:lotOf S p.lot with _|x
     ·rw[Aqr hlo]
      rw[hlo] at hlp
      have HLO:=hI hlp.symm
      clear hlo hlp
      go_wp2_with fail
      go_roundw
      case rel=>exact⟨k+1,st,Ao,co,by go_num,by omega,rfl,by rw[hNo],by rw[HTKN.out,List.foldl_append,←HST.out];exact (Avi HLO.out).symm,HINV.out,by have:=HSLN.out;omega,HOK.out,HBR.out⟩
      case measure=>simp[intOf];omega
     rw[hlo] at hlp
     have HLO:=hI hlp.symm
     obtain⟨g1,g2⟩:=Aqq hlo
     have HXO:Hid (x∈own):=(Aqn hlp.symm).1
     generalize hfr:findR S p.lot 0=fr at g1 g2 ⊢
     obtain⟨i,is⟩:=fr
     obtain rfl:is=true:=g1
     dsimp only at g2
     have hiM:i<M:=by rw[←HSM.out];exact (Aak.1 g2).1
     have HKI:Hid ((i:Int)<(M:Int)):=by show (i:Int)<_;omega
     obtain⟨y,hy,hyx⟩:∃y:SLot,rs[i]?=some y∧y.1=x:=by
      have h:(rs.map Subtype.val)[i]?=some x:=by rw[HRSV.out];exact g2
      rw[List.getElem?_map] at h
      obtain⟨y,hy,e⟩:=Option.map_eq_some_iff.1 h
      exact⟨y,hy,e⟩
     obtain⟨ad,rfl,had,hcell2⟩:=HRS.out (by intro e;rw[e] at hy;cases hy)
     have hxa:=(hcell2 i y hy).below HBR.out (by rw[Acv];exact had)
     rw[hyx] at hxa
     have HXA:=hI hxa
     have HXL:Hid ((ad.add (i*7)).block<wr.heap.size):=by rw[Acv];exact Aah had HBR.out.size
     have HXC:Hid (LotAt wr.drew (ad.add (i*7)) x∧(ad.add (i*7)).block<wr.drew.heap.size):=⟨hxa.below (Below.refl _ _).drew HXL.out,HXL.out⟩
     have hpp:0≤vl p.qty:=Int.le_of_lt hpos
     have hxz:=(HOVN.out.2 x HXO.out).2.2.1
     have hl9:st.1.length≤100000:=by have:=HSLN.out;omega
     have hsz:=Avf HQS.out HINV.out HOVN.out.2 HXO.out (mo:=vl p.qty) hpp
     obtain⟨am,ham⟩:∃am,amt st.1 x.id=am:=⟨_,rfl⟩
     obtain⟨lf,hlf⟩:∃lf,vl x.qty-am=lf:=⟨_,rfl⟩
     obtain⟨n,hn⟩:∃n,tkN st x (vl p.qty)=n:=⟨_,rfl⟩
     have htk:=Ave HINV.out HXO.out (mo:=vl p.qty) hpp
     have hinv2:=HINV.out.tk HID.out HXO.out (vl p.qty)
     rw[hn] at htk hsz
     rw[ham,hlf] at hsz
     obtain⟨z1,z2,z3,z4,z5⟩:=hsz
     have HTK:=hI (And.intro htk hinv2)
     have htc:=fun W (hW:Below wr.drew.heap.size wr.drew W)=>Atb W.heap.size Ao (pksOf st.1) co (by rw[Atx];omega) x.id W (HOK.out.below (show Below wr.heap.size wr W from (Below.refl _ _).drew.trans hW)).rd
     rw[rtk_pks,ham] at htc
     have hsu:=fun W=>Aiz x.qty (I am) (by omega) (by omega) W
     rw[vl_I,hlf] at hsu
     have hadd:=fun W (h:OutK W Ao co st.1)=>Atz W.heap.size Ao st.1 co (by omega) h.cap h.nil x.id n z4 z5 W h.rd (Aad _)
     have hsq:=fun W=>Aiz (I st.2) (I n) (by omega) (by omega) W
     rw[vl_I,vl_I] at hsq
     have hl1:=fun W=>As6 (I (vl p.qty)) (I lf) (by rw[←HPC.out];have:=HPZ.out;omega) (by omega) W
     have hl2:=fun W=>As6 (I (min (vl p.qty) lf)) (I st.2) (Aap (Atc (k:=2000) (by rw[←HPC.out];have:=HPZ.out;omega) (by omega)) (by omega)) (by omega) W
     have hnn:min (min (vl p.qty) lf) st.2=n:=by rw[←hn,←hlf,←ham];rfl
     simp only[Avg] at hl1 hl2
     rw[hnn] at hl2
     have HTKC:=hI htc
     have HSUC:=hI hsu
     have HL1:=hI hl1
     have HL2:=hI hl2
     rw[hNo] at HTKC
     have HADD:=hI hadd
     rw[hNo] at HADD ⊢
     have HSUQ:=hI hsq
     clear hxz hl9 z1 z2 z3 z4 z5 ham hlf hn htk hinv2 htc hsu hadd hsq hl1 hl2 hnn hlo hlp g2 hfr hy hyx hcell2 had hxa hpp hpos
     go_upto_region 24 with fail
     have hgS:Below wr.drew.heap.size wr.drew wr.drew:=Below.refl _ _
     have mixed:Tryz.prog.follows .mixedOrders=true:=by kernel_rfl
     refine wp_region_any mixed (Akw (CAJ wr.drew x ad M cs i No co Ao am lf st.2 n _ _ _ _ _ _ _ _ _ _ _ _ _ _ _ _ _ _ _ _ _ _ _ _ _ _ _ _ _ _ _ _ _ _ _ _ _ _ _ _ _ _ _ _ _ _ _ _ _ _ _ _ _ _ _ _ _ _ _ _ _ _ _ _ _ _ _ _ _ _ _ _ _ _ _ _ _ _ _ _ _ _ _ _ _ _ _ _ _ _ _ _ _ _ _ _ _ _ _ _ _ _ _ _ _ _ _ _ _ _ _ _ _ _ _ _ _ _ _ _ _ _ _ _ _ _ _ _ _ _ _ _ _ _ _ _ _ _ _ _ _ _ _) ?stCA ?dnCA _ _ _ _ ⟨by simp,⟨_,_,_,_,_,_,_,_,_,_,_,_,_,_,rfl,fun h=>by simp at h,fun h=>by simp at h,fun h=>by simp at h,fun h=>by simp at h,fun h=>by simp at h,fun h=>by simp at h,fun h=>by simp at h,fun h=>by simp at h,fun h=>by simp at h,fun h=>by simp at h,fun h=>by simp at h,fun h=>by simp at h,fun h=>by simp at h,fun h=>by simp at h,hgS⟩⟩ (by decide))
     case dnCA =>
      intro L a w' hj hr
      have all:=Akv hr hj.sz (by kernel_rfl)
      obtain⟨s20,s94,s95,s96,s97,s98,s99,s100,s101,s102,s103,s104,s105,s106,rfl,hv⟩:=hj.fr
      have e13:=hv.k13 (all 13 (by omega))
      subst e13
      have HB2:=hI (HBR.out.trans ((show Below wr.heap.size wr w' from (Below.refl _ _).drew.trans hv.g).mono HBR.out.size))
      have HOK2:=hI (HOK.out.below (show Below wr.heap.size wr w' from (Below.refl _ _).drew.trans hv.g))
      have HXA2:=HXA.out.below (show Below wr.heap.size wr w' from (Below.refl _ _).drew.trans hv.g) HXL.out
      have hp1:=HPA.out.1.below (show Below wr.heap.size wr w' from (Below.refl _ _).drew.trans hv.g) HPA.out.2
      obtain⟨p0,p1⟩:=hp1
      rw[HPC.out] at p1
      clear all hv hj hr HTKC HSUC HXC
      dsimp only
      obtain⟨x0,x1,x2,x3,x4,x5,x6⟩:=HXA2
      have hkl:=HKP.out
      have hki:=HKI.out
      go_wp2_with fail
      refine (HL1.out _).mono ?_
      rintro e w3 ⟨rfl,rfl⟩
      go_wp2_with fail
      refine (HL2.out _).mono ?_
      rintro e w3 ⟨rfl,rfl⟩
      go_wp2_with fail
      refine (HADD.out _ HOK2.out).mono ?_
      rintro e w4 ⟨A3,c3,rfl,b4,hk4,hc4,hn4⟩
      have HOK4:Hid (OutK w4 A3 c3 (putA st.1 x.id n)):=⟨hk4,hc4,hn4⟩
      have HB4:=hI (HB2.out.trans (b4.mono HB2.out.size))
      clear b4 hk4 hc4 hn4 x0 x1 x2 x3 x4 x5 x6 p0 p1
      go_wp2_with fail
      refine (HSUQ.out w4).mono ?_
      rintro e w5 ⟨rfl,b5⟩
      have HOK5:=hI (HOK4.out.below b5)
      have HB5:=hI (HB4.out.trans (b5.mono HB4.out.size))
      clear b5
      go_wp2_with fail
      go_roundw
      case rel=>exact⟨k+1,_,A3,c3,by go_num,by omega,by rw[HTK.out.1],by rw[HTK.out.1],by rw[HTKN.out,List.foldl_append,←HST.out];exact (Avh HLO.out).symm,HTK.out.2,Aap (Aui _ _ _) (by have:=HSLN.out;omega),by rw[HTK.out.1];exact HOK5.out,HB5.out⟩
      case measure=>simp[intOf];omega
     case stCA =>
      intro L a w' hj i hi
      obtain⟨hun,o,ho,hall⟩:=mem_ready.1 hi
      have hoff:=Akk hun
      have hlt:=(Aab.1 ho).1
      simp at hlt
      obtain⟨s20,s94,s95,s96,s97,s98,s99,s100,s101,s102,s103,s104,s105,s106,rfl,hv⟩:=hj.fr
      have HV:=hI hv
      have HJ:=hI hj
      clear hv hj
      rcases (show i=0∨i=1∨i=2∨i=3∨i=4∨i=5∨i=6∨i=7∨i=8∨i=9∨i=10∨i=11∨i=12∨i=13 from by omega) with rfl|rfl|rfl|rfl|rfl|rfl|rfl|rfl|rfl|rfl|rfl|rfl|rfl|rfl
      all_goals simp at ho
      all_goals subst ho
      rotate_left
      rotate_left
      cases HV.out.k0 (Hq hall 0).out
      cases HV.out.k1 (Hq hall 1).out
      have hki:=HKI.out
      rotate_left
      cases HV.out.k2 (Hq hall 2).out
      rotate_left
      cases HV.out.k3 (Hq hall 3).out
      obtain⟨c0,c1,c2,c3,c4,c5,c6⟩:=HXC.out.1.below HV.out.g HXC.out.2
      rotate_left
      rotate_left
      rotate_left
      rotate_left
      cases HV.out.k6 (Hq hall 6).out
      cases HV.out.k7 (Hq hall 7).out
      have hki:=HKI.out
      rotate_left
      cases HV.out.k8 (Hq hall 8).out
      rotate_left
      cases HV.out.k9 (Hq hall 9).out
      obtain⟨c0,c1,c2,c3,c4,c5,c6⟩:=HXC.out.1.below HV.out.g HXC.out.2
      rotate_left
      ·cases HV.out.k5 (Hq hall 5).out
       cases HV.out.k10 (Hq hall 10).out
       clear hall hi
       refine Akt rfl fun K' HK=>?_
       go_simp
       refine (HTKC.out w' HV.out.g).mono ?_
       rintro e wn ⟨rfl,rfl⟩
       cases HV.out
       refine HK.out _ _ ⟨by simp[HJ.out.sz],⟨_,_,_,_,_,_,_,_,_,_,_,_,_,_,rfl,?_,?_,?_,?_,?_,?_,?_,?_,?_,?_,?_,fun _=>rfl,?_,?_,HV.out.g⟩⟩
       all_goals exact Um (by assumption)
      ·cases HV.out.k4 (Hq hall 4).out
       cases HV.out.k11 (Hq hall 11).out
       clear hall hi
       refine Akt rfl fun K' HK=>?_
       go_simp
       refine (HSUC.out w').mono ?_
       rintro e wn ⟨rfl,bn⟩
       cases HV.out
       refine HK.out _ _ ⟨by simp[HJ.out.sz],⟨_,_,_,_,_,_,_,_,_,_,_,_,_,_,rfl,?_,?_,?_,?_,?_,?_,?_,?_,?_,?_,?_,?_,fun _=>rfl,?_,HV.out.g.trans (bn.mono HV.out.g.size)⟩⟩
       all_goals exact Um (by assumption)
      cases HV.out.k12 (Hq hall 12).out
      rotate_left
      all_goals
       clear hall hi
       refine Akt rfl fun K' HK=>?_
       go_simp
       cases HV.out
       refine HK.out _ _ ⟨by simp[HJ.out.sz],?_⟩
       iterate 14 apply Exists.intro
       refine⟨rfl,?_⟩
       constructor
       all_goals first|exact Um (by assumption)|exact Un (by assumption)|exact Uf (by assumption)|exact fun _=>rfl|assumption
    ·have hcx:decide ((k:Int)<(P':Int))=false:=by simp;omega
     have hcx2:decide (k<P')=false:=Aa4 (by omega)
     have HSE2:Hid (st=ps'.foldl (tkP own) ([],vl q)):=by
      have h:=HST.out
      rwa [Aai (by rw[HP'.out];exact hge)] at h
     have HLN2:Hid (st.1.length≤P'):=by have:=HSLN.out;show _≤_;omega
     obtain⟨st2,hst2⟩:∃st2,st=st2:=⟨_,rfl⟩
     clear hge hk HST HSLN HFI HVP HPS' hNo
     go_wp2_with fail
     clear hcx hcx2
     go_loopw [2,16,22] (fun u o v wr2=>∃(i:Nat) (st':Am×Int) (Ao:Option Addr) (co:Nat),v=.int .i64 (i:Int)∧i≤M∧u=.string (I st'.2)∧o=.slice Ao (pksOf st'.1).length co∧st'=tkAll (S.take i) st2∧InvA own (vl q) st'∧st'.1.length≤P'+i∧OutK wr2 Ao co st'.1∧Below wb.heap.size wb wr2) (fun _ _ v _=>M-(intOf v).toNat)
     case atStart=>exact⟨0,st,Ao,co,rfl,Nat.zero_le _,rfl,rfl,by rw[←hst2];rfl,HINV.out,by have:=HLN2.out;omega,HOK.out,HBR.out⟩
     case round =>
     rw[hst2] at HSE2
     clear hst2 HINV HOK HBR HLN2
     obtain⟨i,st,Ao,co,rfl,hi,rfl,rfl,hst,hinv,hsl,hout,hb⟩:=hrel
     have HST:=hI hst
     have HINV:=hI hinv
     have HSLN:=hI hsl
     have HOK:=hI hout
     have HBR:=hI hb
     clear hst hinv hsl hout hb
     obtain⟨No,hNo⟩:∃No,(pksOf st.1).length=No:=⟨_,rfl⟩
     rcases Aam i M with hlt|hge
     ·obtain⟨y,hy⟩:∃y,rs[i]?=some y:=⟨_,Aae (by rw[HMM.out];exact hlt)⟩
      obtain⟨x,hyx⟩:∃x,y.1=x:=⟨_,rfl⟩
      have hSx:S[i]?=some x:=by rw[←HRSV.out,List.getElem?_map,hy];exact congrArg some hyx
      have HXO:Hid (x∈own):=HPM.out.mem_iff.1 (Aas hSx)
      have HTKN:=hI (Amq hSx)
      have hcx:decide ((i:Int)<(M:Int))=true:=by simp;omega
      have HKI:Hid ((i:Int)<(M:Int)):=by show (i:Int)<_;omega
      obtain⟨ad,rfl,had,hcell2⟩:=HRS.out (by intro e;rw[e] at hy;cases hy)
      have hxa:=(hcell2 i y hy).below HBR.out (by rw[Acv];exact had)
      rw[hyx] at hxa
      have HXA:=hI hxa
      have HXL:Hid ((ad.add (i*7)).block<wr.heap.size):=by rw[Acv];exact Aah had HBR.out.size
      have HXC:Hid (LotAt wr.drew (ad.add (i*7)) x∧(ad.add (i*7)).block<wr.drew.heap.size):=⟨hxa.below (Below.refl _ _).drew HXL.out,HXL.out⟩
      have hpp:0≤vl x.qty:=Int.le_of_lt (HOVN.out.1 x HXO.out).pq
      have hxz:=(HOVN.out.2 x HXO.out).2.2.1
      have hl9:st.1.length≤100000:=by have:=HSLN.out;omega
      have hsz:=Avf HQS.out HINV.out HOVN.out.2 HXO.out (mo:=vl x.qty) hpp
      obtain⟨am,ham⟩:∃am,amt st.1 x.id=am:=⟨_,rfl⟩
      obtain⟨lf,hlf⟩:∃lf,vl x.qty-am=lf:=⟨_,rfl⟩
      obtain⟨n,hn⟩:∃n,tkN st x (vl x.qty)=n:=⟨_,rfl⟩
      have htk:=Ave HINV.out HXO.out (mo:=vl x.qty) hpp
      have hinv2:=HINV.out.tk HID.out HXO.out (vl x.qty)
      rw[hn] at htk hsz
      rw[ham,hlf] at hsz
      obtain⟨z1,z2,z3,z4,z5⟩:=hsz
      have HTK:=hI (And.intro htk hinv2)
      have htc:=fun W (hW:Below wr.drew.heap.size wr.drew W)=>Atb W.heap.size Ao (pksOf st.1) co (by rw[Atx];omega) x.id W (HOK.out.below (show Below wr.heap.size wr W from (Below.refl _ _).drew.trans hW)).rd
      rw[rtk_pks,ham] at htc
      have hsu:=fun W=>Aiz x.qty (I am) (by omega) (by omega) W
      rw[vl_I,hlf] at hsu
      have hadd:=fun W (h:OutK W Ao co st.1)=>Atz W.heap.size Ao st.1 co (by omega) h.cap h.nil x.id n z4 z5 W h.rd (Aad _)
      have hsq:=fun W=>Aiz (I st.2) (I n) (by omega) (by omega) W
      rw[vl_I,vl_I] at hsq
      have hl2:=fun W=>As6 (I lf) (I st.2) (by omega) (by omega) W
      have hnn:min lf st.2=n:=by rw[←hn,←hlf,←ham];exact (tkN_all HINV.out x).symm
      simp only[Avg] at hl2
      rw[hnn] at hl2
      have HTKC:=hI htc
      have HSUC:=hI hsu
      have HL2:=hI hl2
      rw[hNo] at HTKC
      have HADD:=hI hadd
      rw[hNo] at HADD ⊢
      have HSUQ:=hI hsq
      clear hxz hl9 z1 z2 z3 z4 z5 ham hlf hn htk hinv2 htc hsu hadd hsq hl2 hnn hy hyx hcell2 had hxa hpp hSx
      go_upto_region 31 with fail
      have hgS:Below wr.drew.heap.size wr.drew wr.drew:=Below.refl _ _
      have mixed:Tryz.prog.follows .mixedOrders=true:=by kernel_rfl
      refine wp_region_any mixed (Akw (CBJ wr.drew x ad M cs i No co Ao am lf st.2 n _ _ _ _ _ _ _ _ _ _ _ _ _ _ _ _ _ _ _ _ _ _ _ _ _ _ _ _ _ _ _ _ _ _ _ _ _ _ _ _ _ _ _ _ _ _ _ _ _ _ _ _ _ _ _ _ _ _ _ _ _ _ _ _ _ _ _ _ _ _ _ _ _ _ _ _ _ _ _ _ _ _ _ _ _ _ _ _ _ _ _ _ _ _ _ _ _ _ _ _ _ _ _ _ _ _ _ _ _ _ _ _ _ _ _ _ _ _ _ _ _ _ _ _ _ _ _ _ _ _ _ _ _ _ _ _ _ _ _ _) ?stCB ?dnCB _ _ _ _ ⟨by simp,⟨_,_,_,_,_,_,_,_,_,_,_,_,_,_,_,_,rfl,fun h=>by simp at h,fun h=>by simp at h,fun h=>by simp at h,fun h=>by simp at h,fun h=>by simp at h,fun h=>by simp at h,fun h=>by simp at h,fun h=>by simp at h,fun h=>by simp at h,fun h=>by simp at h,fun h=>by simp at h,fun h=>by simp at h,fun h=>by simp at h,fun h=>by simp at h,fun h=>by simp at h,fun h=>by simp at h,hgS⟩⟩ (by decide))
      case dnCB =>
       intro L a w' hj hr
       have all:=Akv hr hj.sz (by kernel_rfl)
       obtain⟨s23,s133,s134,s135,s136,s137,s138,s139,s140,s141,s142,s143,s144,s145,s146,s147,rfl,hv⟩:=hj.fr
       have e15:=hv.k15 (all 15 (by omega))
       subst e15
       have HB2:=hI (HBR.out.trans ((show Below wr.heap.size wr w' from (Below.refl _ _).drew.trans hv.g).mono HBR.out.size))
       have HOK2:=hI (HOK.out.below (show Below wr.heap.size wr w' from (Below.refl _ _).drew.trans hv.g))
       have HXA2:=HXA.out.below (show Below wr.heap.size wr w' from (Below.refl _ _).drew.trans hv.g) HXL.out
       clear all hv hj hr HTKC HSUC HXC HL2
       dsimp only
       obtain⟨x0,x1,x2,x3,x4,x5,x6⟩:=HXA2
       have hki:=HKI.out
       go_wp2_with fail
       refine (HADD.out _ HOK2.out).mono ?_
       rintro e w4 ⟨A3,c3,rfl,b4,hk4,hc4,hn4⟩
       have HOK4:Hid (OutK w4 A3 c3 (putA st.1 x.id n)):=⟨hk4,hc4,hn4⟩
       have HB4:=hI (HB2.out.trans (b4.mono HB2.out.size))
       clear b4 hk4 hc4 hn4 x0 x1 x2 x3 x4 x5 x6
       go_wp2_with fail
       refine (HSUQ.out w4).mono ?_
       rintro e w5 ⟨rfl,b5⟩
       have HOK5:=hI (HOK4.out.below b5)
       have HB5:=hI (HB4.out.trans (b5.mono HB4.out.size))
       clear b5
       go_wp2_with fail
       go_roundw
       case rel=>exact⟨i+1,_,A3,c3,by go_num,by omega,by rw[HTK.out.1],by rw[HTK.out.1],by rw[HTKN.out,Avj,←HST.out],HTK.out.2,Aap (Aui _ _ _) (by have:=HSLN.out;omega),by rw[HTK.out.1];exact HOK5.out,HB5.out⟩
       case measure=>simp[intOf];omega
      case stCB =>
       intro L a w' hj i hi
       obtain⟨hun,o,ho,hall⟩:=mem_ready.1 hi
       have hoff:=Akk hun
       have hlt:=(Aab.1 ho).1
       simp at hlt
       obtain⟨s23,s133,s134,s135,s136,s137,s138,s139,s140,s141,s142,s143,s144,s145,s146,s147,rfl,hv⟩:=hj.fr
       have HV:=hI hv
       have HJ:=hI hj
       clear hv hj
       rcases (show i=0∨i=1∨i=2∨i=3∨i=4∨i=5∨i=6∨i=7∨i=8∨i=9∨i=10∨i=11∨i=12∨i=13∨i=14∨i=15 from by omega) with rfl|rfl|rfl|rfl|rfl|rfl|rfl|rfl|rfl|rfl|rfl|rfl|rfl|rfl|rfl|rfl
       all_goals simp at ho
       all_goals subst ho
       rotate_left
       rotate_left
       cases HV.out.k0 (Hq hall 0).out
       cases HV.out.k1 (Hq hall 1).out
       have hki:=HKI.out
       rotate_left
       cases HV.out.k2 (Hq hall 2).out
       rotate_left
       cases HV.out.k3 (Hq hall 3).out
       obtain⟨c0,c1,c2,c3,c4,c5,c6⟩:=HXC.out.1.below HV.out.g HXC.out.2
       rotate_left
       rotate_left
       rotate_left
       rotate_left
       cases HV.out.k6 (Hq hall 6).out
       cases HV.out.k7 (Hq hall 7).out
       have hki:=HKI.out
       rotate_left
       cases HV.out.k8 (Hq hall 8).out
       rotate_left
       cases HV.out.k9 (Hq hall 9).out
       obtain⟨c0,c1,c2,c3,c4,c5,c6⟩:=HXC.out.1.below HV.out.g HXC.out.2
       rotate_left
       ·cases HV.out.k5 (Hq hall 5).out
        cases HV.out.k10 (Hq hall 10).out
        clear hall hi
        refine Akt rfl fun K' HK=>?_
        go_simp
        refine (HTKC.out w' HV.out.g).mono ?_
        rintro e wn ⟨rfl,rfl⟩
        cases HV.out
        refine HK.out _ _ ⟨by simp[HJ.out.sz],?_⟩
        iterate 16 apply Exists.intro
        refine⟨rfl,?_⟩
        constructor
        case k11=>exact fun _=>rfl
        case g=>exact HV.out.g
        all_goals exact Um (by assumption)
       ·cases HV.out.k4 (Hq hall 4).out
        cases HV.out.k11 (Hq hall 11).out
        clear hall hi
        refine Akt rfl fun K' HK=>?_
        go_simp
        refine (HSUC.out w').mono ?_
        rintro e wn ⟨rfl,bn⟩
        cases HV.out
        refine HK.out _ _ ⟨by simp[HJ.out.sz],?_⟩
        iterate 16 apply Exists.intro
        refine⟨rfl,?_⟩
        constructor
        case k12=>exact fun _=>rfl
        case g=>exact HV.out.g.trans (bn.mono HV.out.g.size)
        all_goals exact Um (by assumption)
       rotate_left
       ·cases HV.out.k12 (Hq hall 12).out
        cases HV.out.k13 (Hq hall 13).out
        clear hall hi
        refine Akt rfl fun K' HK=>?_
        go_simp
        refine (HL2.out w').mono ?_
        rintro e wn ⟨rfl,rfl⟩
        cases HV.out
        refine HK.out _ _ ⟨by simp[HJ.out.sz],?_⟩
        iterate 16 apply Exists.intro
        refine⟨rfl,?_⟩
        constructor
        case k14=>exact fun _=>rfl
        case g=>exact HV.out.g
        all_goals exact Um (by assumption)
       cases HV.out.k14 (Hq hall 14).out
       rotate_left
       all_goals
        clear hall hi
        refine Akt rfl fun K' HK=>?_
        go_simp
        cases HV.out
        refine HK.out _ _ ⟨by simp[HJ.out.sz],?_⟩
        iterate 16 apply Exists.intro
        refine⟨rfl,?_⟩
        constructor
        all_goals first|exact Um (by assumption)|exact Un (by assumption)|exact Uf (by assumption)|exact fun _=>rfl|assumption
     ·have hcx:decide ((i:Int)<(M:Int))=false:=by simp;omega
      have HF:Hid (st.1=(chsSt (ownB lz s) m (vl q) ps).1):=by
       have h:=HST.out
       rw[Aai (by rw[HSM.out];exact hge)] at h
       unfold chsSt
       rw[HOWD.out,HSE.out,←HFO.out,←HSE2.out,←h]
       exact hI rfl
      go_wp2_with fail
      go_ret2
      exact⟨Ao,co,pksOf st.1,by rw[HE.out];rfl,HBB.out.trans (HBR.out.mono HBB.out.size),HOK.out.rd,HOK.out.cap,fun h=>absurd HE.out h,fun _=>by rw[HF.out]⟩
def la:Lot:=⟨⟨#[97,47,49]⟩,⟨#[97,98,99]⟩,1,1,⟨#[49,48]⟩,⟨#[49,48,48]⟩,⟨#[]⟩⟩
def lb:Lot:=⟨⟨#[98,47,49]⟩,⟨#[97,98,99]⟩,2,2,⟨#[49,48]⟩,⟨#[51,48,48]⟩,⟨#[]⟩⟩
def lc:Lot:=⟨⟨#[99,47,49]⟩,⟨#[97,98,99]⟩,2,2,⟨#[49,48]⟩,⟨#[50,48,48]⟩,⟨#[]⟩⟩
def abc:ByteArray:=⟨#[97,98,99]⟩
def q15:ByteArray:=⟨#[49,53]⟩
theorem la_tiny:la.tiny:=⟨by decide,by decide,by decide,by decide,by decide⟩
theorem lb_tiny:lb.tiny:=⟨by decide,by decide,by decide,by decide,by decide⟩
theorem lc_tiny:lc.tiny:=⟨by decide,by decide,by decide,by decide,by decide⟩
theorem la_ok:la.ok where
 id:=by kernel_rfl
 inst:=by decide
 acq:=by unfold okDay;decide
 opn:=by unfold okDay;decide
 ord:=by decide
 cq:=by unfold Can;decide
 cc:=by unfold Can;decide
 cu:=by unfold Can;decide
 pq:=by decide
 pc:=by decide
 us:=.inl rfl
theorem lb_ok:lb.ok where
 id:=by kernel_rfl
 inst:=by decide
 acq:=by unfold okDay;decide
 opn:=by unfold okDay;decide
 ord:=by decide
 cq:=by unfold Can;decide
 cc:=by unfold Can;decide
 cu:=by unfold Can;decide
 pq:=by decide
 pc:=by decide
 us:=.inl rfl
theorem lc_ok:lc.ok where
 id:=by kernel_rfl
 inst:=by decide
 acq:=by unfold okDay;decide
 opn:=by unfold okDay;decide
 ord:=by decide
 cq:=by unfold Can;decide
 cc:=by unfold Can;decide
 cu:=by unfold Can;decide
 pq:=by decide
 pc:=by decide
 us:=.inl rfl
def s3:List SLot:=[⟨la,la_tiny.sized⟩,⟨lb,lb_tiny.sized⟩,⟨lc,lc_tiny.sized⟩]
def l3:List Lot:=[la,lb,lc]
theorem s3_l3:s3.map Subtype.val=l3:=rfl
theorem l3_all:AllOk l3:=by
 refine⟨by decide,fun l hl=>?_,?_⟩
 ·unfold l3 at hl
  simp at hl
  rcases hl with rfl|rfl|rfl
  ·exact lchk_zero.2 la_ok
  ·exact lchk_zero.2 lb_ok
  ·exact lchk_zero.2 lc_ok
 ·show List.Nodup [la.id,lb.id,lc.id]
  simp[la,lb,lc]
theorem l3_lall:lall l3=0:=(Apz l3).2 l3_all
theorem own3:ownB l3 abc=l3:=by kernel_rfl
theorem q15_vl:vl q15=15:=by decide
theorem tot3:totQ l3=30:=by kernel_rfl
def wz(k:Nat):Int:=if k=0 then 250 else if k=1 then 350 else if k=2 then 400 else 200
theorem wz_is(k:Nat)(hk:k<4):sumL (fun l=>vl l.cost) (Aqz l3 (pksOf (chsSt l3 ((k:Int)+1) 15 []).1))=wz k:=by
 rcases (show k=0∨k=1∨k=2∨k=3 from by omega) with rfl|rfl|rfl|rfl
 ·kernel_rfl
 ·kernel_rfl
 ·kernel_rfl
 ·kernel_rfl
theorem chs3(k:Nat)(hk:k<4):chsE l3 abc q15 ((k:Int)+1) []=0 :=
 Aue l3_lall (by unfold Can;decide) (fun h=>Aaz h.2) (by omega) (by rw[q15_vl];decide) (by rw[own3,q15_vl,tot3];decide)
theorem inv3(k:Nat):InvA l3 15 (chsSt l3 ((k:Int)+1) 15 []):=InvA.chs l3_all.nd (fun x hx=>(lchk_zero.1 (l3_all.ok x hx)).pq) (by decide) _ _
theorem pos3(k:Nat):posE l3 none [] (pksOf (chsSt l3 ((k:Int)+1) 15 []).1)=0 :=
 (posE_zero _ _ _ _).2 ⟨fun p _ h=>(by simp at h),(inv3 k).pks l3_all.nd (s:=abc) (fun x hx=>⟨hx,by unfold l3 at hx;simp at hx;rcases hx with rfl|rfl|rfl<;>rfl⟩) none (fun t e=>by cases e)⟩
theorem tak3(k:Nat):takE l3 (pksOf (chsSt l3 ((k:Int)+1) 15 []).1)=0:=(Aut l3_lall _).trans (pos3 k)
theorem cst3(k:Nat)(hk:k<4):cstZ l3 (pksOf (chsSt l3 ((k:Int)+1) 15 []).1)=wz k:=by unfold cstZ;rw[if_pos (tak3 k),wz_is k hk]
theorem size3(k:Nat):∀p∈pksOf (chsSt l3 ((k:Int)+1) 15 []).1,p.qty.size≤3:=by
 intro p hp
 obtain⟨a,ha,rfl⟩:=List.mem_map.1 hp
 have h:=inv3 k
 obtain⟨x,hx,e⟩:=h.sub a ha
 have h1:=h.le x hx
 rw[e,Aqh h.nd ha] at h1
 have h2:=h.pos a ha
 have hq:vl x.qty=10∧x.qty.size=2:=by unfold l3 at hx;simp at hx;rcases hx with rfl|rfl|rfl<;>decide
 have:=Auh (a:=x.qty) (Int.le_of_lt h2) h1
 show (I a.2).size≤3
 omega
theorem len3(k:Nat):(pksOf (chsSt l3 ((k:Int)+1) 15 []).1).length≤10000:=by
 have key:∀(S:List Lot) (st:Am×Int),(tkAll S st).1.length≤st.1.length+S.length:=by
  intro S
  induction S with
  | nil=>intro st;exact Aad _
  | cons x r ih =>
    intro st
    have h1:=ih (tk st x (vl x.qty))
    have h2:=Aui st x (vl x.qty)
    show (tkAll r (tk st x (vl x.qty))).1.length≤_
    rw[Aa0];omega
 unfold pksOf
 rw[Aar]
 unfold chsSt
 have h1:=key (ordP ((k:Int)+1) l3) (if (k:Int)+1=5 then [].foldl (tkP l3) ([],15) else ([],15))
 have h2:=(Aqc ((k:Int)+1) l3).length_eq
 have h3:l3.length=3:=rfl
 have h4:(if (k:Int)+1=5 then ([]:List Pk).foldl (tkP l3) ([],(15:Int)) else ([],15)).1.length=0:=by split<;>rfl
 omega
theorem I250:I 250=⟨#[50,53,48]⟩:=by decide
theorem I350:I 350=⟨#[51,53,48]⟩:=by decide
theorem I400:I 400=⟨#[52,48,48]⟩:=by decide
theorem I200:I 200=⟨#[50,48,48]⟩:=by decide
theorem Avn(w:World)(ht:Tabs w):Calls Tryz.prog 5 #[] w fun e w'=>e=.returned (.bool true)∧Below w.heap.size w w':=by
 obtain⟨W0,hW0⟩:∃W0,w.alloc (.cells #[.string ⟨#[97,47,49]⟩,.string ⟨#[97,98,99]⟩,.int .i64 1,.int .i64 1,.string ⟨#[49,48]⟩,.string ⟨#[49,48,48]⟩,.string ⟨#[]⟩,.string ⟨#[98,47,49]⟩,.string ⟨#[97,98,99]⟩,.int .i64 2,.int .i64 2,.string ⟨#[49,48]⟩,.string ⟨#[51,48,48]⟩,.string ⟨#[]⟩,.string ⟨#[99,47,49]⟩,.string ⟨#[97,98,99]⟩,.int .i64 2,.int .i64 2,.string ⟨#[49,48]⟩,.string ⟨#[50,48,48]⟩,.string ⟨#[]⟩] 38)=W0:=⟨_,rfl⟩
 have k0:W0.heap[w.heap.size]?=some (.cells (flatV l3).toArray 38 (0,0)):=by rw[←hW0];exact Aa5 w _
 have b0:Below w.heap.size w W0:=by rw[←hW0];exact (Below.refl _ w).alloc (Aad _) _
 obtain⟨W1,hW1⟩:∃W1,W0.alloc (.cells #[.string ⟨#[50,53,48]⟩,.string ⟨#[51,53,48]⟩,.string ⟨#[52,48,48]⟩,.string ⟨#[50,48,48]⟩] 23)=W1:=⟨_,rfl⟩
 have k1:W1.heap[W0.heap.size]?=some (.cells #[.string ⟨#[50,53,48]⟩,.string ⟨#[51,53,48]⟩,.string ⟨#[52,48,48]⟩,.string ⟨#[50,48,48]⟩] 23 (0,0)):=by rw[←hW1];exact Aa5 W0 _
 have b1:Below W0.heap.size W0 W1:=by rw[←hW1];exact (Below.refl _ W0).alloc (Aad _) _
 have HB1:=hI (b0.trans (b1.mono b0.size))
 have k0':=(b1.block _ (Aab.1 k0).1).trans k0
 have hrow:SRow (fun _=>True) W1 w.heap.size [] l3 W1:=⟨by rw[List.append_nil];exact k0',fun _ _=>trivial,⟨rfl,rfl,rfl,Aad _,fun _ _ _=>rfl⟩,(Aab.1 k0').1⟩
 have hrd:RdB W1.heap.size W1 (some ⟨w.heap.size,0,none⟩) s3:=fun _=>⟨_,rfl,hrow.lt,fun j l hj=>by rw[Ake];exact hrow.at (by rw[←s3_l3,List.getElem?_map,hj];rfl)⟩
 have HRD:=hI hrd
 have HK1:=hI k1
 have HT:=hI ht
 have hti:∀l∈s3,l.1.tiny:=by intro l hl;unfold s3 at hl;simp at hl;rcases hl with rfl|rfl|rfl;exact la_tiny;exact lb_tiny;exact lc_tiny
 have HCH:=hI (fun (k:Nat) (W:World) (hW:Below W1.heap.size W1 W)=>Aur W1.heap.size (some ⟨w.heap.size,0,none⟩) s3 3 (by decide) (by decide) abc q15 (by decide) ((k:Int)+1) none [] 0 (by decide) (fun p h=>by cases h) W (hrd.below hW) hW.size (fun h=>by cases h) (RdK.nil _ _ _) (ht.below (HB1.out.trans (hW.mono HB1.out.size))))
 have HCO:=hI (fun (k:Nat) (hk:k<4) (A:Option Addr) (c n:Nat) (hc:(pksOf (chsSt l3 ((k:Int)+1) 15 []).1).length≤c) (W:World) (hW:Below W1.heap.size W1 W) (hn:n≤W.heap.size) (hK:RdK n W A (pksOf (chsSt l3 ((k:Int)+1) 15 []).1)) =>
  Au3 W.heap.size (some ⟨w.heap.size,0,none⟩) s3 3 (by decide) (by decide) hti A _ c (len3 k) hc (fun p hp=>by have:=size3 k p hp;omega) (fun _ p hp=>by have:=size3 k p hp;omega) W (fun h=>by obtain⟨ad,e,h1,h2⟩:=hrd.below hW h;exact⟨ad,e,Aah h1 hW.size,h2⟩) (Aad _) (fun h=>by cases h) (hK.mono hn) (ht.below (HB1.out.trans (hW.mono HB1.out.size))))
 rw[s3_l3,show s3.length=3 from rfl] at HCH HCO
 clear k0 b0 k1 b1 k0' hrow hrd hti ht
 go_enter Tryz.func5,Tryz.ntmps5
 go_wp2_with fail
 go_loopw [14] (fun v wr=>∃k:Nat,v=.int .i64 (k:Int)∧k≤4∧Below W1.heap.size W1 wr) (fun v _=>4-(intOf v).toNat)
 case atStart=>exact⟨0,rfl,Nat.zero_le _,Below.refl _ _⟩
 case round =>
  obtain⟨k,rfl,hk,hb⟩:=hrel
  have HB:=hI hb
  clear hb
  rcases Aam k 4 with hlt|hge
  ·have hcx:decide ((k:Int)<(4:Int))=true:=by simp;omega
   have hcell:wr.cell? ⟨W0.heap.size,k,none⟩=some (.string (I (wz k))):=by
    have h:=(HB.out.block _ (Aab.1 HK1.out).1).trans HK1.out
    rw[Aaa h k]
    rcases (show k=0∨k=1∨k=2∨k=3 from by omega) with rfl|rfl|rfl|rfl
    ·show some (Value.string _)=some (Value.string (I 250));rw[I250]
    ·show some (Value.string _)=some (Value.string (I 350));rw[I350]
    ·show some (Value.string _)=some (Value.string (I 400));rw[I400]
    ·show some (Value.string _)=some (Value.string (I 200));rw[I200]
   have hchs:=HCH.out k wr HB.out
   have HC:=hI hchs
   have HLT:=hI hlt
   obtain⟨zw,hzw⟩:∃z,wz k=z:=⟨_,rfl⟩
   rw[hzw] at hcell
   have HZW:=hI hzw
   clear hchs hzw
   go_wp2_with fail
   refine HC.out.mono ?_
   rintro e w2 ⟨A,c,res,rfl,b2,hk2,hc2,_,hres⟩
   have hr:=hres (chs3 k HLT.out)
   rw[own3,q15_vl] at hr
   subst hr
   rw[chs3 k HLT.out]
   have HB2:=hI (HB.out.trans (b2.mono HB.out.size))
   have hco:=HCO.out k HLT.out A c w2.heap.size hc2 w2 HB2.out (Aad _) hk2
   rw[tak3,cst3 k HLT.out,HZW.out] at hco
   have HCC:=hI hco
   generalize (pksOf (chsSt l3 ((k:Int)+1) 15 []).1).length=n at HCC ⊢
   clear b2 hk2 hc2 hres hco HC hcell
   go_wp2_with fail
   refine HCC.out.mono ?_
   rintro e w3 ⟨rfl,b3⟩
   have HB3:=hI (HB2.out.trans (b3.mono HB2.out.size))
   clear b3 HCC
   go_wp2_with fail
   go_roundw
   case rel=>exact⟨k+1,by go_num,by omega,HB3.out⟩
   case measure=>simp[intOf];omega
  ·have hcx:decide ((k:Int)<(4:Int))=false:=by simp;omega
   go_wp2_with fail
   go_ret
   exact⟨rfl,HB1.out.trans (HB.out.mono HB1.out.size)⟩
theorem Avp(op:BinOp)(x y:Operand)(xs ys:Array Value)(w:World):(eqGuard op 43 x y (.agg xs) (.agg ys)).run Tryz.prog w=.ok () w:=run_eqGuard_agg w op _ x y xs ys (by kernel_rfl)
attribute [local go_sem] Avp
def bigP(p:Pk):Bool:=decide (24<p.lot.size)||decide (13<p.qty.size)
theorem bigP_no{p:Pk}(h:bigP p=false):p.lot.size≤24∧p.qty.size≤13:=by
 unfold bigP at h
 simp at h
 exact h
theorem Avq(p:Pk)(w:World):Calls Tryz.prog 17 #[p.enc] w fun e w'=>e=.returned (.bool (bigP p))∧Below w.heap.size w w':=by
 obtain⟨W0,hW0⟩:∃W0,w.alloc (.cells p.cells 43)=W0:=⟨_,rfl⟩
 have hb:Below w.heap.size w W0:=by rw[←hW0];exact (Below.refl _ w).alloc (Aad _) _
 have k1:PkBox W0 w.heap.size p:=by rw[←hW0];exact Aa5 w _
 have d0:=Aaa k1 0
 have d1:=Aaa k1 1
 simp[Pk.cells] at d0 d1
 have HB:=hI hb
 obtain⟨b,hbp⟩:∃b,bigP p=b:=⟨_,rfl⟩
 rw[hbp]
 have HE:=hI hbp
 clear k1 hb hbp
 unfold Pk.cells at hW0
 unfold Pk.enc Pk.cells
 by_cases h1:24<p.lot.size
 ·have t1:decide ((24:Int)<(p.lot.size:Int))=true:=Aa3 (by omega)
  have t2:decide ((p.lot.size:Int) > 24)=true:=t1
  have HD:Hid (b=true):=by rw[Hid,←HE.out];unfold bigP;rw[Aa3 h1];rfl
  clear h1
  go_enter Tryz.func17,Tryz.ntmps17
  go_wp2_with fail
  go_ret
  exact⟨by rw[HD.out];rfl,HB.out⟩
 ·have t1:decide ((24:Int)<(p.lot.size:Int))=false:=Aa4 (by omega)
  have t2:decide ((p.lot.size:Int) > 24)=false:=t1
  by_cases h2:13<p.qty.size
  ·have t3:decide ((13:Int)<(p.qty.size:Int))=true:=Aa3 (by omega)
   have t4:decide ((p.qty.size:Int) > 13)=true:=t3
   have HD:Hid (b=true):=by rw[Hid,←HE.out];unfold bigP;rw[Aa4 h1,Aa3 h2];rfl
   clear h1 h2
   go_enter Tryz.func17,Tryz.ntmps17
   go_wp2_with fail
   go_ret
   exact⟨by rw[HD.out];rfl,HB.out⟩
  ·have t3:decide ((13:Int)<(p.qty.size:Int))=false:=Aa4 (by omega)
   have t4:decide ((p.qty.size:Int) > 13)=false:=t3
   have HD:Hid (b=false):=by rw[Hid,←HE.out];unfold bigP;rw[Aa4 h1,Aa4 h2];rfl
   clear h1 h2
   go_enter Tryz.func17,Tryz.ntmps17
   go_wp2_with fail
   go_ret
   exact⟨by rw[HD.out];rfl,HB.out⟩
structure Sml(ls:List Lot)(ps:List Pk)(s q:ByteArray):Prop where
 len:(ls.length≤12∨999≤ls.length)∧ls.length≤1002
 tiny:∀l∈ls,l.tiny
 pl:ps.length≤8
 s:s.size≤24
 q:q.size≤13
 p:∀p∈ps,p.lot.size≤24∧p.qty.size≤13
theorem Avr(n₀:Nat)(A:Option Addr)(ls:List Lot)(c:Nat)(hlm:ls.length≤9223372036854775807)(Ap:Option Addr)(ps:List Pk)(cp:Nat)(hpm:ps.length≤9223372036854775807)(s q:ByteArray)(w:World)(hR:RdL w A ls)(hK:RdK n₀ w Ap ps)(hn:n₀≤w.heap.size):
 Calls Tryz.prog 4 #[.slice A ls.length c,.slice Ap ps.length cp,.string s,.string q] w (Ajz w (Sml ls ps s q)):=by
 have HG:=hI (Apm A ls c hlm w hR)
 have HBC:=fun (h:ps.length≤8) W (hW:Below w.heap.size w W)=>Ar4 bigP 17 #[] n₀ Ap ps cp (by omega) W (hK.below (hW.mono hn)) (Aap hn hW.size) ⟨enters_of Tryz.func17 (by kernel_rfl) rfl,fun W2 _ p _=>Avq p W2⟩
 obtain⟨N,hN⟩:∃N,ls.length=N:=⟨_,rfl⟩
 obtain⟨P,hP⟩:∃P,ps.length=P:=⟨_,rfl⟩
 rw[hN] at HG ⊢
 rw[hP] at HBC ⊢
 replace HBC:=hI HBC
 have HN:=hI hN
 have HP:=hI hP
 clear hR hK hlm hpm hN hP
 go_enter Tryz.func4,Tryz.ntmps4
 go_wp2_with fail
 refine HG.out.mono ?_
 rintro e w1 ⟨b,rfl,hb,b1⟩
 have HB1:=hI b1
 clear b1 HG
 cases b
 case true =>
  clear hb
  go_wp2_with fail
  go_ret
  exact⟨true,rfl,(fun h=>by cases h),HB1.out⟩
 have HL:=hI (hb rfl)
 clear hb
 by_cases h1:8<P
 ·have t1:decide ((8:Int)<(P:Int))=true:=Aa3 (by omega)
  have t2:decide ((P:Int) > 8)=true:=t1
  clear h1
  go_wp2_with fail
  go_ret
  exact⟨true,rfl,(fun h=>by cases h),HB1.out⟩
 have t1:decide ((8:Int)<(P:Int))=false:=Aa4 (by omega)
 have t2:decide ((P:Int) > 8)=false:=t1
 by_cases h2:24<s.size
 ·have t3:decide ((24:Int)<(s.size:Int))=true:=Aa3 (by omega)
  have t4:decide ((s.size:Int) > 24)=true:=t3
  clear h1 h2
  go_wp2_with fail
  go_ret
  exact⟨true,rfl,(fun h=>by cases h),HB1.out⟩
 have t3:decide ((24:Int)<(s.size:Int))=false:=Aa4 (by omega)
 have t4:decide ((s.size:Int) > 24)=false:=t3
 by_cases h3:13<q.size
 ·have t5:decide ((13:Int)<(q.size:Int))=true:=Aa3 (by omega)
  have t6:decide ((q.size:Int) > 13)=true:=t5
  clear h1 h2 h3
  go_wp2_with fail
  go_ret
  exact⟨true,rfl,(fun h=>by cases h),HB1.out⟩
 have t5:decide ((13:Int)<(q.size:Int))=false:=Aa4 (by omega)
 have t6:decide ((q.size:Int) > 13)=false:=t5
 have HS:Hid (P≤8∧s.size≤24∧q.size≤13):=⟨by omega,by omega,by omega⟩
 have HC:=hI (HBC.out HS.out.1 w1 HB1.out)
 clear h1 h2 h3 HBC
 go_wp2_with fail
 refine HC.out.mono ?_
 rintro e w2 ⟨rfl,b2⟩
 have HB2:=hI (HB1.out.trans (b2.mono HB1.out.size))
 clear b2 HC
 obtain⟨z,hz⟩:∃z,ps.any bigP=z:=⟨_,rfl⟩
 rw[hz]
 have HZ:=hI hz
 clear hz
 go_wp2_with fail
 go_ret
 refine⟨z,rfl,(fun h=>?_),HB2.out⟩
 subst h
 exact⟨by rw[HN.out];exact⟨HL.out.1,HL.out.2.1⟩,HL.out.2.2,by rw[HP.out];exact HS.out.1,HS.out.2.1,HS.out.2.2,fun p hp=>bigP_no (by have:=List.any_eq_false.1 HZ.out p hp;cases hb:bigP p;rfl;exact (this hb).elim)⟩
end Go.Proofs.YtcmgmemffncbhabGreatDoor
