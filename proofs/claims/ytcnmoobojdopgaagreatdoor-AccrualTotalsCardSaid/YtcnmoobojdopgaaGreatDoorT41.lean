/-
  trancheref39.Total and Book. (Printed by gen_rtt2.py.)
-/
import Derived.Test.YtcnmoobojdopgaaGreatDoorT39
import Derived.Test.YtcnmoobojdopgaaGreatDoorT40
set_option linter.unusedVariables false
set_option linter.unusedSimpArgs false
set_option maxHeartbeats 16000000
set_option maxRecDepth 100000
namespace Go.Proofs.YtcnmoobojdopgaaGreatDoor
open Go.RowKit Tr Go.Shelf
theorem BX.drewN{w:World}{l:List (Nat×Obj)}{W:World}(h:BX w l W)(n:Nat):BX w l (W.drewN n):=⟨Acp h.1 n,h.2⟩
theorem BX.drew{w:World}{l:List (Nat×Obj)}{W:World}(h:BX w l W):BX w l W.drew:=⟨h.1.drew,h.2⟩
theorem Aw1(i:Inst)(l:Lot)(d:Int)(h:ExOk i d)(hi:i.tiny)(hs:l.tiny)(ho:okDay l.opn):BdQ (Apv i l d) 70:=by
 obtain⟨K,hK⟩:∃K,K=20:=⟨_,rfl⟩
 have hq:K+K+K+1+7≤70:=by omega
 have s1:=hi.2.2.2.1
 have s2:=hi.2.2.2.2.1
 have s3:=hs.1
 have s4:=hs.2.1
 have bf:BdQ (fv i.fn i.fd) K:=fv_bd _ _ (by omega) (by omega)
 have bq:BdQ (vl l.qty:Rat) K:=BdQ.int (Aah (vl_lt _) (Ac8 (by omega))) (by omega)
 have bc:BdQ (vl l.cost:Rat) K:=BdQ.int (Aah (vl_lt _) (Ac8 (by omega))) (by omega)
 have ba:BdQ (allQ i l) (K+K+K+1):=(bf.mul bq).sub bc
 unfold Apv
 split
 ·exact BdQ.zero (by omega)
 ·rename_i hz
  split
  ·exact ba.mono (by omega)
  ·have hk:i.kind=2:=by
    rcases Decidable.em (i.kind=2) with e|e
    ·exact e
    ·exact absurd (.inl e) hz
   have e1:=h.dy
   have e3:=h.mt hk
   unfold okDay at e1 e3 ho
   refine (BdQ.div' (m:=7) ?_ ?_ ?_ ba).mono hq<;>omega
theorem Aw2(l:List SLot)(f:SLot→Rat)(hf:∀x∈l,BdQ (f x) 70):BdQ (qsum (l.map f)) (l.length*71+1):=by
 have h:∀(r:List SLot) (z:Rat) (k:Nat),BdQ z k→(∀x∈r,BdQ (f x) 70)→BdQ ((r.map f).foldl (fun a b=>a+b) z) (k+r.length*71):=by
  intro r
  induction r with
  | nil=>intro z k hz _;simpa using hz
  | cons x r ih =>
    intro z k hz hr
    have:=ih (z+f x) (k+70+1) (hz.add (hr x (List.mem_cons_self ..))) (fun y hy=>hr y (Aav _ hy))
    simp only[List.map_cons,List.foldl_cons,Aaw]
    exact this.mono (by omega)
 have:=h l 0 1 (BdQ.zero (Aad _)) hf
 unfold qsum
 exact this.mono (by omega)
noncomputable def totQ(i:Inst)(ls:List SLot)(d:Int):Rat:=qsum ((ownL ls i.id).map fun l=>Apv i l.1 d)
theorem Aw3{i:Inst}{ls:List SLot}{d:Int}(h:ExOk i d)(hi:i.tiny)(hti:∀l∈ls,l.1.tiny)(ho:∀l∈ls,okDay l.1.opn)(hl:ls.length≤12):BdQ (totQ i ls d) 900:=by
 refine (Aw2 (ownL ls i.id) (fun l=>Apv i l.1 d) (fun x hx=>Aw1 i x.1 d h hi (hti x (List.mem_filter.1 hx).1) (ho x (List.mem_filter.1 hx).1))).mono ?_
 have:(ownL ls i.id).length≤12:=Aap (List.length_filter_le _ _) hl
 omega
open Classical in
noncomputable def toV(i:Inst)(ls:List SLot)(d:Int):ByteArray:=if achkL i ls d≠0 then⟨#[]⟩ else I (rnd (totQ i ls d))
open Classical in
noncomputable def boV(i:Inst)(ls:List SLot)(d:Int):ByteArray:=if achkL i ls d≠0 then⟨#[]⟩ else I (sumBy costOf (ownL ls i.id)+rnd (totQ i ls d))
structure RTTV(w:World)(i:Inst)(ad:Addr)(N c k n9:Nat)(d:Int)(l:Lot)(q x s2:Rat)  (L:Array Bool) (W:World) (s33 s34 s35 s36 s37 s38 s39 s40 s41:Value):Prop where
 k0:L.getD 0 false=true→s33=.agg #[.string (I q.num),.string (dn q)]
 k1:L.getD 1 false=true→s34=.agg #[.string i.id,.int .i64 i.kind,.string i.cur,.int .i64 i.places,.int .i64 i.issued,.int .i64 i.matures,.string i.fn,.string i.fd,.string i.cn,.string i.cd,.int .i64 i.months,.int .i64 i.count,.string i.other,.string i.sn,.string i.sd]
 k2:L.getD 2 false=true→s35=.slice (some ad) N c
 k3:L.getD 3 false=true→s36=.int .i64 (k:Int)
 k4:L.getD 4 false=true→s37=.pointer (some (ad.add (k*7)))
 k5:L.getD 5 false=true→s38=.agg #[.string l.id,.string l.inst,.int .i64 l.acq,.int .i64 l.opn,.string l.qty,.string l.cost,.string l.used]
 k6:L.getD 6 false=true→s39=.int .i64 d
 k7:L.getD 7 false=true→s40=.agg #[.string (I x.num),.string (dn x)]
 k8:L.getD 8 false=true→s41=.agg #[.string (I s2.num),.string (dn s2)]
 bx:BX w [(w.heap.size,.cells i.cells 27 (0,0))] W
 o9:L.getD 9 false=false→W.heap[n9]?=some (fobj q)
 n9:L.getD 9 false=true→W.heap[n9]?=some (fobj s2)
 d9_0:L.getD 9 false=true→L.getD 0 false=true
structure RTTJ(w:World)(i:Inst)(ad:Addr)(N c k n9:Nat)(d:Int)(l:Lot)(q x s2:Rat)(x0 x4 x5 x6 x7 x8 x11 x12 x13 x14 x15 x16 x17 x18 x19 x20 x21 x22 x23 x24 x25 x26 x27 x28 x29 x30 x31 x32 x42 x43:Value)(L:Array Bool)(a:Act)(W:World):Prop where
 sz:L.size=10
 fr:∃s33 s34 s35 s36 s37 s38 s39 s40 s41:Value,a={tmps:=#[x0,.slice (some ad) N c,.int .i64 d,.pointer (some ⟨w.heap.size,0,none⟩),x4,x5,x6,x7,x8,.pointer (some ⟨n9,0,none⟩),.int .i64 (k:Int),x11,x12,x13,x14,x15,x16,x17,x18,x19,x20,x21,x22,x23,x24,x25,x26,x27,x28,x29,x30,x31,x32,s33,s34,s35,s36,s37,s38,s39,s40,s41,x42,x43],defers:=[]}∧RTTV w i ad N c k n9 d l q x s2  L W s33 s34 s35 s36 s37 s38 s39 s40 s41
theorem Aw4(n₀:Nat)(i:Inst)(A:Option Addr)(ls:List SLot)(c:Nat)(hc:ls.length≤c)(hlm:ls.length≤12)(hi:i.tiny)(hti:∀l∈ls,l.1.tiny)(d:Int)(w:World)(hR:RdB n₀ w A ls)(hn:n₀≤w.heap.size)(ht:Tabs w):
 Calls Tryz.prog 23 #[i.enc,.slice A ls.length c,.int .i64 d] w fun e w'=>e=.returned (.tuple #[.string (toV i ls d),.int .i64 (achkL i ls d)])∧Below w.heap.size w w':=by
 obtain⟨W0,hW0,hB0,hz,hk⟩:=ibox i w
 obtain⟨c0,c1,c2,c3,c4,c5,c6,c7,c8,c9,c10,c11,c12,c13,c14⟩:=Avp hk
 have HT:=hI ht
 have HB0:=hI hB0
 have HK0:Hid (InstBox W0 w.heap.size i):=hk
 have HC1:=hI (Awz n₀ i A ls c hc (by omega) hi hti d W0 (hR.below (hB0.mono hn)) (Aap hn hB0.size))
 by_cases h0:achkL i ls d=0
 case neg =>
  rw[show toV i ls d=⟨#[]⟩ from by unfold toV;rw[if_pos h0]]
  generalize achkL i ls d=n at *
  have t1:(n==0)=false:=Aaj.2 h0
  have t1':(n != 0)=true:=by rw[bne,t1];rfl
  clear h0 hR ht hB0 hk hz hi hti HK0
  unfold Inst.enc Inst.cells at *
  go_enter Tryz.func23,Tryz.ntmps23
  go_wp2_with fail
  refine HC1.out.mono ?_
  rintro e w1 ⟨rfl,b1⟩
  have HB1:=hI (HB0.out.trans (b1.mono HB0.out.size))
  clear b1 HC1 HB0 hW0
  clear c0 c1 c2 c3 c4 c5 c6 c7 c8 c9 c10 c11 c12 c13 c14
  go_wp2_with fail
  go_ret2
  exact⟨rfl,HB1.out⟩
 obtain⟨hok,hall,hdy⟩:=Avn h0
 rw[h0] at HC1 ⊢
 have hto:toV i ls d=I (rnd (totQ i ls d)):=by unfold toV;rw[if_neg (fun x=>x h0)]
 rw[hto]
 have hlo:=(Avi hall).lots
 have hex:ExOk i d:=⟨by have:=hi.2.2.2.1;omega,by have:=hi.2.2.2.2.1;omega,hdy,hok.mt⟩
 have hop:∀l∈ls,okDay l.1.opn:=fun l hl=>(hlo.ok l.1 (List.mem_map.2 ⟨l,hl,rfl⟩)).2.opn
 have hcq:CanQ i.fn i.fd:=(Amy (by have:=hi.2.2.2.1;omega) (by have:=hi.2.2.2.2.1;omega)).1 hok.n1
 have HEX0:=hI (fun (l:SLot) (hl:l∈ls) (W:World) (hb:Below w.heap.size w W)=>Asc i l.1 d hex.s1 hex.s2 hcq hdy hex.mt l.2 (hop l hl) W (ht.below hb))
 have HBD:=hI (fun (k:Nat)=>Aw3 (ls:=ls.take k) hex hi (fun l hl=>hti l (List.mem_of_mem_take hl)) (fun l hl=>hop l (List.mem_of_mem_take hl)) (by rw[Aat];omega))
 have HBX:=hI (fun (l:SLot) (hl:l∈ls)=>Aw1 i l.1 d hex hi (hti l hl) (hop l hl))
 have HRO:=hI (fun W=>Ar8 (Aw3 hex hi hti hop hlm) (by omega) (by omega) W)
 have HR:=hI hR
 have HN0:=hI hn
 clear h0 ht hB0 hk hz hi hti hok hall hdy hto hlo hex hop hcq hR hn
 unfold Inst.enc Inst.cells at *
 go_enter Tryz.func23,Tryz.ntmps23
 go_wp2_with fail
 refine HC1.out.mono ?_
 rintro e w1 ⟨rfl,b1⟩
 have hk1:=HK0.out.below b1
 have hg1:BX w [(w.heap.size,.cells i.cells 27 (0,0))] w1:=⟨HB0.out.trans (b1.mono HB0.out.size),fun x hx=>by
  rcases List.mem_cons.1 hx with rfl|hx
  ·exact hk1
  ·cases hx⟩
 have HG1:Hid (BX w [(w1.heap.size,fobj 0),(w.heap.size,.cells i.cells 27 (0,0))] (w1.alloc (.cells #[.string ⟨#[]⟩,.string ⟨#[]⟩] 25))):=by
  rw[fobj_zero]
  exact hg1.push fz
 have HNE:Hid (w.heap.size≠w1.heap.size∧w.heap.size≤w1.heap.size):=⟨by have:=hg1.lt 0 rfl;omega,hg1.1.size⟩
 clear b1 HC1 HB0 hW0 HK0 hk1 hg1
 clear c0 c1 c2 c3 c4 c5 c6 c7 c8 c9 c10 c11 c12 c13 c14
 go_wp2_with fail
 generalize w1.alloc (.cells #[.string ⟨#[]⟩,.string ⟨#[]⟩] 25)=W2 at HG1 ⊢
 generalize w1.heap.size=n9 at HG1 HNE ⊢
 go_loopw [10] (fun v wr=>∃(k:Nat) (q:Rat),v=.int .i64 (k:Int)∧k≤ls.length∧q=totQ i (ls.take k) d∧BX w [(n9,fobj q),(w.heap.size,.cells i.cells 27 (0,0))] wr) (fun v _=>ls.length-(intOf v).toNat)
 case atStart=>exact⟨0,0,rfl,by omega,rfl,HG1.out⟩
 case round =>
  obtain⟨k,q,rfl,hk,hq,hb⟩:=hrel
  have HQ:=hI hq
  have HB:=hI hb
  clear hq hb HG1
  rcases Aam k ls.length with hlt|hge
  ·obtain⟨x,hl⟩:∃x,ls[k]?=some x:=⟨_,Aae hlt⟩
   obtain⟨ad,rfl,had,hcell⟩:=HR.out (by intro e;rw[e] at hlt;cases hlt)
   have hcx:decide ((k:Int)<(ls.length:Int))=true:=by simp;omega
   have HKN:Hid ((k:Int)<(ls.length:Int)):=by show (k:Int)<_;omega
   have hkb:(k:Int)<(ls.length:Int):=by omega
   have HC:Hid (∀W,Below w.heap.size w W→LotAt W (ad.add (k*7)) x.1):=fun W hW=>(hcell k x hl).below (hW.mono HN0.out) (by rw[Acj];exact had)
   obtain⟨p0,p1,p2,p3,p4,p5,p6⟩:=HC.out wr HB.out.1
   obtain⟨c0,c1,c2,c3,c4,c5,c6,c7,c8,c9,c10,c11,c12,c13,c14⟩:=Avp (HB.out.get 1 rfl)
   have HOS:=hI (Apf (s:=i.id) hl)
   have hse:=Aph x.1.inst i.id
   have hmem:x∈ls:=Aas hl
   have HEX1:=hI (HEX0.out x hmem)
   have HBX1:=hI (HBX.out x hmem)
   clear hcell hl hmem
   by_cases he:x.1.inst=i.id
   ·rw[Aax he] at hse
    have hos:=HOS.out
    rw[if_pos he] at hos
    obtain⟨xq,hxq⟩:∃r,Apv i x.1 d=r:=⟨_,rfl⟩
    obtain⟨s2,hs2⟩:∃r,q+xq=r:=⟨_,rfl⟩
    have HST:Hid (s2=totQ i (ls.take (k+1)) d):=by
     rw[Hid,←hs2,←hxq,HQ.out]
     unfold totQ
     rw[hos,List.map_append,List.map_cons,List.map_nil,Aqh]
    have bq:BdQ q 900:=by rw[HQ.out];exact HBD.out k
    have bx:BdQ xq 900:=by rw[←hxq];exact HBX1.out.mono (by omega)
    have HAX0:=hI (fun W=>Aq2 bq bx (by omega) W)
    rw[hs2] at HAX0
    rw[hxq] at HEX1
    obtain⟨l,hle⟩:∃l,x.1=l:=⟨_,rfl⟩
    rw[hle] at HEX1 HC p0 p1 p2 p3 p4 p5 p6 hse
    unfold Lot.enc Lot.cells fenc at HEX1
    unfold fenc at HAX0
    have HEX:Hid (∀W,BX w [(w.heap.size,.cells i.cells 27 (0,0))] W→Calls Tryz.prog 73 #[.agg #[.string i.id,.int .i64 i.kind,.string i.cur,.int .i64 i.places,.int .i64 i.issued,.int .i64 i.matures,.string i.fn,.string i.fd,.string i.cn,.string i.cd,.int .i64 i.months,.int .i64 i.count,.string i.other,.string i.sn,.string i.sd],.agg #[.string l.id,.string l.inst,.int .i64 l.acq,.int .i64 l.opn,.string l.qty,.string l.cost,.string l.used],.int .i64 d] W fun e w'=>e=.returned (.agg #[.string (I xq.num),.string (dn xq)])∧Below W.heap.size W w'):=fun W hW=>HEX1.out W hW.1
    have HAX:Hid (∀W,BX w [(w.heap.size,.cells i.cells 27 (0,0))] W→Calls Tryz.prog 72 #[.agg #[.string (I q.num),.string (dn q)],.agg #[.string (I xq.num),.string (dn xq)]] W fun e w'=>e=.returned (.agg #[.string (I s2.num),.string (dn s2)])∧Below W.heap.size W w'):=fun W _=>HAX0.out W
    clear he hos bq bx hs2 hxq hle HEX0 HEX1 HAX0 HBX HBX1 HBD HOS HQ
    go_wp2_with fail
    go_quiet (fail)
    have HB8:=hI (BX.drewN HB.out nq)
    generalize wr.drewN nq=W8 at HB8 ⊢
    clear p0 p1 p2 p3 p4 p5 p6 HB c0 c1 c2 c3 c4 c5 c6 c7 c8 c9 c10 c11 c12 c13 c14
    go_upto_region 9 with fail
    have hg:BX w [(w.heap.size,.cells i.cells 27 (0,0))] W8:=⟨HB8.out.1,fun z hz=>HB8.out.2 z (Aav _ hz)⟩
    have hko9:W8.heap[n9]?=some (fobj q):=HB8.out.get 0 rfl
    have mixed:Tryz.prog.follows .mixedOrders=true:=by kernel_rfl
    have mixed:Tryz.prog.follows .mixedOrders=true:=by kernel_rfl
    refine wp_region_any mixed (Arn (RTTJ w i ad _ c k n9 d l q xq s2 _ _ _ _ _ _ _ _ _ _ _ _ _ _ _ _ _ _ _ _ _ _ _ _ _ _ _ _ _ _) ?stRTT ?dnRTT _ _ _ _ ⟨by simp,⟨_,_,_,_,_,_,_,_,_,rfl,fun h=>by simp at h,fun h=>by simp at h,fun h=>by simp at h,fun h=>by simp at h,fun h=>by simp at h,fun h=>by simp at h,fun h=>by simp at h,fun h=>by simp at h,fun h=>by simp at h,by first|exact hg|exact hg.drew|exact hg.drew.drew,fun _=>by first|exact hko9|exact hko9,fun h=>by simp at h,fun h=>by simp at h⟩⟩ (by decide))
    case dnRTT =>
     intro L a w' hj hr
     have all:=Aqb hr hj.sz (by kernel_rfl)
     obtain⟨s33,s34,s35,s36,s37,s38,s39,s40,s41,rfl,hv⟩:=hj.fr
     have HF:=hI (And.intro (hv.n9 (all 9 (by omega))) hv.bx)
     clear all hv hj hr
     have HG9:Hid (BX w [(n9,fobj s2),(w.heap.size,.cells i.cells 27 (0,0))] w'):=⟨HF.out.2.1,fun x hx=>by
      rcases List.mem_cons.1 hx with rfl|hx
      ·exact HF.out.1
      ·exact HF.out.2.2 x hx⟩
     clear HF
     go_wp2_with fail
     go_roundw
     case rel=>exact⟨k+1,s2,by go_num,by omega,HST.out,HG9.out⟩
     case measure=>simp[intOf];omega
    case stRTT =>
     intro L a w' hj i hi
     obtain⟨hun,o,ho,hall⟩:=mem_ready.1 hi
     have hoff:=Ap2 hun
     have hlt:=(Aab.1 ho).1
     simp at hlt
     obtain⟨s33,s34,s35,s36,s37,s38,s39,s40,s41,rfl,hv⟩:=hj.fr
     have HV:=hI hv
     have HJ:=hI hj
     clear hv hj
     rcases (show i=0∨i=1∨i=2∨i=3∨i=4∨i=5∨i=6∨i=7∨i=8∨i=9 from by omega) with rfl|rfl|rfl|rfl|rfl|rfl|rfl|rfl|rfl|rfl
     ·simp at ho
      subst ho
      clear hall hi
      have hk9:L.getD 9 false=false:=(Ap7 L 9).resolve_right (fun h=>Ap6 hoff (HV.out.d9_0 h))
      obtain⟨u0,u1⟩:=Atb (HV.out.o9 hk9)
      refine Ap9 rfl fun K' HK=>?_
      go_simp
      cases HV.out
      refine HK.out _ _ ⟨by simp[HJ.out.sz],⟨_,_,_,_,_,_,_,_,_,rfl,fun _=>rfl,?_,?_,?_,?_,?_,?_,?_,?_,HV.out.bx,fun h0=>HV.out.o9 (Ap5 h0),?_,fun h=>Ap3 hun (HV.out.d9_0 (Ap4 h))⟩⟩
      all_goals exact Um (by assumption)
     ·simp at ho
      subst ho
      clear hall hi
      obtain⟨c0,c1,c2,c3,c4,c5,c6,c7,c8,c9,c10,c11,c12,c13,c14⟩:=Avp (HV.out.bx.get 0 rfl)
      refine Ap9 rfl fun K' HK=>?_
      go_simp
      cases HV.out
      refine HK.out _ _ ⟨by simp[HJ.out.sz],⟨_,_,_,_,_,_,_,_,_,rfl,?_,fun _=>rfl,?_,?_,?_,?_,?_,?_,?_,HV.out.bx,fun h0=>HV.out.o9 (Ap5 h0),?_,fun h=>Ap3 hun (HV.out.d9_0 (Ap4 h))⟩⟩
      all_goals exact Um (by assumption)
     ·simp at ho
      subst ho
      clear hall hi
      refine Ap9 rfl fun K' HK=>?_
      go_simp
      cases HV.out
      refine HK.out _ _ ⟨by simp[HJ.out.sz],⟨_,_,_,_,_,_,_,_,_,rfl,?_,?_,fun _=>rfl,?_,?_,?_,?_,?_,?_,HV.out.bx,fun h0=>HV.out.o9 (Ap5 h0),?_,fun h=>Ap3 hun (HV.out.d9_0 (Ap4 h))⟩⟩
      all_goals exact Um (by assumption)
     ·simp at ho
      subst ho
      clear hall hi
      refine Ap9 rfl fun K' HK=>?_
      go_simp
      cases HV.out
      refine HK.out _ _ ⟨by simp[HJ.out.sz],⟨_,_,_,_,_,_,_,_,_,rfl,?_,?_,?_,fun _=>rfl,?_,?_,?_,?_,?_,HV.out.bx,fun h0=>HV.out.o9 (Ap5 h0),?_,fun h=>Ap3 hun (HV.out.d9_0 (Ap4 h))⟩⟩
      all_goals exact Um (by assumption)
     ·simp at ho
      subst ho
      have h2x:L.getD 2 false=true:=hall {on:=2,ground:=Ground.data} (by simp) (by decide)
      have h3x:L.getD 3 false=true:=hall {on:=3,ground:=Ground.data} (by simp) (by decide)
      have H2:=hI h2x
      have H3:=hI h3x
      clear hall hi h2x h3x
      have e0:=HV.out.k2 H2.out
      subst e0
      have e1:=HV.out.k3 H3.out
      subst e1
      have hb:=HKN.out
      refine Ap9 rfl fun K' HK=>?_
      go_simp
      cases HV.out
      refine HK.out _ _ ⟨by simp[HJ.out.sz],⟨_,_,_,_,_,_,_,_,_,rfl,?_,?_,?_,?_,fun _=>rfl,?_,?_,?_,?_,HV.out.bx,fun h0=>HV.out.o9 (Ap5 h0),?_,fun h=>Ap3 hun (HV.out.d9_0 (Ap4 h))⟩⟩
      all_goals exact Um (by assumption)
     ·simp at ho
      subst ho
      have h4x:L.getD 4 false=true:=hall {on:=4,ground:=Ground.data} (by simp) (by decide)
      have H4:=hI h4x
      clear hall hi h4x
      have e0:=HV.out.k4 H4.out
      subst e0
      obtain⟨p0,p1,p2,p3,p4,p5,p6⟩:=HC.out _ HV.out.bx.1
      refine Ap9 rfl fun K' HK=>?_
      go_simp
      cases HV.out
      refine HK.out _ _ ⟨by simp[HJ.out.sz],⟨_,_,_,_,_,_,_,_,_,rfl,?_,?_,?_,?_,?_,fun _=>rfl,?_,?_,?_,HV.out.bx,fun h0=>HV.out.o9 (Ap5 h0),?_,fun h=>Ap3 hun (HV.out.d9_0 (Ap4 h))⟩⟩
      all_goals exact Um (by assumption)
     ·simp at ho
      subst ho
      clear hall hi
      refine Ap9 rfl fun K' HK=>?_
      go_simp
      cases HV.out
      refine HK.out _ _ ⟨by simp[HJ.out.sz],⟨_,_,_,_,_,_,_,_,_,rfl,?_,?_,?_,?_,?_,?_,fun _=>rfl,?_,?_,HV.out.bx,fun h0=>HV.out.o9 (Ap5 h0),?_,fun h=>Ap3 hun (HV.out.d9_0 (Ap4 h))⟩⟩
      all_goals exact Um (by assumption)
     ·simp at ho
      subst ho
      have h1x:L.getD 1 false=true:=hall {on:=1,ground:=Ground.data} (by simp) (by decide)
      have h5x:L.getD 5 false=true:=hall {on:=5,ground:=Ground.data} (by simp) (by decide)
      have h6x:L.getD 6 false=true:=hall {on:=6,ground:=Ground.data} (by simp) (by decide)
      have H1:=hI h1x
      have H5:=hI h5x
      have H6:=hI h6x
      clear hall hi h1x h5x h6x
      have e0:=HV.out.k1 H1.out
      subst e0
      have e1:=HV.out.k5 H5.out
      subst e1
      have e2:=HV.out.k6 H6.out
      subst e2
      refine Ap9 rfl fun K' HK=>?_
      go_simp
      refine (HEX.out _ HV.out.bx).mono ?_
      rintro e wn ⟨rfl,hbn⟩
      cases HV.out
      refine HK.out _ _ ⟨by simp[HJ.out.sz],⟨_,_,_,_,_,_,_,_,_,rfl,?_,?_,?_,?_,?_,?_,?_,fun _=>rfl,?_,HV.out.bx.below hbn,fun h=>bkeep hbn (HV.out.o9 (Ap5 h)),fun h=>bkeep hbn (HV.out.n9 (Ap4 h)),fun h=>Ap3 hun (HV.out.d9_0 (Ap4 h))⟩⟩
      all_goals exact Um (by assumption)
     ·simp at ho
      subst ho
      have h0x:L.getD 0 false=true:=hall {on:=0,ground:=Ground.data} (by simp) (by decide)
      have h7x:L.getD 7 false=true:=hall {on:=7,ground:=Ground.data} (by simp) (by decide)
      have H0:=hI h0x
      have H7:=hI h7x
      clear hall hi h0x h7x
      have e0:=HV.out.k0 H0.out
      subst e0
      have e1:=HV.out.k7 H7.out
      subst e1
      refine Ap9 rfl fun K' HK=>?_
      go_simp
      refine (HAX.out _ HV.out.bx).mono ?_
      rintro e wn ⟨rfl,hbn⟩
      cases HV.out
      refine HK.out _ _ ⟨by simp[HJ.out.sz],⟨_,_,_,_,_,_,_,_,_,rfl,?_,?_,?_,?_,?_,?_,?_,?_,fun _=>rfl,HV.out.bx.below hbn,fun h=>bkeep hbn (HV.out.o9 (Ap5 h)),fun h=>bkeep hbn (HV.out.n9 (Ap4 h)),fun h=>Ap3 hun (HV.out.d9_0 (Ap4 h))⟩⟩
      all_goals exact Um (by assumption)
     ·simp at ho
      subst ho
      have h8x:L.getD 8 false=true:=hall {on:=8,ground:=Ground.data} (by simp) (by decide)
      have h0x:L.getD 0 false=true:=hall {on:=0,ground:=Ground.phase} (by simp) (by decide)
      have H8:=hI h8x
      have H0:=hI h0x
      clear hall hi h8x h0x
      have e0:=HV.out.k8 H8.out
      subst e0
      have hko:=HV.out.o9 hoff
      have m0:=Aaa hko 0;have m1:=Aaa hko 1;have f0:=Aaf hko 0;have f1:=Aaf hko 1
      simp at m0 m1 f0 f1
      obtain⟨e1,e2⟩:=HNE.out
      refine Ap9 rfl fun K' HK=>?_
      go_simp
      cases HV.out
      refine HK.out _ _ ⟨by simp[HJ.out.sz],⟨_,_,_,_,_,_,_,_,_,rfl,?_,?_,?_,?_,?_,?_,?_,?_,?_,HV.out.bx.far (b:=n9) (by omega) (by simp<;>omega) _ _,fun h=>(Ap6 h (Ap0 hun)).elim,fun _=>set2 hko _ _,fun _=>Ap3 hun H0.out⟩⟩
      all_goals exact Um (by assumption)
   ·rw[Aay he] at hse
    have hos:=HOS.out
    rw[if_neg he,List.append_nil] at hos
    have HO:Hid (q=totQ i (ls.take (k+1)) d):=by
     rw[Hid,HQ.out];unfold totQ;rw[hos]
    clear hos he
    go_wp2_with fail
    go_quiet (fail)
    go_wp2_with fail
    go_roundw
    case rel=>exact⟨k+1,q,by go_num,by omega,HO.out,(by first|exact HB.out|exact BX.drewN HB.out _|exact BX.drewN (BX.drewN HB.out _) _)⟩
    case measure=>simp[intOf];omega
  ·have hcx:decide ((k:Int)<(ls.length:Int))=false:=by simp;omega
   have hq:=HQ.out
   rw[Aai hge] at hq
   have HB':=hI HB.out
   obtain⟨u0,u1⟩:=Atb (HB.out.get 0 rfl)
   have HRQ:Hid (∀W,Calls Tryz.prog 68 #[.agg #[.string (I q.num),.string (dn q)]] W fun e w'=>e=.returned (.string (I (rnd (totQ i ls d))))∧Below W.heap.size W w'):=by rw[Hid,hq];exact HRO.out
   clear hq
   go_wp2_with fail
   refine (HRQ.out _).mono ?_
   rintro e w5 ⟨rfl,b5⟩
   have HB5:=hI (HB.out.1.trans (b5.mono HB.out.1.size))
   clear b5 u0 u1 HB' HB
   go_wp2_with fail
   go_ret2
   exact⟨rfl,HB5.out⟩
theorem Aw5(n₀:Nat)(i:Inst)(A:Option Addr)(ls:List SLot)(c:Nat)(hc:ls.length≤c)(hlm:ls.length≤12)(hi:i.tiny)(hti:∀l∈ls,l.1.tiny)(d:Int)(w:World)(hR:RdB n₀ w A ls)(hn:n₀≤w.heap.size)(ht:Tabs w):
 Calls Tryz.prog 25 #[i.enc,.slice A ls.length c,.int .i64 d] w fun e w'=>e=.returned (.tuple #[.string (boV i ls d),.int .i64 (achkL i ls d)])∧Below w.heap.size w w':=by
 obtain⟨W0,hW0,hB0,hz,hk⟩:=ibox i w
 obtain⟨c0,c1,c2,c3,c4,c5,c6,c7,c8,c9,c10,c11,c12,c13,c14⟩:=Avp hk
 have HB0:=hI hB0
 have HK0:Hid (InstBox W0 w.heap.size i):=hk
 have HC1:=hI (Aw4 n₀ i A ls c hc hlm hi hti d W0 (hR.below (hB0.mono hn)) (Aap hn hB0.size) (ht.below hB0))
 by_cases h0:achkL i ls d=0
 case neg =>
  rw[show boV i ls d=⟨#[]⟩ from by unfold boV;rw[if_pos h0]]
  generalize toV i ls d=tv at HC1
  generalize achkL i ls d=n at *
  have t1:(n==0)=false:=Aaj.2 h0
  have t1':(n != 0)=true:=by rw[bne,t1];rfl
  clear h0 hR ht hB0 hk hz hi hti HK0
  unfold Inst.enc Inst.cells at *
  go_enter Tryz.func25,Tryz.ntmps25
  go_wp2_with fail
  refine HC1.out.mono ?_
  rintro e w1 ⟨rfl,b1⟩
  have HB1:=hI (HB0.out.trans (b1.mono HB0.out.size))
  clear b1 HC1 HB0 hW0
  clear c0 c1 c2 c3 c4 c5 c6 c7 c8 c9 c10 c11 c12 c13 c14
  go_wp2_with fail
  go_ret2
  exact⟨rfl,HB1.out⟩
 obtain⟨hok,hall,hdy⟩:=Avn h0
 rw[h0] at HC1 ⊢
 rw[show boV i ls d=I (sumBy costOf (ownL ls i.id)+rnd (totQ i ls d)) from by unfold boV;rw[if_neg (fun x=>x h0)]]
 rw[show toV i ls d=I (rnd (totQ i ls d)) from by unfold toV;rw[if_neg (fun x=>x h0)]] at HC1
 have hlo:=(Avi hall).lots
 have hop:∀l∈ls,okDay l.1.opn:=fun l hl=>(hlo.ok l.1 (List.mem_map.2 ⟨l,hl,rfl⟩)).2.opn
 have hex:ExOk i d:=⟨by have:=hi.2.2.2.1;omega,by have:=hi.2.2.2.2.1;omega,hdy,hok.mt⟩
 have zr:=rnd_size (Aw3 hex hi hti hop hlm)
 obtain⟨K,hK⟩:∃K,K=1000:=⟨_,rfl⟩
 have zc:=sumBy_size (cost_lt hK) (ownL ls i.id) (by have:(ownL ls i.id).length≤12:=Aap (List.length_filter_le _ _) hlm;omega)
 have HTO:=hI (fun W (hb:Below w.heap.size w W)=>Av2 W.heap.size A ls c i.id W (by omega) ((hR.below (hb.mono hn)).up (Aap hn hb.size)) (Aad _))
 have HAD:=hI (fun W=>Ahs (I (sumBy costOf (ownL ls i.id))) (I (rnd (totQ i ls d))) (by omega) (by omega) W)
 rw[vl_I,vl_I] at HAD
 generalize sumBy costOf (ownL ls i.id)=sc at *
 generalize sumBy qtyOf (ownL ls i.id)=sq at *
 generalize rnd (totQ i ls d)=rq at *
 clear h0 hR ht hB0 hk hz hi hti hok hall hdy hlo hop hex zr zc hK
 unfold Inst.enc Inst.cells at *
 go_enter Tryz.func25,Tryz.ntmps25
 go_wp2_with fail
 refine HC1.out.mono ?_
 rintro e w1 ⟨rfl,b1⟩
 have HB1:=hI (HB0.out.trans (b1.mono HB0.out.size))
 have hk1:=HK0.out.below b1
 clear c0 c1 c2 c3 c4 c5 c6 c7 c8 c9 c10 c11 c12 c13 c14
 obtain⟨c0,c1,c2,c3,c4,c5,c6,c7,c8,c9,c10,c11,c12,c13,c14⟩:=Avp hk1
 clear b1 hk1 HB0 HK0 HC1 hW0
 go_wp2_with fail
 refine (HTO.out _ HB1.out).mono ?_
 rintro e w2 ⟨rfl,b2⟩
 have HB2:=hI (HB1.out.trans (b2.mono HB1.out.size))
 clear b2 HB1 HTO
 clear c0 c1 c2 c3 c4 c5 c6 c7 c8 c9 c10 c11 c12 c13 c14
 go_wp2_with fail
 refine (HAD.out _).mono ?_
 rintro e w3 ⟨rfl,b3⟩
 have B3:=HB2.out.trans (b3.mono HB2.out.size)
 clear b3
 go_wp2_with fail
 go_ret2
 exact⟨rfl,B3⟩
end Go.Proofs.YtcnmoobojdopgaaGreatDoor
