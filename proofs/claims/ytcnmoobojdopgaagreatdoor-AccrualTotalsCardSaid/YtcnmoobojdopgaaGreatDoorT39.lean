/-
  trancheref39.check on anything;trancheref39.Accrued. (Printed by gen_att.py.)
-/
import Derived.Test.YtcnmoobojdopgaaGreatDoorT32
import Derived.Test.YtcnmoobojdopgaaGreatDoorT38
set_option linter.unusedVariables false
set_option linter.unusedSimpArgs false
set_option maxHeartbeats 16000000
set_option maxRecDepth 100000
namespace Go.Proofs.YtcnmoobojdopgaaGreatDoor
open Go.RowKit Tr Go.Shelf
theorem Awz(n₀:Nat)(i:Inst)(A:Option Addr)(ls:List SLot)(c:Nat)(hc:ls.length≤c)(hlm:ls.length≤99)(hi:i.tiny)(hti:∀l∈ls,l.1.tiny)(d:Int)(w:World)(hR:RdB n₀ w A ls)(hn:n₀≤w.heap.size):
 Calls Tryz.prog 64 #[i.enc,.slice A ls.length c,.int .i64 d] w fun e w'=>e=.returned (.int .i64 (achkL i ls d))∧Below w.heap.size w w':=by
 obtain⟨W0,hW0,hB0,hz,hk⟩:=ibox i w
 obtain⟨c0,c1,c2,c3,c4,c5,c6,c7,c8,c9,c10,c11,c12,c13,c14⟩:=Avp hk
 have HB0:=hI hB0
 have HC1:=hI (Am6 i hi W0)
 have HC2:=hI (fun W (hb:Below w.heap.size w W)=>Ar6 A (ls.map Subtype.val) c (by rw[Aar];exact hc) (by rw[Aar];omega) (fun l hl=>by obtain⟨x,hx,rfl⟩:=List.mem_map.1 hl;exact hti x hx) W ((hR.below (hb.mono hn)).rdl (Aap hn hb.size)))
 have HV:=hI (fun W=>Ar9 d W)
 rw[Aar] at HC2
 obtain⟨la,hla⟩:∃n,lall (ls.map Subtype.val)=n:=⟨_,rfl⟩
 have HLA:=hI hla
 rw[hla] at HC2
 clear hR hB0 hk hz hi hla hti
 unfold Inst.enc Inst.cells at *
 go_enter Tryz.func64,Tryz.ntmps64
 go_wp2_with fail
 refine HC1.out.mono ?_
 rintro e w1 ⟨n,rfl,hn',b1⟩
 have HN:=hI hn'
 have HB1:=hI (HB0.out.trans (b1.mono HB0.out.size))
 clear b1 hn' HC1 HB0 hW0
 clear c0 c1 c2 c3 c4 c5 c6 c7 c8 c9 c10 c11 c12 c13 c14
 by_cases h1:n=0
 case neg =>
  have t1:(n==0)=false:=Aaj.2 h1
  have t1':(n != 0)=true:=by rw[bne,t1];rfl
  have H:=hI h1
  clear h1
  go_wp2_with fail
  go_ret
  exact⟨by rw[Avj (fun h=>H.out (HN.out.2 h.1))];rfl,HB1.out⟩
 have H1:=hI (HN.out.1 h1)
 subst h1
 go_wp2_with fail
 refine (HC2.out _ HB1.out).mono ?_
 rintro e w2 ⟨rfl,b2⟩
 have HB2:=hI (HB1.out.trans (b2.mono HB1.out.size))
 clear b2 HB1 HC2 HN
 by_cases h2:la=0
 case neg =>
  have t1:(la==0)=false:=Aaj.2 h2
  have t1':(la != 0)=true:=by rw[bne,t1];rfl
  have H:=hI h2
  clear h2
  go_wp2_with fail
  go_ret
  exact⟨by rw[Avj (fun h=>H.out (HLA.out▸h.2))];rfl,HB2.out⟩
 subst h2
 by_cases h3:okDay d
 case neg =>
  have H:=hI h3
  rw[Aay h3] at HV
  clear h3
  go_wp2_with fail
  refine (HV.out _).mono ?_
  rintro e w3 ⟨rfl,rfl⟩
  go_wp2_with fail
  go_ret
  exact⟨by rw[Avk H1.out HLA.out H.out];rfl,HB2.out⟩
 have H:=hI h3
 rw[Aax h3] at HV
 clear h3
 go_wp2_with fail
 refine (HV.out _).mono ?_
 rintro e w3 ⟨rfl,rfl⟩
 go_wp2_with fail
 go_ret
 exact⟨by rw[Avm H1.out HLA.out H.out];rfl,HB2.out⟩
theorem Aw0(n₀:Nat)(i:Inst)(A:Option Addr)(ls:List SLot)(c:Nat)(hc:ls.length≤c)(hlm:ls.length≤99)(hg:GI i)(hti:∀l∈ls,l.1.tiny)(d:Int)(w:World)(hR:RdB n₀ w A ls)(hn:n₀≤w.heap.size):
 Calls Tryz.prog 21 #[i.enc,.slice A ls.length c,.int .i64 d] w fun e w'=>e=.returned (.tuple #[.string (acV i ls d),.int .i64 (acC i ls d)])∧Below w.heap.size w w':=by
 obtain⟨W0,hW0,hB0,hz,hk⟩:=ibox i w
 obtain⟨c0,c1,c2,c3,c4,c5,c6,c7,c8,c9,c10,c11,c12,c13,c14⟩:=Avp hk
 have HB0:=hI hB0
 have HK0:Hid (InstBox W0 w.heap.size i):=hk
 have HC1:=hI (Awz n₀ i A ls c hc hlm hg.ti hti d W0 (hR.below (hB0.mono hn)) (Aap hn hB0.size))
 have HTO:=hI (fun W (hb:Below w.heap.size w W)=>Av2 W.heap.size A ls c i.id W (by omega) ((hR.below (hb.mono hn)).up (Aap hn hb.size)) (Aad _))
 have HPE:=hI (fun W=>Aww hg W)
 have HAC:=hI (fun W=>Awy hg d W)
 by_cases h0:achkL i ls d=0
 case neg =>
  obtain⟨e1,e2⟩:=Avq h0
  rw[e1,e2]
  generalize achkL i ls d=n at *
  have t1:(n==0)=false:=Aaj.2 h0
  have t1':(n != 0)=true:=by rw[bne,t1];rfl
  clear h0 hR hB0 hk hz hg e1 e2 HTO HAC HK0 hti HPE
  unfold Inst.enc Inst.cells at *
  go_enter Tryz.func21,Tryz.ntmps21
  go_wp2_with fail
  refine HC1.out.mono ?_
  rintro e w1 ⟨rfl,b1⟩
  have HB1:=hI (HB0.out.trans (b1.mono HB0.out.size))
  clear b1 HC1 HB0 hW0
  clear c0 c1 c2 c3 c4 c5 c6 c7 c8 c9 c10 c11 c12 c13 c14
  go_wp2_with fail
  go_ret2
  exact⟨rfl,HB1.out⟩
 obtain⟨hok,hall,hdy⟩:=Avn h0
 rw[h0] at HC1
 by_cases h2:i.kind=2
 case neg =>
  obtain⟨e1,e2⟩:=Avr h0 h2
  rw[e1,e2]
  have t1:(i.kind==2)=false:=Aaj.2 h2
  have t1':(i.kind != 2)=true:=by rw[bne,t1];rfl
  clear h0 hR hB0 hk hz hg e1 e2 HTO HAC hok hall hdy h2 hti HPE
  unfold Inst.enc Inst.cells at *
  go_enter Tryz.func21,Tryz.ntmps21
  go_wp2_with fail
  refine HC1.out.mono ?_
  rintro e w1 ⟨rfl,b1⟩
  have HB1:=hI (HB0.out.trans (b1.mono HB0.out.size))
  have hk1:=HK0.out.below b1
  clear c0 c1 c2 c3 c4 c5 c6 c7 c8 c9 c10 c11 c12 c13 c14
  obtain⟨c0,c1,c2,c3,c4,c5,c6,c7,c8,c9,c10,c11,c12,c13,c14⟩:=Avp hk1
  clear b1 HC1 HB0 hW0 hk1 HK0
  go_wp2_with fail
  go_ret2
  exact⟨rfl,HB1.out⟩
 have t2:(i.kind==2)=true:=beq_iff_eq.2 h2
 have t2':(i.kind != 2)=false:=by rw[bne,t2];rfl
 have hcs:=Avu hg hok h2 hdy
 have hpe:perC i=0→acC i ls d=0∧acV i ls d=I (rnd (dyQ i d ⟨#[]⟩ ⟨#[]⟩*(qtyS i ls:Rat))):=fun h3=>Avt h0 h2 h3
 have hpf:perC i≠0→acC i ls d=4∧acV i ls d=⟨#[]⟩:=fun h3=>Avs h0 h2 h3
 obtain⟨K,hK⟩:∃K,K=1000:=⟨_,rfl⟩
 obtain⟨M,hM⟩:∃M,M=2000:=⟨_,rfl⟩
 have zq:(I (sumBy qtyOf (ownL ls i.id))).size≤M:=by
  have:=sumBy_size (qty_lt hK) (ownL ls i.id) (by have:(ownL ls i.id).length≤99:=Aap (List.length_filter_le _ _) hlm;omega)
  omega
 have hqs:sumBy qtyOf (ownL ls i.id)=qtyS i ls:=rfl
 rw[hqs] at zq HTO
 generalize sumBy costOf (ownL ls i.id)=sc at *
 generalize hsq:qtyS i ls=sq at *
 have bn:BdQ (sq:Rat) M:=BdQ.int (by rw[←vl_I sq];exact Aah (vl_lt _) (Ac8 zq)) (by omega)
 by_cases hp:perC i=0
 case neg =>
  obtain⟨e1,e2⟩:=hpf hp
  rw[e1,e2]
  generalize perB i=pb at HPE
  generalize perC i=pc at *
  have t1:(pc==0)=false:=Aaj.2 hp
  have t1':(pc != 0)=true:=by rw[bne,t1];rfl
  clear h0 hR hB0 hk hz hg hti e1 e2 HTO HAC hok hall hdy h2 hpe hpf hp hcs bn zq hqs hsq hK
  unfold Inst.enc Inst.cells at *
  go_enter Tryz.func21,Tryz.ntmps21
  go_wp2_with fail
  refine HC1.out.mono ?_
  rintro e w1 ⟨rfl,b1⟩
  have HB1:=hI (HB0.out.trans (b1.mono HB0.out.size))
  have hk1:=HK0.out.below b1
  clear c0 c1 c2 c3 c4 c5 c6 c7 c8 c9 c10 c11 c12 c13 c14
  obtain⟨c0,c1,c2,c3,c4,c5,c6,c7,c8,c9,c10,c11,c12,c13,c14⟩:=Avp hk1
  clear b1 HC1 HB0 hW0 hk1 HK0
  go_wp2_with fail
  refine (HPE.out _).mono ?_
  rintro e w2 ⟨⟨Ap,kp,rfl,_,_⟩,b2⟩
  have HB2:=hI (HB1.out.trans (b2.mono HB1.out.size))
  clear b2 HB1 HPE
  clear c0 c1 c2 c3 c4 c5 c6 c7 c8 c9 c10 c11 c12 c13 c14
  go_wp2_with fail
  go_ret2
  exact⟨rfl,HB2.out⟩
 obtain⟨e1,e2⟩:=hpe hp
 rw[e1,e2]
 have bq:BdQ (dyQ i d ⟨#[]⟩ ⟨#[]⟩) 59:=by
  rcases hcs with⟨h,_⟩|⟨_,_,h⟩|⟨_,_,h,hbi⟩
  ·rw[hp] at h;exact absurd h (by decide)
  ·rw[h];exact BdQ.zero (by omega)
  ·rw[h];exact Avy hbi hdy
 rw[hp] at HPE
 generalize perB i=pb at HPE
 have HTI:=hI (fun W=>Ar7 (bq.mono (show 59≤2001 by omega)) (I sq) (by omega) (by omega) W)
 rw[vl_I] at HTI
 have HRO:=hI (fun W=>Ar8 (bq.mul bn) (by omega) (by omega) W)
 obtain⟨qn,hqn⟩:∃r:Rat,(sq:Rat)=r:=⟨_,rfl⟩
 rw[hqn] at HTI HRO ⊢
 generalize dyQ i d ⟨#[]⟩ ⟨#[]⟩=qa at *
 generalize dyC i d ⟨#[]⟩ ⟨#[]⟩=nd at *
 obtain⟨qm,hqm⟩:∃r:Rat,qa*qn=r:=⟨_,rfl⟩
 rw[hqm] at HTI HRO ⊢
 clear h0 hR hB0 hk hz hg hti e1 e2 hok hall hdy h2 hpe hpf hp hcs bn bq zq hqs hsq hK hqn hqm
 unfold Inst.enc Inst.cells at *
 go_enter Tryz.func21,Tryz.ntmps21
 go_wp2_with fail
 refine HC1.out.mono ?_
 rintro e w1 ⟨rfl,b1⟩
 have HB1:=hI (HB0.out.trans (b1.mono HB0.out.size))
 have hk1:=HK0.out.below b1
 clear c0 c1 c2 c3 c4 c5 c6 c7 c8 c9 c10 c11 c12 c13 c14
 obtain⟨c0,c1,c2,c3,c4,c5,c6,c7,c8,c9,c10,c11,c12,c13,c14⟩:=Avp hk1
 have HK1:=hI hk1
 clear b1 HC1 HB0 hW0 hk1 HK0
 go_wp2_with fail
 refine (HPE.out _).mono ?_
 rintro e w2 ⟨⟨Ap,kp,rfl,_,_⟩,b2⟩
 have HB2:=hI (HB1.out.trans (b2.mono HB1.out.size))
 have hk2:=HK1.out.below b2
 clear c0 c1 c2 c3 c4 c5 c6 c7 c8 c9 c10 c11 c12 c13 c14
 obtain⟨c0,c1,c2,c3,c4,c5,c6,c7,c8,c9,c10,c11,c12,c13,c14⟩:=Avp hk2
 have HK2:=hI hk2
 clear b2 HB1 hk2 HK1 HPE
 go_wp2_with fail
 refine (HTO.out _ HB2.out).mono ?_
 rintro e w3 ⟨rfl,b3⟩
 have HB3:=hI (HB2.out.trans (b3.mono HB2.out.size))
 have hk3:=HK2.out.below b3
 clear c0 c1 c2 c3 c4 c5 c6 c7 c8 c9 c10 c11 c12 c13 c14
 obtain⟨c0,c1,c2,c3,c4,c5,c6,c7,c8,c9,c10,c11,c12,c13,c14⟩:=Avp hk3
 clear b3 HB2 hk3 HK2 HTO
 go_wp2_with fail
 refine (HAC.out _).mono ?_
 rintro e w4 ⟨rfl,b4⟩
 have HB4:=hI (HB3.out.trans (b4.mono HB3.out.size))
 clear c0 c1 c2 c3 c4 c5 c6 c7 c8 c9 c10 c11 c12 c13 c14
 clear b4 HB3 HAC
 unfold fenc at HTI HRO ⊢
 obtain⟨W5,hW5⟩:∃W5,w4.alloc (.cells #[.string (I qa.num),.string (dn qa)] 25)=W5:=⟨_,rfl⟩
 have hB5:Below w.heap.size w W5:=by rw[←hW5];exact HB4.out.alloc HB4.out.size _
 have k5:W5.heap[w4.heap.size]?=some (.cells #[.string (I qa.num),.string (dn qa)] 25 (0,0)):=by rw[←hW5];exact Aaz w4 _
 have m0:=Aaa k5 0
 have m1:=Aaa k5 1
 simp at m0 m1
 have HB5:=hI hB5
 clear hB5 k5 HB4
 go_wp2_with fail
 refine (HTI.out _).mono ?_
 rintro e w6 ⟨rfl,b6⟩
 have HB6:=hI (HB5.out.trans (b6.mono HB5.out.size))
 clear b6 HB5 HTI m0 m1 hW5
 go_wp2_with fail
 refine (HRO.out _).mono ?_
 rintro e w7 ⟨rfl,b7⟩
 have HB7:=hI (HB6.out.trans (b7.mono HB6.out.size))
 clear b7 HB6 HRO
 go_wp2_with fail
 go_ret2
 exact⟨rfl,HB7.out⟩
end Go.Proofs.YtcnmoobojdopgaaGreatDoor
