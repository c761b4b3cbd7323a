/-
  The walk of tranchelaw11.BondPeriods. (Printed by gen_law35.py.)
-/
import Derived.Test.YteennkgpeiafaaaGreatDoorG49
set_option linter.unusedVariables false
set_option linter.unusedSimpArgs false
set_option maxHeartbeats 16000000
set_option maxRecDepth 100000
namespace Go.Proofs.YteennkgpeiafaaaGreatDoor
open Go.RowKit Tr Go.Shelf
theorem RdPw.step{w w':World}{A:Option Addr}{ps:List (Int×Int)}(h:RdPw w.heap.size w A ps)(hb:Below w.heap.size w w'):RdPw w'.heap.size w' A ps:=by
 intro hl
 obtain⟨ad,e,h1,h2⟩:=(h.belowC hb) hl
 exact⟨ad,e,Aah h1 hb.size,h2⟩
theorem RdFw.step{w w':World}{A:Option Addr}{ps:List (Int×Rat)}(h:RdFw w.heap.size w A ps)(hb:Below w.heap.size w w'):RdFw w'.heap.size w' A ps:=by
 intro hl
 obtain⟨ad,e,h1,h2⟩:=(h.belowC hb) hl
 exact⟨ad,e,Aah h1 hb.size,h2⟩
theorem Auu{i:Inst}:(perB i).length≤400:=by
 unfold perB
 split
 ·rename_i h
  have h1:=(perC_zero h).2.2
  have h2:=Ajd i.issued i.matures i.months
  show (pers i.issued i.matures i.months).length≤400
  omega
 ·exact Nat.zero_le _
theorem fwB_len{i:Inst}:(fwB i).length≤400:=by
 unfold fwB
 split
 ·rename_i h
  have h1:=(perC_zero h).2.2
  have h2:=Ajd i.issued i.matures i.months
  have h3:=Ari i
  have h4:(perL i).length=(pers i.issued i.matures i.months).length:=rfl
  omega
 ·exact Nat.zero_le _
theorem rsB_len{i:Inst}{d:Int}:(rsB i d).length≤400:=by
 unfold rsB
 split
 ·rename_i h
  have h0:perC i=0:=by
   unfold rsC at h
   split at h
   ·rename_i h5;exact absurd h h5
   ·rename_i h5;exact Classical.not_not.1 h5
  have h1:=(perC_zero h0).2.2
  have h2:=Ajd i.issued i.matures i.months
  have h3:=Atm i d
  have h4:(perL i).length=(pers i.issued i.matures i.months).length:=rfl
  omega
 ·exact Nat.zero_le _
theorem Auv(i:Inst)(z d:Int)(w:World)(ht:Tabs w):
 Calls Tryz.prog 6 #[i.enc,.int .i64 z,.int .i64 d] w fun e w'=>e=.returned (.bool true)∧Below w.heap.size w w':=by
 have HT:=hI ht
 have HGR:=hI (fun W=>rGreat11_ex i W)
 obtain⟨W0,hW0,hB0,hz,k0⟩:=ibox i w
 have HG0:Hid (BX w [(w.heap.size,Obj.cells i.cells 27 (0,0))] W0):=⟨hB0,fun x hx=>by
  rcases List.mem_cons.1 hx with rfl|hx
  ·exact k0
  ·cases hx⟩
 obtain⟨c0,c1,c2,c3,c4,c5,c6,c7,c8,c9,c10,c11,c12,c13,c14⟩:=Acs (k0)
 try simp[Inst.cells] at c0 c1 c2 c3 c4 c5 c6 c7 c8 c9 c10 c11 c12 c13 c14
 clear hB0 hz k0 ht
 unfold Inst.enc Inst.cells at *
 go_enter Tryz.func6,Tryz.ntmps6
 go_wp2_with fail
 try rw[hW0]
 refine (HGR.out _).mono ?_
 rintro e w1 ⟨rfl,x1⟩
 have HG1:=hI (HG0.out.below x1)
 clear x1 HG0 HGR hW0 c0 c1 c2 c3 c4 c5 c6 c7 c8 c9 c10 c11 c12 c13 c14
 cases hgr:greatB i
 case true =>
  clear hgr
  go_wp2_with fail
  refine (awake11_any _ (HT.out.below HG1.out.1)).mono ?_
  rintro e wz ⟨rfl,xz⟩
  have HBZ:=hI ((HG1.out.below xz).1)
  clear xz
  go_wp2_with fail
  go_ret
  exact⟨rfl,HBZ.out⟩
 have hg:=GI.of hgr
 have HP1:=hI (fun W (hW:Tabs W)=>Atu hg W hW)
 have HP2:=hI (fun W=>Auk hg W)
 have HC1:=hI (fun W (hW:Tabs W)=>Atv hg z W hW)
 have HC2:=hI (fun W=>Aum hg z W)
 have HF1:=hI (fun W (hW:Tabs W)=>Atw hg W hW)
 have HF2:=hI (fun W=>Auq hg W)
 have HR1:=hI (fun W (hW:Tabs W)=>Atx hg d W hW)
 have HR2:=hI (fun W=>Aur hg d W)
 have b1:=Auu (i:=i)
 have b2:=fwB_len (i:=i)
 have b3:=rsB_len (i:=i) (d:=d)
 clear hgr hg
 generalize perB i=L1 at *
 generalize fwB i=L2 at *
 generalize rsB i d=L3 at *
 generalize perC i=n1 at *
 generalize rsC i d=n2 at *
 generalize cpC i z=n3 at *
 generalize cpQ i z=q at *
 have HLE:=hI (And.intro b1 (And.intro b2 b3))
 clear b1 b2 b3
 unfold Inst.enc Inst.cells at HP1 HP2 HC1 HC2 HF1 HF2 HR1 HR2
 unfold fenc at HC1 HC2
 obtain⟨c0,c1,c2,c3,c4,c5,c6,c7,c8,c9,c10,c11,c12,c13,c14⟩:=Acs (HG1.out.get 0 rfl)
 try simp[Inst.cells] at c0 c1 c2 c3 c4 c5 c6 c7 c8 c9 c10 c11 c12 c13 c14
 go_wp2_with fail
 refine (HP1.out _ (HT.out.below HG1.out.1)).mono ?_
 rintro e w2 ⟨⟨A2,k2,rfl,r2,_⟩,x2⟩
 have HG2:=hI (HG1.out.below x2)
 have S2:=hI r2
 clear r2 x2 HG1 HP1 c0 c1 c2 c3 c4 c5 c6 c7 c8 c9 c10 c11 c12 c13 c14
 as_aux_lemma =>
 obtain⟨c0,c1,c2,c3,c4,c5,c6,c7,c8,c9,c10,c11,c12,c13,c14⟩:=Acs (HG2.out.get 0 rfl)
 try simp[Inst.cells] at c0 c1 c2 c3 c4 c5 c6 c7 c8 c9 c10 c11 c12 c13 c14
 go_wp2_with fail
 refine (HP2.out _).mono ?_
 rintro e w3 ⟨⟨A3,k3,rfl,r3,_⟩,x3⟩
 have HG3:=hI (HG2.out.below x3)
 have S2:=hI (S2.out.step x3)
 have S3:=hI r3
 clear r3 x3 HG2 HP2 c0 c1 c2 c3 c4 c5 c6 c7 c8 c9 c10 c11 c12 c13 c14
 obtain⟨c0,c1,c2,c3,c4,c5,c6,c7,c8,c9,c10,c11,c12,c13,c14⟩:=Acs (HG3.out.get 0 rfl)
 try simp[Inst.cells] at c0 c1 c2 c3 c4 c5 c6 c7 c8 c9 c10 c11 c12 c13 c14
 go_wp2_with fail
 refine (HC1.out _ (HT.out.below HG3.out.1)).mono ?_
 rintro e w4 ⟨rfl,x4⟩
 obtain⟨V4,hV4⟩:∃V,w4.alloc (.cells #[.string (I q.num),.string (dn q)] 25)=V:=⟨_,rfl⟩
 have HG4:Hid (BX w [(w4.heap.size,fobj q),(w.heap.size,Obj.cells i.cells 27 (0,0))] V4):=by show BX _ _ _;rw[←hV4];exact (HG3.out.below x4).push (fobj q)
 have S2:Hid (RdPw V4.heap.size V4 A2 L1):=by show RdPw _ _ _ _;rw[←hV4];exact (S2.out.step x4).step ((Below.refl _ _).alloc (Aad _) _)
 have S3:Hid (RdPw V4.heap.size V4 A3 L1):=by show RdPw _ _ _ _;rw[←hV4];exact (S3.out.step x4).step ((Below.refl _ _).alloc (Aad _) _)
 clear x4 HG3 HC1 c0 c1 c2 c3 c4 c5 c6 c7 c8 c9 c10 c11 c12 c13 c14
 as_aux_lemma =>
 obtain⟨c0,c1,c2,c3,c4,c5,c6,c7,c8,c9,c10,c11,c12,c13,c14⟩:=Acs (HG4.out.get 1 rfl)
 try simp[Inst.cells] at c0 c1 c2 c3 c4 c5 c6 c7 c8 c9 c10 c11 c12 c13 c14
 go_wp2_with fail
 refine (HC2.out _).mono ?_
 rintro e w5 ⟨rfl,x5⟩
 obtain⟨V5,hV5⟩:∃V,w5.alloc (.cells #[.string (I q.num),.string (dn q)] 25)=V:=⟨_,rfl⟩
 have HG5:Hid (BX w [(w5.heap.size,fobj q),(w4.heap.size,fobj q),(w.heap.size,Obj.cells i.cells 27 (0,0))] V5):=by show BX _ _ _;rw[←hV5];exact (HG4.out.below x5).push (fobj q)
 have S2:Hid (RdPw V5.heap.size V5 A2 L1):=by show RdPw _ _ _ _;rw[←hV5];exact (S2.out.step x5).step ((Below.refl _ _).alloc (Aad _) _)
 have S3:Hid (RdPw V5.heap.size V5 A3 L1):=by show RdPw _ _ _ _;rw[←hV5];exact (S3.out.step x5).step ((Below.refl _ _).alloc (Aad _) _)
 clear x5 HG4 HC2 c0 c1 c2 c3 c4 c5 c6 c7 c8 c9 c10 c11 c12 c13 c14
 as_aux_lemma =>
 obtain⟨c0,c1,c2,c3,c4,c5,c6,c7,c8,c9,c10,c11,c12,c13,c14⟩:=Acs (HG5.out.get 2 rfl)
 try simp[Inst.cells] at c0 c1 c2 c3 c4 c5 c6 c7 c8 c9 c10 c11 c12 c13 c14
 go_wp2_with fail
 refine (HF1.out _ (HT.out.below HG5.out.1)).mono ?_
 rintro e w6 ⟨⟨A6,k6,rfl,r6⟩,x6⟩
 have HG6:=hI (HG5.out.below x6)
 have S2:=hI (S2.out.step x6)
 have S3:=hI (S3.out.step x6)
 have S6:=hI r6
 clear r6 x6 HG5 HF1 c0 c1 c2 c3 c4 c5 c6 c7 c8 c9 c10 c11 c12 c13 c14
 clear hV4 hV5
 as_aux_lemma =>
 obtain⟨c0,c1,c2,c3,c4,c5,c6,c7,c8,c9,c10,c11,c12,c13,c14⟩:=Acs (HG6.out.get 2 rfl)
 try simp[Inst.cells] at c0 c1 c2 c3 c4 c5 c6 c7 c8 c9 c10 c11 c12 c13 c14
 go_wp2_with fail
 refine (HF2.out _).mono ?_
 rintro e w7 ⟨⟨A7,k7,rfl,r7⟩,x7⟩
 have HG7:=hI (HG6.out.below x7)
 have S2:=hI (S2.out.step x7)
 have S3:=hI (S3.out.step x7)
 have S6:=hI (S6.out.step x7)
 have S7:=hI r7
 clear r7 x7 HG6 HF2 c0 c1 c2 c3 c4 c5 c6 c7 c8 c9 c10 c11 c12 c13 c14
 as_aux_lemma =>
 obtain⟨c0,c1,c2,c3,c4,c5,c6,c7,c8,c9,c10,c11,c12,c13,c14⟩:=Acs (HG7.out.get 2 rfl)
 try simp[Inst.cells] at c0 c1 c2 c3 c4 c5 c6 c7 c8 c9 c10 c11 c12 c13 c14
 go_wp2_with fail
 refine (HR1.out _ (HT.out.below HG7.out.1)).mono ?_
 rintro e w8 ⟨⟨A8,k8,rfl,r8⟩,x8⟩
 have HG8:=hI (HG7.out.below x8)
 have S2:=hI (S2.out.step x8)
 have S3:=hI (S3.out.step x8)
 have S6:=hI (S6.out.step x8)
 have S7:=hI (S7.out.step x8)
 have S8:=hI r8
 clear r8 x8 HG7 HR1 c0 c1 c2 c3 c4 c5 c6 c7 c8 c9 c10 c11 c12 c13 c14
 as_aux_lemma =>
 obtain⟨c0,c1,c2,c3,c4,c5,c6,c7,c8,c9,c10,c11,c12,c13,c14⟩:=Acs (HG8.out.get 2 rfl)
 try simp[Inst.cells] at c0 c1 c2 c3 c4 c5 c6 c7 c8 c9 c10 c11 c12 c13 c14
 go_wp2_with fail
 refine (HR2.out _).mono ?_
 rintro e w9 ⟨⟨A9,k9,rfl,r9⟩,x9⟩
 have HG9:=hI (HG8.out.below x9)
 have S2:=hI (S2.out.step x9)
 have S3:=hI (S3.out.step x9)
 have S6:=hI (S6.out.step x9)
 have S7:=hI (S7.out.step x9)
 have S8:=hI (S8.out.step x9)
 have S9:=hI r9
 clear r9 x9 HG8 HR2 c0 c1 c2 c3 c4 c5 c6 c7 c8 c9 c10 c11 c12 c13 c14
 as_aux_lemma =>
 have hq:=run_eql_self (I q.num) (dn q)
 obtain⟨b1,b2,b3⟩:=HLE.out
 have HE1:=hI (At4 A2 A3 L1 L1 k2 k3 (by omega) (by omega) _ _ w9 S2.out S3.out)
 have sl1:sameB L1 L1=true:=As7 rfl
 have sl2:sameB L2 L2=true:=As7 rfl
 have sl3:sameB L3 L3=true:=As7 rfl
 rw[sl1] at HE1
 clear sl1
 go_wp2_with fail
 refine HE1.out.mono ?_
 rintro e wf ⟨rfl,m,hwf⟩
 have y1:Below w9.heap.size w9 wf:=by rw[hwf];exact Acr (Below.refl _ _) m
 have HE2:=hI (Atf A6 A7 L2 L2 k6 k7 (by omega) (by omega) _ _ wf (S6.out.step y1) (S7.out.step y1))
 have HY1:=hI y1
 obtain⟨u0,u1⟩:=An6 ((HG9.out.below y1).get 1 rfl)
 obtain⟨v0,v1⟩:=An6 ((HG9.out.below y1).get 0 rfl)
 rw[sl2] at HE2
 clear sl2 HE1 hwf y1
 go_wp2_with fail
 refine HE2.out.mono ?_
 rintro e wg ⟨rfl,m2,hwf⟩
 have y2:Below w9.heap.size w9 wg:=by rw[hwf];exact Acr HY1.out m2
 have HE3:=hI (Atf A8 A9 L3 L3 k8 k9 (by omega) (by omega) _ _ wg (S8.out.step y2) (S9.out.step y2))
 have HY2:=hI y2
 rw[sl3] at HE3
 clear sl3 HE2 hwf y2
 go_wp2_with fail
 refine HE3.out.mono ?_
 rintro e wh ⟨rfl,m3,hwf⟩
 have y3:Below w9.heap.size w9 wh:=by rw[hwf];exact Acr HY2.out m3
 have HB9:=hI (HG9.out.below y3).1
 clear y3 HE3 hwf
 go_wp2_with fail
 refine (awake11_any _ (HT.out.below HB9.out)).mono ?_
 rintro e wz ⟨rfl,xz⟩
 have HBZ:=hI (HB9.out.trans (xz.mono HB9.out.size))
 clear xz
 go_wp2_with fail
 go_ret
 exact⟨rfl,HBZ.out⟩
end Go.Proofs.YteennkgpeiafaaaGreatDoor
