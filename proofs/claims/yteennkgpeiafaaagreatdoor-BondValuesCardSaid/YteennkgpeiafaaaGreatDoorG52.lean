/-
  The walk of tranchelaw11.BondValues. (Printed by gen_law35.py.)
-/
import Derived.Test.YteennkgpeiafaaaGreatDoorG51
set_option linter.unusedVariables false
set_option linter.unusedSimpArgs false
set_option maxHeartbeats 16000000
set_option maxRecDepth 100000
namespace Go.Proofs.YteennkgpeiafaaaGreatDoor
open Go.RowKit Tr Go.Shelf
theorem BondValues_any(i:Inst)(d:Int)(yn yd zn zd:ByteArray)(w:World)(ht:Tabs w):
 Calls Tryz.prog 3 #[i.enc,.int .i64 d,.agg #[.string yn,.string yd],.agg #[.string zn,.string zd]] w fun e w'=>e=.returned (.bool true)∧Below w.heap.size w w':=by
 have HT:=hI ht
 have HGR:=hI (fun W=>rGreat11_ex i W)
 obtain⟨W0,hW0',hB0,hz,k0,k1,k2⟩:=box3 w (.cells i.cells 27) (.cells #[.string yn,.string yd] 25) (.cells #[.string zn,.string zd] 25)
 have hW0:=hW0'.symm
 have HG0:Hid (BX w [(w.heap.size,Obj.cells i.cells 27 (0,0)),(w.heap.size+1,Obj.cells #[.string yn,.string yd] 25 (0,0)),(w.heap.size+2,Obj.cells #[.string zn,.string zd] 25 (0,0))] W0):=⟨hB0,fun x hx=>by
  rcases List.mem_cons.1 hx with rfl|hx
  ·exact k0
  ·rcases List.mem_cons.1 hx with rfl|hx
   ·exact k1
   ·rcases List.mem_cons.1 hx with rfl|hx
    ·exact k2
    ·cases hx⟩
 obtain⟨c0,c1,c2,c3,c4,c5,c6,c7,c8,c9,c10,c11,c12,c13,c14⟩:=Acs (k0)
 try simp[Inst.cells] at c0 c1 c2 c3 c4 c5 c6 c7 c8 c9 c10 c11 c12 c13 c14
 clear hB0 hz k0 k1 k2 ht hW0'
 unfold Inst.enc Inst.cells at *
 go_enter Tryz.func3,Tryz.ntmps3
 go_wp2_with fail
 refine (HGR.out _).mono ?_
 rintro e w1 ⟨rfl,x1⟩
 have HG1:=hI (HG0.out.below x1)
 clear x1 HG0 HGR hW0 c0 c1 c2 c3 c4 c5 c6 c7 c8 c9 c10 c11 c12 c13 c14
 cases hgr:greatB i
 case true =>
  clear hgr
  go_wp2_with fail
  refine (awake11_any _ (HT.out.below HG1.out.1)).mono ?_
  rintro e wz ⟨rfl,xz⟩
  have HBZ:=hI ((HG1.out.below xz).1)
  clear xz
  go_wp2_with fail
  go_ret
  exact⟨rfl,HBZ.out⟩
 have hlo:=fun W b (hk:W.heap[b]?=some (.cells #[.string yn,.string yd,.string zn,.string zd] 25 (0,0)))=>Atk [(yn,yd),(zn,zd)] 2 b rfl (by omega) W hk
 obtain⟨sb,hsb⟩:∃sb,propB (Ati [(yn,yd),(zn,zd)])=sb:=⟨_,rfl⟩
 rw[hsb] at hlo
 have HLO:=hI hlo
 have hg:=GI.of hgr
 obtain⟨y0,y1⟩:=An6 (HG1.out.get 1 rfl)
 obtain⟨z0,z1⟩:=An6 (HG1.out.get 2 rfl)
 clear hlo hgr
 go_wp2_with fail
 refine (HLO.out _ _ (Aa0 w1 _)).mono ?_
 rintro e w2 ⟨rfl,rfl⟩
 have HG2:Hid (BX w [(w.heap.size,Obj.cells i.cells 27 (0,0)),(w.heap.size+1,Obj.cells #[.string yn,.string yd] 25 (0,0)),(w.heap.size+2,Obj.cells #[.string zn,.string zd] 25 (0,0))] (w1.alloc (.cells #[.string yn,.string yd,.string zn,.string zd] 25))):=HG1.out.below ((Below.refl _ w1).alloc (Aad _) _)
 generalize w1.alloc (.cells #[.string yn,.string yd,.string zn,.string zd] 25)=w2 at HG2 ⊢
 clear HG1 HLO y0 y1 z0 z1
 cases sb
 case false =>
  clear hsb hg
  go_wp2_with fail
  refine (awake11_any _ (HT.out.below HG2.out.1)).mono ?_
  rintro e wz ⟨rfl,xz⟩
  have HBZ:=hI ((HG2.out.below xz).1)
  clear xz
  go_wp2_with fail
  go_ret
  exact⟨rfl,HBZ.out⟩
 have h13:=propB_iff.1 hsb
 have hsy:=h13 (yn,yd) (by simp)
 have hsz:=h13 (zn,zd) (by simp)
 simp only at hsy hsz
 have HA1:=hI (fun W (hW:Tabs W)=>At0 hg d W hW)
 have HA2:=hI (fun W=>Aut hg d W)
 have HP1:=hI (fun W (hW:Tabs W)=>At1 hg d yn yd (by omega) (by omega) W hW)
 have HP2:=hI (fun W=>Auw hg d yn yd (by omega) (by omega) W)
 have HD1:=hI (fun W (hW:Tabs W)=>Atz hg d zn zd (by omega) (by omega) W hW)
 have HD2:=hI (fun W=>Aus hg d zn zd (by omega) (by omega) W)
 clear hsb hg h13 hsy hsz
 generalize dyQ i d ⟨#[]⟩ ⟨#[]⟩=q1 at *
 generalize dyC i d ⟨#[]⟩ ⟨#[]⟩=n1 at *
 generalize prQ i d yn yd=q2 at *
 generalize prC i d yn yd=n2 at *
 generalize dyQ i d zn zd=q3 at *
 generalize dyC i d zn zd=n3 at *
 unfold Inst.enc Inst.cells fenc at HA1 HA2 HP1 HP2 HD1 HD2
 obtain⟨c0,c1,c2,c3,c4,c5,c6,c7,c8,c9,c10,c11,c12,c13,c14⟩:=Acs (HG2.out.get 0 rfl)
 try simp[Inst.cells] at c0 c1 c2 c3 c4 c5 c6 c7 c8 c9 c10 c11 c12 c13 c14
 go_wp2_with fail
 refine (HA1.out _ (HT.out.below HG2.out.1)).mono ?_
 rintro e w3 ⟨rfl,x3⟩
 obtain⟨V3,hV3⟩:∃V,w3.alloc (.cells #[.string (I q1.num),.string (dn q1)] 25)=V:=⟨_,rfl⟩
 have HG3:Hid (BX w [(w3.heap.size,fobj q1),(w.heap.size,Obj.cells i.cells 27 (0,0)),(w.heap.size+1,Obj.cells #[.string yn,.string yd] 25 (0,0)),(w.heap.size+2,Obj.cells #[.string zn,.string zd] 25 (0,0))] V3):=by show BX _ _ _;rw[←hV3];exact (HG2.out.below x3).push (fobj q1)
 clear x3 HG2 HA1 c0 c1 c2 c3 c4 c5 c6 c7 c8 c9 c10 c11 c12 c13 c14
 as_aux_lemma =>
 obtain⟨c0,c1,c2,c3,c4,c5,c6,c7,c8,c9,c10,c11,c12,c13,c14⟩:=Acs (HG3.out.get 1 rfl)
 try simp[Inst.cells] at c0 c1 c2 c3 c4 c5 c6 c7 c8 c9 c10 c11 c12 c13 c14
 go_wp2_with fail
 refine (HA2.out _).mono ?_
 rintro e w4 ⟨rfl,x4⟩
 obtain⟨V4,hV4⟩:∃V,w4.alloc (.cells #[.string (I q1.num),.string (dn q1)] 25)=V:=⟨_,rfl⟩
 have HG4:Hid (BX w [(w4.heap.size,fobj q1),(w3.heap.size,fobj q1),(w.heap.size,Obj.cells i.cells 27 (0,0)),(w.heap.size+1,Obj.cells #[.string yn,.string yd] 25 (0,0)),(w.heap.size+2,Obj.cells #[.string zn,.string zd] 25 (0,0))] V4):=by show BX _ _ _;rw[←hV4];exact (HG3.out.below x4).push (fobj q1)
 clear x4 HG3 HA2 c0 c1 c2 c3 c4 c5 c6 c7 c8 c9 c10 c11 c12 c13 c14 hV3
 as_aux_lemma =>
 obtain⟨c0,c1,c2,c3,c4,c5,c6,c7,c8,c9,c10,c11,c12,c13,c14⟩:=Acs (HG4.out.get 2 rfl)
 try simp[Inst.cells] at c0 c1 c2 c3 c4 c5 c6 c7 c8 c9 c10 c11 c12 c13 c14
 obtain⟨y0,y1⟩:=An6 (HG4.out.get 3 rfl)
 go_wp2_with fail
 refine (HP1.out _ (HT.out.below HG4.out.1)).mono ?_
 rintro e w5 ⟨rfl,x5⟩
 obtain⟨V5,hV5⟩:∃V,w5.alloc (.cells #[.string (I q2.num),.string (dn q2)] 25)=V:=⟨_,rfl⟩
 have HG5:Hid (BX w [(w5.heap.size,fobj q2),(w4.heap.size,fobj q1),(w3.heap.size,fobj q1),(w.heap.size,Obj.cells i.cells 27 (0,0)),(w.heap.size+1,Obj.cells #[.string yn,.string yd] 25 (0,0)),(w.heap.size+2,Obj.cells #[.string zn,.string zd] 25 (0,0))] V5):=by show BX _ _ _;rw[←hV5];exact (HG4.out.below x5).push (fobj q2)
 clear x5 HG4 HP1 c0 c1 c2 c3 c4 c5 c6 c7 c8 c9 c10 c11 c12 c13 c14 y0 y1 hV4
 as_aux_lemma =>
 obtain⟨c0,c1,c2,c3,c4,c5,c6,c7,c8,c9,c10,c11,c12,c13,c14⟩:=Acs (HG5.out.get 3 rfl)
 try simp[Inst.cells] at c0 c1 c2 c3 c4 c5 c6 c7 c8 c9 c10 c11 c12 c13 c14
 obtain⟨y0,y1⟩:=An6 (HG5.out.get 4 rfl)
 go_wp2_with fail
 refine (HP2.out _).mono ?_
 rintro e w6 ⟨rfl,x6⟩
 obtain⟨V6,hV6⟩:∃V,w6.alloc (.cells #[.string (I q2.num),.string (dn q2)] 25)=V:=⟨_,rfl⟩
 have HG6:Hid (BX w [(w6.heap.size,fobj q2),(w5.heap.size,fobj q2),(w4.heap.size,fobj q1),(w3.heap.size,fobj q1),(w.heap.size,Obj.cells i.cells 27 (0,0)),(w.heap.size+1,Obj.cells #[.string yn,.string yd] 25 (0,0)),(w.heap.size+2,Obj.cells #[.string zn,.string zd] 25 (0,0))] V6):=by show BX _ _ _;rw[←hV6];exact (HG5.out.below x6).push (fobj q2)
 clear x6 HG5 HP2 c0 c1 c2 c3 c4 c5 c6 c7 c8 c9 c10 c11 c12 c13 c14 y0 y1 hV5
 as_aux_lemma =>
 obtain⟨c0,c1,c2,c3,c4,c5,c6,c7,c8,c9,c10,c11,c12,c13,c14⟩:=Acs (HG6.out.get 4 rfl)
 try simp[Inst.cells] at c0 c1 c2 c3 c4 c5 c6 c7 c8 c9 c10 c11 c12 c13 c14
 obtain⟨y0,y1⟩:=An6 (HG6.out.get 6 rfl)
 go_wp2_with fail
 refine (HD1.out _ (HT.out.below HG6.out.1)).mono ?_
 rintro e w7 ⟨rfl,x7⟩
 obtain⟨V7,hV7⟩:∃V,w7.alloc (.cells #[.string (I q3.num),.string (dn q3)] 25)=V:=⟨_,rfl⟩
 have HG7:Hid (BX w [(w7.heap.size,fobj q3),(w6.heap.size,fobj q2),(w5.heap.size,fobj q2),(w4.heap.size,fobj q1),(w3.heap.size,fobj q1),(w.heap.size,Obj.cells i.cells 27 (0,0)),(w.heap.size+1,Obj.cells #[.string yn,.string yd] 25 (0,0)),(w.heap.size+2,Obj.cells #[.string zn,.string zd] 25 (0,0))] V7):=by show BX _ _ _;rw[←hV7];exact (HG6.out.below x7).push (fobj q3)
 clear x7 HG6 HD1 c0 c1 c2 c3 c4 c5 c6 c7 c8 c9 c10 c11 c12 c13 c14 y0 y1 hV6
 as_aux_lemma =>
 obtain⟨c0,c1,c2,c3,c4,c5,c6,c7,c8,c9,c10,c11,c12,c13,c14⟩:=Acs (HG7.out.get 5 rfl)
 try simp[Inst.cells] at c0 c1 c2 c3 c4 c5 c6 c7 c8 c9 c10 c11 c12 c13 c14
 obtain⟨y0,y1⟩:=An6 (HG7.out.get 7 rfl)
 go_wp2_with fail
 refine (HD2.out _).mono ?_
 rintro e w8 ⟨rfl,x8⟩
 obtain⟨V8,hV8⟩:∃V,w8.alloc (.cells #[.string (I q3.num),.string (dn q3)] 25)=V:=⟨_,rfl⟩
 have HG8:Hid (BX w [(w8.heap.size,fobj q3),(w7.heap.size,fobj q3),(w6.heap.size,fobj q2),(w5.heap.size,fobj q2),(w4.heap.size,fobj q1),(w3.heap.size,fobj q1),(w.heap.size,Obj.cells i.cells 27 (0,0)),(w.heap.size+1,Obj.cells #[.string yn,.string yd] 25 (0,0)),(w.heap.size+2,Obj.cells #[.string zn,.string zd] 25 (0,0))] V8):=by show BX _ _ _;rw[←hV8];exact (HG7.out.below x8).push (fobj q3)
 clear x8 HG7 HD2 c0 c1 c2 c3 c4 c5 c6 c7 c8 c9 c10 c11 c12 c13 c14 y0 y1 hV7
 as_aux_lemma =>
 obtain⟨a6,a6'⟩:=An6 (HG8.out.get 0 rfl)
 obtain⟨a5,a5'⟩:=An6 (HG8.out.get 1 rfl)
 obtain⟨a4,a4'⟩:=An6 (HG8.out.get 2 rfl)
 obtain⟨a3,a3'⟩:=An6 (HG8.out.get 3 rfl)
 obtain⟨a2,a2'⟩:=An6 (HG8.out.get 4 rfl)
 obtain⟨a1,a1'⟩:=An6 (HG8.out.get 5 rfl)
 have e1:=run_eql_self (I q1.num) (dn q1)
 have e2:=run_eql_self (I q2.num) (dn q2)
 have e3:=run_eql_self (I q3.num) (dn q3)
 go_wp2_with fail
 refine (awake11_any _ (HT.out.below HG8.out.1)).mono ?_
 rintro e wz ⟨rfl,xz⟩
 have HBZ:=hI ((HG8.out.below xz).1)
 clear xz
 go_wp2_with fail
 go_ret
 exact⟨rfl,HBZ.out⟩
end Go.Proofs.YteennkgpeiafaaaGreatDoor
