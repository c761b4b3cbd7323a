/-
  tranchelaw39.AccrualTotals returns true. (Printed by gen_law37.py.)
-/
import Derived.Test.YtcnmoobojdopgaaGreatDoorT41
import Derived.Test.YtcnmoobojdopgaaGreatDoorT23
set_option linter.unusedVariables false
set_option linter.unusedSimpArgs false
set_option maxHeartbeats 16000000
set_option maxRecDepth 100000
namespace Go.Proofs.YtcnmoobojdopgaaGreatDoor
open Go.RowKit Tr Go.Shelf
theorem Aw6(i:Inst)(A:Option Addr)(ls:List Lot)(c:Nat)(hlm:ls.length≤9223372036854775807)(w:World)(hR:RdL w A ls):Calls Tryz.prog 18 #[i.enc,.slice A ls.length c] w (Am7 w (GI i∧ls.length≤12∧∀l∈ls,l.tiny)):=by
 have HR:=hI hR
 obtain⟨W0,hW0,hB0,hz,hk⟩:=ibox i w
 obtain⟨c0,c1,c2,c3,c4,c5,c6,c7,c8,c9,c10,c11,c12,c13,c14⟩:=Avp (hk)
 have HB:=hI hB0
 have HGI:Hid (Au6 i=false→GI i):=GI.of
 have HGR:=hI (fun W=>Au8 i W)
 generalize Au6 i=g at HGI HGR
 clear hB0 hz hk hR
 go_enter Tryz.func18,Tryz.ntmps18
 go_wp2_with fail
 refine (HGR.out _).mono ?_
 rintro e w1 ⟨rfl,b1⟩
 have HB1:=hI (HB.out.trans (b1.mono HB.out.size))
 clear b1 HB hW0 HGR c0 c1 c2 c3 c4 c5 c6 c7 c8 c9 c10 c11 c12 c13 c14
 cases g
 ·go_wp2_with fail
  refine (Aqp A ls c hlm _ (HR.out.below HB1.out)).mono ?_
  rintro e w2 ⟨g2,rfl,hg2,b2⟩
  have HG2:=hI hg2
  have HB2:=hI (HB1.out.trans (b2.mono HB1.out.size))
  clear hg2 b2 HB1
  cases g2
  ·by_cases h12:12<ls.length
   ·have t1:decide ((12:Int)<(ls.length:Int))=true:=Aax (by omega)
    clear h12
    go_wp2_with fail
    go_ret
    exact⟨true,rfl,fun h=>(by cases h),HB2.out⟩
   ·have t1:decide ((12:Int)<(ls.length:Int))=false:=Aay (by omega)
    have H12:=hI (show ls.length≤12 by omega)
    clear h12
    go_wp2_with fail
    go_ret
    exact⟨false,rfl,fun _=>⟨HGI.out trivial,H12.out,(HG2.out trivial).2⟩,HB2.out⟩
  ·go_wp2_with fail
   go_ret
   exact⟨true,rfl,fun h=>(by cases h),HB2.out⟩
 ·go_wp2_with fail
  go_ret
  exact⟨true,rfl,fun h=>(by cases h),HB1.out⟩
theorem slots_of:∀(ls:List Lot),(∀l∈ls,l.sized)→∃zs:List SLot,zs.map Subtype.val=ls
 | [],_=>⟨[],rfl⟩
 | l::r,h=>by
   obtain⟨zs,hz⟩:=slots_of r (fun x hx=>h x (Aav _ hx))
   exact⟨⟨l,h l (List.mem_cons_self ..)⟩::zs,by rw[List.map_cons,hz]⟩
theorem Aw7{w:World}{A:Option Addr}{zs:List SLot}(h:RdL w A (zs.map Subtype.val)):RdB w.heap.size w A zs:=by
 intro hl
 obtain⟨ad,rfl,h1,h2⟩:=h (fun e=>hl (List.map_eq_nil_iff.1 e))
 exact⟨ad,rfl,h1,fun j l hj=>h2 j l.1 (by rw[List.getElem?_map,hj];rfl)⟩
theorem Aw8{i:Inst}{zs:List SLot}{d:Int}(hi:i.tiny)(hl:zs.length≤12)(h:achkL i zs d=0):AOk i zs d:=by
 obtain⟨h1,h2,h3⟩:=Avn h
 exact⟨hi.small,h1,(Avi h2).lots,by omega,h3⟩
theorem Aw9{i:Inst}{zs:List SLot}{d:Int}(hi:i.tiny)(hti:∀l∈zs,l.1.tiny)(hl:zs.length≤12)(h:achkL i zs d=0):BdQ (totQ i zs d) 900 :=
 Aw3 (Aw8 hi hl h).ex hi hti (Aw8 hi hl h).opn hl
theorem Axa(n₀:Nat)(i:Inst)(A:Option Addr)(zs:List SLot)(c:Nat)(hc:zs.length≤c)(hl:zs.length≤12)(hi:i.tiny)(d:Int)(w:World)(hR:RdB n₀ w A zs)(hn:n₀≤w.heap.size)(ht:Tabs w):
 Calls Tryz.prog 22 #[i.enc,.slice A zs.length c,.int .i64 d] w fun e w'=>e=.returned (.tuple #[.string (toV i zs d),.int .i64 (achkL i zs d)])∧Below w.heap.size w w':=by
 by_cases h:achkL i zs d=0
 ·rw[show toV i zs d=I (rnd (totQ i zs d)) from by unfold toV;rw[if_neg (fun x=>x h)],h]
  exact Ar4 n₀ i A zs c hc d (Aw8 hi hl h) w hR hn ht
 ·rw[show toV i zs d=⟨#[]⟩ from by unfold toV;rw[if_pos h]]
  exact Avw n₀ i A zs c hc (by omega) hi.small.sized d h w hR hn ht
theorem Axb(n₀:Nat)(i:Inst)(A:Option Addr)(zs:List SLot)(c:Nat)(hc:zs.length≤c)(hl:zs.length≤12)(hi:i.tiny)(hti:∀l∈zs,l.1.tiny)(d:Int)(w:World)(hR:RdB n₀ w A zs)(hn:n₀≤w.heap.size)(ht:Tabs w):
 Calls Tryz.prog 24 #[i.enc,.slice A zs.length c,.int .i64 d] w fun e w'=>e=.returned (.tuple #[.string (boV i zs d),.int .i64 (achkL i zs d)])∧Below w.heap.size w w':=by
 by_cases h:achkL i zs d=0
 ·rw[show boV i zs d=I (sumBy costOf (ownL zs i.id)+rnd (totQ i zs d)) from by unfold boV;rw[if_neg (fun x=>x h)],h]
  have z:=rnd_size (Aw9 hi hti hl h)
  exact Ar5 n₀ i A zs c hc d (Aw8 hi hl h) w hR hn ht (Aap z (by omega))
 ·rw[show boV i zs d=⟨#[]⟩ from by unfold boV;rw[if_pos h]]
  exact Avx n₀ i A zs c hc (by omega) hi.small.sized d h w hR hn ht
theorem Axc(i:Inst)(A:Option Addr)(ls:List Lot)(c:Nat)(hcap:ls.length≤c)(hlm:ls.length≤9223372036854775807)(d:Int)(w:World)(hR:RdL w A ls)(ht:Tabs w):
 Calls Tryz.prog 4 #[i.enc,.slice A ls.length c,.int .i64 d] w fun e w'=>e=.returned (.bool true)∧Below w.heap.size w w':=by
 have HT:=hI ht
 have HR:=hI hR
 obtain⟨W0,hW0,hB0,hz,hk⟩:=ibox i w
 obtain⟨c0,c1,c2,c3,c4,c5,c6,c7,c8,c9,c10,c11,c12,c13,c14⟩:=Avp (hk)
 have HG0:Hid (BX w [(w.heap.size,.cells i.cells 27 (0,0))] W0):=⟨hB0,fun x hx=>by
  rcases List.mem_cons.1 hx with rfl|hx
  ·exact hk
  ·cases hx⟩
 have HGR:=hI (Aw6 i A ls c hlm W0 (hR.below hB0))
 clear hB0 hz hk ht hR
 unfold Inst.enc Inst.cells at *
 go_enter Tryz.func4,Tryz.ntmps4
 go_wp2_with fail
 refine HGR.out.mono ?_
 rintro e w1 ⟨g,rfl,hg,b1⟩
 have HB1:=hI (HG0.out.below b1)
 clear b1 HG0 HGR hW0 c0 c1 c2 c3 c4 c5 c6 c7 c8 c9 c10 c11 c12 c13 c14
 have HAW:=hI (fun W hW=>Asv W hW)
 cases g
 case true =>
  clear hg
  go_wp2_with fail
  refine (HAW.out _ (HT.out.below HB1.out.1)).mono ?_
  rintro e w2 ⟨rfl,b2⟩
  have HB2:=hI (HB1.out.below b2)
  clear b2 HB1
  go_wp2_with fail
  go_ret
  exact⟨rfl,HB2.out.1⟩
 obtain⟨hgi,hl12,hti0⟩:=hg rfl
 clear hg
 obtain⟨zs,hzs⟩:=slots_of ls (fun l hl=>(hti0 l hl).sized)
 have hti:∀l∈zs,l.1.tiny:=fun l hl=>hti0 l.1 (by rw[←hzs];exact List.mem_map.2 ⟨l,hl,rfl⟩)
 have hzl:zs.length=ls.length:=by rw[←hzs,Aar]
 have hrd:=HR.out
 rw[←hzs] at hrd
 have HRD:=hI (fun (W:World) (hb:Below w.heap.size w W)=>(Aw7 hrd).below hb)
 have hlz:zs.length≤12:=by omega
 have hcz:zs.length≤c:=by omega
 have H1:=hI (fun W (hb:Below w.heap.size w W)=>Avz w.heap.size i A zs c hcz (by omega) hgi d W (HRD.out W hb) hb.size (HT.out.below hb))
 have H2:=hI (fun W (hb:Below w.heap.size w W)=>Aw0 w.heap.size i A zs c hcz (by omega) hgi hti d W (HRD.out W hb) hb.size)
 have H3:=hI (fun W (hb:Below w.heap.size w W)=>Axa w.heap.size i A zs c hcz hlz hgi.ti d W (HRD.out W hb) hb.size (HT.out.below hb))
 have H4:=hI (fun W (hb:Below w.heap.size w W)=>Aw4 w.heap.size i A zs c hcz hlz hgi.ti hti d W (HRD.out W hb) hb.size (HT.out.below hb))
 have H5:=hI (fun W (hb:Below w.heap.size w W)=>Axb w.heap.size i A zs c hcz hlz hgi.ti hti d W (HRD.out W hb) hb.size (HT.out.below hb))
 have H6:=hI (fun W (hb:Below w.heap.size w W)=>Aw5 w.heap.size i A zs c hcz hlz hgi.ti hti d W (HRD.out W hb) hb.size (HT.out.below hb))
 rw[hzl] at H1 H2 H3 H4 H5 H6
 generalize acV i zs d=va at H1 H2
 generalize acC i zs d=na at H1 H2
 generalize toV i zs d=vt at H3 H4
 generalize boV i zs d=vb at H5 H6
 generalize achkL i zs d=nt at H3 H4 H5 H6
 have s1:(va.toList==va.toList)=true:=beq_self_eq_true _
 have s2:(vt.toList==vt.toList)=true:=beq_self_eq_true _
 have s3:(vb.toList==vb.toList)=true:=beq_self_eq_true _
 have s4:(na==na)=true:=beq_self_eq_true _
 have s5:(nt==nt)=true:=beq_self_eq_true _
 clear hgi hl12 hti0 hzs hti hzl hrd HRD hlz hcz HR
 obtain⟨c0,c1,c2,c3,c4,c5,c6,c7,c8,c9,c10,c11,c12,c13,c14⟩:=Avp (HB1.out.get 0 rfl)
 unfold Inst.enc Inst.cells at H1
 go_wp2_with fail
 refine (H1.out _ HB1.out.1).mono ?_
 rintro e w2 ⟨rfl,x1⟩
 have HB2:=hI (HB1.out.below x1)
 clear x1 HB1 H1 c0 c1 c2 c3 c4 c5 c6 c7 c8 c9 c10 c11 c12 c13 c14
 obtain⟨c0,c1,c2,c3,c4,c5,c6,c7,c8,c9,c10,c11,c12,c13,c14⟩:=Avp (HB2.out.get 0 rfl)
 unfold Inst.enc Inst.cells at H2
 go_wp2_with fail
 refine (H2.out _ HB2.out.1).mono ?_
 rintro e w3 ⟨rfl,x2⟩
 have HB3:=hI (HB2.out.below x2)
 clear x2 HB2 H2 c0 c1 c2 c3 c4 c5 c6 c7 c8 c9 c10 c11 c12 c13 c14
 obtain⟨c0,c1,c2,c3,c4,c5,c6,c7,c8,c9,c10,c11,c12,c13,c14⟩:=Avp (HB3.out.get 0 rfl)
 unfold Inst.enc Inst.cells at H3
 go_wp2_with fail
 refine (H3.out _ HB3.out.1).mono ?_
 rintro e w4 ⟨rfl,x3⟩
 have HB4:=hI (HB3.out.below x3)
 clear x3 HB3 H3 c0 c1 c2 c3 c4 c5 c6 c7 c8 c9 c10 c11 c12 c13 c14
 obtain⟨c0,c1,c2,c3,c4,c5,c6,c7,c8,c9,c10,c11,c12,c13,c14⟩:=Avp (HB4.out.get 0 rfl)
 unfold Inst.enc Inst.cells at H4
 go_wp2_with fail
 refine (H4.out _ HB4.out.1).mono ?_
 rintro e w5 ⟨rfl,x4⟩
 have HB5:=hI (HB4.out.below x4)
 clear x4 HB4 H4 c0 c1 c2 c3 c4 c5 c6 c7 c8 c9 c10 c11 c12 c13 c14
 obtain⟨c0,c1,c2,c3,c4,c5,c6,c7,c8,c9,c10,c11,c12,c13,c14⟩:=Avp (HB5.out.get 0 rfl)
 unfold Inst.enc Inst.cells at H5
 go_wp2_with fail
 refine (H5.out _ HB5.out.1).mono ?_
 rintro e w6 ⟨rfl,x5⟩
 have HB6:=hI (HB5.out.below x5)
 clear x5 HB5 H5 c0 c1 c2 c3 c4 c5 c6 c7 c8 c9 c10 c11 c12 c13 c14
 obtain⟨c0,c1,c2,c3,c4,c5,c6,c7,c8,c9,c10,c11,c12,c13,c14⟩:=Avp (HB6.out.get 0 rfl)
 unfold Inst.enc Inst.cells at H6
 go_wp2_with fail
 refine (H6.out _ HB6.out.1).mono ?_
 rintro e w7 ⟨rfl,x6⟩
 have HB7:=hI (HB6.out.below x6)
 clear x6 HB6 H6 c0 c1 c2 c3 c4 c5 c6 c7 c8 c9 c10 c11 c12 c13 c14
 go_wp2_with fail
 refine (HAW.out _ (HT.out.below HB7.out.1)).mono ?_
 rintro e w8 ⟨rfl,x8⟩
 have HB8:=hI (HB7.out.below x8)
 clear x8 HB7
 go_wp2_with fail
 go_ret
 exact⟨rfl,HB8.out.1⟩
end Go.Proofs.YtcnmoobojdopgaaGreatDoor
