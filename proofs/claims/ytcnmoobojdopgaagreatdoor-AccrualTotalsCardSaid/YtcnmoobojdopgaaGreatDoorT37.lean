/-
  The walks of trancheref11.check,Periods,Coupon,after,Flows,Rest,Dirty,Accrued. (Printed by gen_rb5.py.)
-/
import Derived.Test.YtcnmoobojdopgaaGreatDoorT35
import Derived.Test.YtcnmoobojdopgaaGreatDoorT36
set_option linter.unusedVariables false
set_option linter.unusedSimpArgs false
set_option maxHeartbeats 16000000
set_option maxRecDepth 100000
namespace Go.Proofs.YtcnmoobojdopgaaGreatDoor
open Go.RowKit Tr Go.Shelf
attribute [local go_sem] Oper.semAt_some
noncomputable def ckC(i:Inst)(fn fd:ByteArray):Int:=if propB (CanQ fn fd)=true then perC i else 1
noncomputable def ckB(i:Inst)(fn fd:ByteArray):List (Int×Int):=if ckC i fn fd=0 then perL i else []
theorem Awr{i:Inst}{fn fd:ByteArray}(h:CanQ fn fd):ckC i fn fd=perC i:=by unfold ckC;rw[if_pos (propB_iff.2 h)]
theorem Aws{i:Inst}{fn fd:ByteArray}(h:¬CanQ fn fd):ckC i fn fd=1:=by unfold ckC;rw[Au3 h];rfl
theorem Awt{i:Inst}{fn fd:ByteArray}(h:ckC i fn fd≠0):ckB i fn fd=[]:=by unfold ckB;rw[if_neg h]
theorem Awu{i:Inst}{fn fd:ByteArray}(h:ckC i fn fd=0):ckB i fn fd=perL i:=by unfold ckB;rw[if_pos h]
theorem PerV.none{c:Int}{w W:World}(hb:Below w.heap.size w W)(hs:w.heap.size≤W.heap.size)(t:TypeId):PerV [] c w (.returned (.tuple #[.slice (some ⟨W.heap.size,0,none⟩) 0 0,.int .i64 c])) (W.alloc (.cells #[] t)) :=
 ⟨⟨_,0,rfl,Avb _ _ _,fun ad ha=>by injection ha with ha;rw[←ha];exact hs⟩,hb.alloc hs _⟩
theorem FlwV.none{c:Int}{w W:World}(hb:Below w.heap.size w W)(hs:w.heap.size≤W.heap.size)(t:TypeId):FlwV [] c w (.returned (.tuple #[.slice (some ⟨W.heap.size,0,none⟩) 0 0,.int .i64 c])) (W.alloc (.cells #[] t)) :=
 ⟨⟨_,0,rfl,Avc _ _ _⟩,hb.alloc hs _⟩
theorem Awv{i:Inst}(hg:GI i)(fn fd:ByteArray)(s1:fn.size≤16)(s2:fd.size≤16)(w:World):Calls Tryz.prog 120 #[i.enc,.agg #[.string fn,.string fd]] w (PerV (ckB i fn fd) (ckC i fn fd) w):=by
 have HCK:=hI (fun W=>Am6 i hg.ti W)
 have HFY:=hI (fun (h:CanQ fn fd) W=>Ais fn fd s1 s2 h W)
 have HFN:=hI (fun (h:¬CanQ fn fd) W=>Ait fn fd s1 s2 h W)
 have HGI:=hI hg
 obtain⟨Q,hQ⟩:∃Q,PerV (ckB i fn fd) (ckC i fn fd) w=Q:=⟨_,rfl⟩
 rw[hQ]
 have HQ:=hI hQ
 obtain⟨W0,hW0',hB0,hz,k0,k1⟩:=box2 w (.cells i.cells 27) (.cells #[.string fn,.string fd] 25)
 have hW0:=hW0'.symm
 have hg0:BX w [(w.heap.size,.cells i.cells 27 (0,0)),(w.heap.size+1,.cells #[.string fn,.string fd] 25 (0,0))] W0:=⟨hB0,fun x hx=>by
  rcases List.mem_cons.1 hx with rfl|hx
  ·exact k0
  ·rcases List.mem_cons.1 hx with rfl|hx
   ·exact k1
   ·cases hx⟩
 obtain⟨c0,c1,c2,c3,c4,c5,c6,c7,c8,c9,c10,c11,c12,c13,c14⟩:=Acq k0
 try simp[Inst.cells] at c0 c1 c2 c3 c4 c5 c6 c7 c8 c9 c10 c11 c12 c13 c14
 clear hB0 hz k0 k1 hW0' hg s1 s2 hQ
 unfold Inst.enc Inst.cells at *
 go_enter Tryz.func120,Tryz.ntmps120
 go_wp2_with fail
 refine (HCK.out _).mono ?_
 rintro e w1 ⟨n,rfl,hn,x1⟩
 have HNK:=hI hn
 have HG1:=hI (hg0.below x1)
 clear hg0 x1 hW0 hn c0 c1 c2 c3 c4 c5 c6 c7 c8 c9 c10 c11 c12 c13 c14
 by_cases h1:n=0
 case neg =>
  have t1:(n==0)=false:=Aaj.2 h1
  have t2:(n != 0)=true:=by rw[bne,t1];rfl
  have hck:ckC i fn fd=1:=by
   by_cases hq:CanQ fn fd
   ·rw[Awr hq];exact Auq (fun h=>h1 (HNK.out.2 h))
   ·exact Aws hq
  have HCC:=hI hck
  clear h1 hck
  go_wp2_with fail
  rw[←HQ.out,HCC.out,Awt (by rw[HCC.out];decide)]
  exact PerV.none HG1.out.1 HG1.out.1.size _
 have HOK:=hI (HNK.out.1 h1)
 subst h1
 obtain⟨q0,q1⟩:=Atb (HG1.out.get 1 rfl)
 clear HNK HCK
 by_cases hq:CanQ fn fd
 case neg =>
  have HF:=hI (fun W=>HFN.out hq W)
  have HCC:=hI (Aws (i:=i) hq)
  clear hq
  go_wp2_with fail
  refine (HF.out _).mono ?_
  rintro e w2 ⟨rfl,x2⟩
  have HG2:=hI (HG1.out.below x2)
  clear x2 q0 q1
  go_wp2_with fail
  rw[←HQ.out,HCC.out,Awt (by rw[HCC.out];decide)]
  exact PerV.none HG2.out.1 HG2.out.1.size _
 have HF:=hI (fun W=>HFY.out hq W)
 have HCY:=hI (Awr (i:=i) hq)
 clear hq HFN HFY
 go_wp2_with fail
 refine (HF.out _).mono ?_
 rintro e w2 ⟨rfl,x2⟩
 have HG2:=hI (HG1.out.below x2)
 clear x2 q0 q1 HF
 have c1:=Aaa (HG2.out.get 0 rfl) 1
 simp at c1
 by_cases hk:i.kind=2
 case neg =>
  have t1:(i.kind==2)=false:=Aaj.2 hk
  have t2:(i.kind != 2)=true:=by rw[bne,t1];rfl
  have HCC:Hid (ckC i fn fd=7):=by show _=_;rw[HCY.out];exact Aur HOK.out hk
  clear hk
  go_wp2_with fail
  rw[←HQ.out,HCC.out,Awt (by rw[HCC.out];decide)]
  exact PerV.none HG2.out.1 HG2.out.1.size _
 have hb:=HGI.out.bd HOK.out hk
 have HBU:=hI (fun W=>Awq i.issued i.matures i.months hb.ok.issued hb.mat.1 hb.mat.2 hb.mo.1 hb.mo.2 W)
 have HKK:=hI hk
 have c4:=Aaa (HG2.out.get 0 rfl) 4
 have c5:=Aaa (HG2.out.get 0 rfl) 5
 have c10:=Aaa (HG2.out.get 0 rfl) 10
 simp at c4 c5 c10
 rw[hk] at c1
 clear hk hb
 go_wp2_with fail
 refine (HBU.out _).mono ?_
 rintro e w3 ⟨x3,hr⟩
 have hsz:=HG2.out.1.size
 have hB3:=HG2.out.1.trans (x3.mono hsz)
 rcases hr with⟨hl,rfl⟩|⟨hl,v,rfl,hrow⟩
 ·have HCC:Hid (ckC i fn fd=4):=by show _=_;rw[HCY.out];exact Aus HOK.out HKK.out hl
  have HB3:=hI hB3
  clear hl hB3 x3 hsz
  go_wp2_with fail
  rw[←HQ.out,HCC.out,Awt (by rw[HCC.out];decide)]
  exact PerV.none HB3.out HB3.out.size _
 ·have HCC:Hid (ckC i fn fd=0):=by show _=_;rw[HCY.out];exact Aut HOK.out HKK.out hl
  obtain⟨ad,cap,cur,rfl,_,hbk,hob,hrd⟩:=RdP.own_box hrow (Ats _ _ _)
  have HF:Hid (PerV (perL i) 0 w (.returned (.tuple #[.slice (some ad) (pers i.issued i.matures i.months).length cap,.int .i64 0])) w3):=⟨⟨some ad,cap,rfl,(hrd w3 hob).pw,fun a ha=>by injection ha with ha;rw[←ha];omega⟩,hB3⟩
  clear hl hB3 x3 hsz hrow hbk hob hrd
  go_wp2_with fail
  rw[←HQ.out,HCC.out,Awu HCC.out]
  exact HF.out
theorem Aww{i:Inst}(hg:GI i)(w:World):Calls Tryz.prog 65 #[i.enc] w (PerV (perB i) (perC i) w):=by
 have hc:=fun W=>Awv hg ⟨#[]⟩ ⟨#[]⟩ (Nat.zero_le _) (Nat.zero_le _) W
 rw[show ckB i ⟨#[]⟩ ⟨#[]⟩=perB i from by unfold ckB perB;rw[Awr canQ_nil],Awr canQ_nil] at hc
 have HC:=hI hc
 obtain⟨Q,hQ⟩:∃Q,PerV (perB i) (perC i) w=Q:=⟨_,rfl⟩
 rw[hQ]
 have HQ:=hI hQ
 obtain⟨W0,hW0,hB0,hz,k0⟩:=ibox i w
 have HB0:=hI hB0
 obtain⟨c0,c1,c2,c3,c4,c5,c6,c7,c8,c9,c10,c11,c12,c13,c14⟩:=Acq k0
 try simp[Inst.cells] at c0 c1 c2 c3 c4 c5 c6 c7 c8 c9 c10 c11 c12 c13 c14
 clear hB0 hz k0 hg hc hQ
 unfold Inst.enc Inst.cells at *
 go_enter Tryz.func65,Tryz.ntmps65
 go_wp2_with fail
 refine (HC.out _).mono ?_
 rintro e w1 ⟨⟨A,k,rfl,h1,h2⟩,x1⟩
 have HF:Hid (PerV (perB i) (perC i) w (.returned (.tuple #[.slice A (perB i).length k,.int .i64 (perC i)])) w1):=⟨⟨A,k,rfl,h1,fun ad ha=>Aap HB0.out.size (h2 ad ha)⟩,HB0.out.trans (x1.mono HB0.out.size)⟩
 clear h1 h2 x1 hW0 c0 c1 c2 c3 c4 c5 c6 c7 c8 c9 c10 c11 c12 c13 c14
 go_wp2_with fail
 rw[←HQ.out]
 exact HF.out
end Go.Proofs.YtcnmoobojdopgaaGreatDoor
