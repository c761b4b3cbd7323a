/-
  What the functions of package bond answer where there are no periods. (Printed by gen_be1.py.)
-/
import Derived.Test.YteennkgpeiafaaaGreatDoorG39
set_option linter.unusedVariables false
set_option linter.unusedSimpArgs false
set_option maxHeartbeats 16000000
set_option maxRecDepth 100000
namespace Go.Proofs.YteennkgpeiafaaaGreatDoor
open Go.RowKit Tr Go.Shelf
open Classical in
noncomputable def perC(i:Inst):Int:=if ¬i.ok then 1 else if i.kind≠2 then 7 else if 400≤(cuts i.issued i.matures i.months).length then 4 else 0
theorem perC_1{i:Inst}(h:¬i.ok):perC i=1:=by unfold perC;rw[if_pos h]
theorem perC_7{i:Inst}(h:i.ok)(h2:i.kind≠2):perC i=7:=by unfold perC;rw[if_neg (fun x=>x h),if_pos h2]
theorem perC_4{i:Inst}(h:i.ok)(h2:i.kind=2)(h3:400≤(cuts i.issued i.matures i.months).length):perC i=4:=by unfold perC;rw[if_neg (fun x=>x h),if_neg (fun x=>x h2),if_pos h3]
theorem perC_0{i:Inst}(h:i.ok)(h2:i.kind=2)(h3:(cuts i.issued i.matures i.months).length≤399):perC i=0:=by unfold perC;rw[if_neg (fun x=>x h),if_neg (fun x=>x h2),if_neg (by omega)]
theorem perC_zero{i:Inst}(h:perC i=0):i.ok∧i.kind=2∧(cuts i.issued i.matures i.months).length≤399:=by
 unfold perC at h
 split at h
 ·cases h
 rename_i a1
 split at h
 ·cases h
 rename_i a2
 split at h
 ·cases h
 rename_i a3
 simp only[Classical.not_not] at a1 a2
 exact⟨a1,a2,by omega⟩
theorem perC_bad{i:Inst}(h:¬(i.ok∧i.kind=2)):perC i≠0:=fun h0=>h ⟨(perC_zero h0).1,(perC_zero h0).2.1⟩
theorem bPer_bad(i:Inst)(hs:i.sized)(hn:¬(i.ok∧i.kind=2))(w:World)(ht:Tabs w):Calls Tryz.prog 26 #[i.enc] w fun e w'=>e=.returned (.tuple #[.slice none 0 0,.int .i64 (perC i)])∧Below w.heap.size w w':=by
 have HCK:=hI (fun W (hW:Tabs W)=>Anj i hs W hW)
 have HT:=hI ht
 have HN:=hI hn
 clear hs hn ht
 obtain⟨W0,hW0,hB0,hz,k0⟩:=ibox i w
 have hg0:BX w [(w.heap.size,.cells i.cells 27 (0,0))] W0:=⟨hB0,fun x hx=>by
  rcases List.mem_cons.1 hx with rfl|hx
  ·exact k0
  ·cases hx⟩
 obtain⟨c0,c1,c2,c3,c4,c5,c6,c7,c8,c9,c10,c11,c12,c13,c14⟩:=Acs k0
 try simp[Inst.cells] at c0 c1 c2 c3 c4 c5 c6 c7 c8 c9 c10 c11 c12 c13 c14
 clear hB0 hz k0
 unfold Inst.enc Inst.cells at *
 go_enter Tryz.func26,Tryz.ntmps26
 go_wp2_with fail
 refine (HCK.out _ (HT.out.below hg0.1)).mono ?_
 rintro e w1 ⟨n,rfl,hn,x1⟩
 have hg1:=hg0.below x1
 have HNK:=hI hn
 clear hg0 x1 hW0 hn c0 c1 c2 c3 c4 c5 c6 c7 c8 c9 c10 c11 c12 c13 c14
 have k1:=hg1.get 0 rfl
 have c1:=Aaa k1 1
 simp at c1
 have HG:=hI hg1.1
 clear hg1 k1
 by_cases h1:n=0
 case neg =>
  have t1:(n==0)=false:=Aaj.2 h1
  have t2:(n != 0)=true:=by rw[bne,t1];rfl
  have HC:Hid (perC i=1):=perC_1 (fun h=>h1 (HNK.out.2 h))
  clear h1
  go_wp2_with fail
  go_ret2
  exact⟨by rw[HC.out];rfl,HG.out⟩
 have hok:=HNK.out.1 h1
 subst h1
 have h2:i.kind≠2:=fun h=>HN.out ⟨hok,h⟩
 have t1:(i.kind==2)=false:=Aaj.2 h2
 have t2:(i.kind != 2)=true:=by rw[bne,t1];rfl
 have HC:Hid (perC i=7):=perC_7 hok h2
 clear h2 hok
 go_wp2_with fail
 go_ret2
 exact⟨by rw[HC.out];rfl,HG.out⟩
theorem err_bCoupon(i:Inst)(z n:Int)(hn:n≠0)(HP:∀W,Tabs W→Calls Tryz.prog 26 #[i.enc] W fun e w'=>e=.returned (.tuple #[.slice none 0 0,.int .i64 n])∧Below W.heap.size W w')(w:World)(ht:Tabs w):Calls Tryz.prog 27 #[i.enc,.int .i64 z] w fun e w'=>e=.returned (.tuple #[fenc 0,.int .i64 n])∧Below w.heap.size w w':=by
 have HP:=hI HP
 have HT:=hI ht
 have t1:(n==0)=false:=Aaj.2 hn
 have t2:(n != 0)=true:=by rw[bne,t1];rfl
 have HZ:=hI fenc_zero
 obtain⟨W0,hW0',hB0,hz,k0,k1⟩:=box2 w (.cells i.cells 27) fz
 have hW0:=hW0'.symm
 have hg0:BX w [(w.heap.size,.cells i.cells 27 (0,0)),(w.heap.size+1,fz)] W0:=⟨hB0,fun x hx=>by
  rcases List.mem_cons.1 hx with rfl|hx
  ·exact k0
  ·rcases List.mem_cons.1 hx with rfl|hx
   ·exact k1
   ·cases hx⟩
 obtain⟨c0,c1,c2,c3,c4,c5,c6,c7,c8,c9,c10,c11,c12,c13,c14⟩:=Acs k0
 try simp[Inst.cells] at c0 c1 c2 c3 c4 c5 c6 c7 c8 c9 c10 c11 c12 c13 c14
 clear hB0 hz k0 k1 hW0' ht hn
 unfold Inst.enc Inst.cells at *
 go_enter Tryz.func27,Tryz.ntmps27
 go_wp2_with fail
 refine (HP.out _ (HT.out.below hg0.1)).mono ?_
 rintro e w1 ⟨rfl,x1⟩
 have hg1:=hg0.below x1
 have k2:=hg1.get 1 rfl
 have m0:=Aaa k2 0
 have m1:=Aaa k2 1
 have f0:=Aaf k2 0
 have f1:=Aaf k2 1
 simp at m0 m1 f0 f1
 have HK2:=hI k2
 have HG1:=hI hg1
 clear hg0 hg1 k2 x1 hW0 c0 c1 c2 c3 c4 c5 c6 c7 c8 c9 c10 c11 c12 c13 c14
 go_wp2_with fail
 refine bodyPost_ret (An1 rfl _ _ (w.heap.size+1) _ _ (0,0) _ rfl (Go.Proofs.YteennkgpeiafaaaGreatDoor.set2 HK2.out _ _) Tryz.underlying25 rfl (by kernel_rfl)) rfl ?_
 exact⟨by rw[HZ.out];rfl,set2_below (by omega) HG1.out.1 _ _⟩
theorem err_bFlows(i:Inst)(n:Int)(hn:n≠0)(HP:∀W,Tabs W→Calls Tryz.prog 26 #[i.enc] W fun e w'=>e=.returned (.tuple #[.slice none 0 0,.int .i64 n])∧Below W.heap.size W w')(w:World)(ht:Tabs w):Calls Tryz.prog 24 #[i.enc] w fun e w'=>e=.returned (.tuple #[.slice none 0 0,.int .i64 n])∧Below w.heap.size w w':=by
 refine (callsIn_wide (n:=6)).1 ?_
 have HP:=hI HP
 have HT:=hI ht
 have t1:(n==0)=false:=Aaj.2 hn
 have t2:(n != 0)=true:=by rw[bne,t1];rfl
 obtain⟨W0,hW0,hB0,hz,k0⟩:=ibox i w
 have HB0:=hI hB0
 obtain⟨c0,c1,c2,c3,c4,c5,c6,c7,c8,c9,c10,c11,c12,c13,c14⟩:=Acs k0
 try simp[Inst.cells] at c0 c1 c2 c3 c4 c5 c6 c7 c8 c9 c10 c11 c12 c13 c14
 clear hB0 k0 hz ht hn
 unfold Inst.enc Inst.cells at *
 refine callsIn_of_wp_marks Tryz.func24 rfl trivial ?_ rfl
 simp only[Tryz.ntmps24,List.size_toArray,Aaw,List.length_nil,Nat.reduceAdd,Nat.reduceSub,Array.replicate_succ,Array.replicate_zero,List.push_toArray,List.append_toArray,List.nil_append,List.cons_append]
 gi_wp2_with fail
 refine⟨trivial,?_⟩
 refine (callsIn_wide.2 (HP.out _ (HT.out.below HB0.out))).mono ?_
 rintro e w1 ⟨rfl,x1⟩
 have HB1:=hI (HB0.out.trans (x1.mono HB0.out.size))
 clear x1 hW0 c0 c1 c2 c3 c4 c5 c6 c7 c8 c9 c10 c11 c12 c13 c14
 gi_wp2
 refine⟨_,results_tmp2 rfl _ _ _,?_⟩
 exact⟨rfl,HB1.out⟩
theorem err_bChkF(i:Inst)(d:Int)(A:Option Addr)(n c:Nat)(w:World)(hf:∀W,Below w.heap.size w W→Calls Tryz.prog 128 #[.slice A n c,.func (.func 129) #[] #[]] W fun e w'=>e=.returned (.bool true)∧Below W.heap.size W w'):
 Calls Tryz.prog 61 #[i.enc,.int .i64 d,.slice A n c] w fun e w'=>e=.returned (.tuple #[.slice none 0 0,.int .i64 1])∧Below w.heap.size w w':=by
 have HF:=hI hf
 clear hf
 obtain⟨W0,hW0,hB0,hz,k0⟩:=ibox i w
 have HB0:=hI hB0
 clear hB0 hz k0
 unfold Inst.enc Inst.cells at *
 go_enter Tryz.func61,Tryz.ntmps61
 go_wp2_with fail
 refine (HF.out _ HB0.out).mono ?_
 rintro e w1 ⟨rfl,x1⟩
 have HB1:=hI (HB0.out.trans (x1.mono HB0.out.size))
 clear x1 hW0
 go_wp2_with fail
 go_ret2
 exact⟨rfl,HB1.out⟩
theorem err_bChk(i:Inst)(m:Int)(hm:m≠0)(HP:∀W,Tabs W→Calls Tryz.prog 26 #[i.enc] W fun e w'=>e=.returned (.tuple #[.slice none 0 0,.int .i64 m])∧Below W.heap.size W w')(d:Int)(A:Option Addr)(n c:Nat)(w:World)(hf:∀W,Below w.heap.size w W→Calls Tryz.prog 128 #[.slice A n c,.func (.func 129) #[] #[]] W fun e w'=>e=.returned (.bool false)∧Below W.heap.size W w')(ht:Tabs w):
 Calls Tryz.prog 61 #[i.enc,.int .i64 d,.slice A n c] w fun e w'=>e=.returned (.tuple #[.slice none 0 0,.int .i64 m])∧Below w.heap.size w w':=by
 have HF:=hI hf
 have HP:=hI HP
 have HT:=hI ht
 have t1:(m==0)=false:=Aaj.2 hm
 have t2:(m != 0)=true:=by rw[bne,t1];rfl
 clear hf ht hm
 obtain⟨W0,hW0,hB0,hz,k0⟩:=ibox i w
 have HK0:Hid (InstBox W0 w.heap.size i):=k0
 have HB0:=hI hB0
 clear hB0 hz k0
 unfold Inst.enc Inst.cells at *
 go_enter Tryz.func61,Tryz.ntmps61
 go_wp2_with fail
 refine (HF.out _ HB0.out).mono ?_
 rintro e w1 ⟨rfl,x1⟩
 have HB1:=hI (HB0.out.trans (x1.mono HB0.out.size))
 have k1:InstBox w1 w.heap.size i:=HK0.out.below x1
 obtain⟨c0,c1,c2,c3,c4,c5,c6,c7,c8,c9,c10,c11,c12,c13,c14⟩:=Acs k1
 try simp[Inst.cells] at c0 c1 c2 c3 c4 c5 c6 c7 c8 c9 c10 c11 c12 c13 c14
 clear x1 k1 hW0
 go_wp2_with fail
 refine (HP.out _ (HT.out.below HB1.out)).mono ?_
 rintro e w2 ⟨rfl,x2⟩
 have HB2:=hI (HB1.out.trans (x2.mono HB1.out.size))
 clear x2 c0 c1 c2 c3 c4 c5 c6 c7 c8 c9 c10 c11 c12 c13 c14
 go_wp2_with fail
 go_ret2
 exact⟨rfl,HB2.out⟩
theorem err_bRest(i:Inst)(d n:Int)(hn:n≠0)(HC:∀W,Tabs W→Calls Tryz.prog 61 #[i.enc,.int .i64 d,.slice none 0 0] W fun e w'=>e=.returned (.tuple #[.slice none 0 0,.int .i64 n])∧Below W.heap.size W w')(w:World)(ht:Tabs w):Calls Tryz.prog 33 #[i.enc,.int .i64 d] w fun e w'=>e=.returned (.tuple #[.slice none 0 0,.int .i64 n])∧Below w.heap.size w w':=by
 have HC:=hI HC
 have HT:=hI ht
 have t1:(n==0)=false:=Aaj.2 hn
 have t2:(n != 0)=true:=by rw[bne,t1];rfl
 obtain⟨W0,hW0',hB0,hz,k0,k1⟩:=box2 w (.cells i.cells 27) (.cells #[.int .i64 d] 22)
 have hW0:=hW0'.symm
 have hg0:BX w [(w.heap.size,.cells i.cells 27 (0,0)),(w.heap.size+1,.cells #[.int .i64 d] 22 (0,0))] W0:=⟨hB0,fun x hx=>by
  rcases List.mem_cons.1 hx with rfl|hx
  ·exact k0
  ·rcases List.mem_cons.1 hx with rfl|hx
   ·exact k1
   ·cases hx⟩
 obtain⟨c0,c1,c2,c3,c4,c5,c6,c7,c8,c9,c10,c11,c12,c13,c14⟩:=Acs k0
 try simp[Inst.cells] at c0 c1 c2 c3 c4 c5 c6 c7 c8 c9 c10 c11 c12 c13 c14
 have e0:=Aaa k1 0
 simp at e0
 clear hB0 hz k0 k1 hW0' ht hn
 unfold Inst.enc Inst.cells at *
 go_enter Tryz.func33,Tryz.ntmps33
 go_wp2_with fail
 refine (HC.out _ (HT.out.below hg0.1)).mono ?_
 rintro e w1 ⟨rfl,x1⟩
 have HG1:=hI (hg0.below x1)
 clear x1 hg0 hW0 c0 c1 c2 c3 c4 c5 c6 c7 c8 c9 c10 c11 c12 c13 c14 e0
 go_wp2_with fail
 go_ret2
 exact⟨rfl,HG1.out.1⟩
theorem err_bDirty(i:Inst)(d:Int)(fn fd:ByteArray)(n:Int)(hn:n≠0)(HC:∀(W:World) (g:Nat),W.heap[g]?=some (.cells #[.string fn,.string fd] 25 (0,0))→Tabs W→Calls Tryz.prog 61 #[i.enc,.int .i64 d,.slice (some ⟨g,0,none⟩) 1 1] W fun e w'=>e=.returned (.tuple #[.slice none 0 0,.int .i64 n])∧Below W.heap.size W w')(w:World)(ht:Tabs w):Calls Tryz.prog 17 #[i.enc,.int .i64 d,.agg #[.string fn,.string fd]] w fun e w'=>e=.returned (.tuple #[fenc 0,.int .i64 n])∧Below w.heap.size w w':=by
 have HC:=hI HC
 have HT:=hI ht
 have t1:(n==0)=false:=Aaj.2 hn
 have t2:(n != 0)=true:=by rw[bne,t1];rfl
 have HZ:=hI fenc_zero
 obtain⟨W0,hW0',hB0,hz,k0,k1,k2⟩:=box3 w (.cells i.cells 27) (.cells #[.string fn,.string fd] 25) fz
 have hW0:=hW0'.symm
 have hg0:BX w [(w.heap.size,.cells i.cells 27 (0,0)),(w.heap.size+1,.cells #[.string fn,.string fd] 25 (0,0)),(w.heap.size+2,fz)] W0:=⟨hB0,fun x hx=>by
  rcases List.mem_cons.1 hx with rfl|hx
  ·exact k0
  ·rcases List.mem_cons.1 hx with rfl|hx
   ·exact k1
   ·rcases List.mem_cons.1 hx with rfl|hx
    ·exact k2
    ·cases hx⟩
 have HCK:Hid (∀W,W=W0.alloc (.cells #[.string fn,.string fd] 25)→Calls Tryz.prog 61 #[i.enc,.int .i64 d,.slice (some ⟨W0.heap.size,0,none⟩) 1 1] W fun e w'=>e=.returned (.tuple #[.slice none 0 0,.int .i64 n])∧Below W.heap.size W w'):=fun W hW=>by
  subst hW
  exact HC.out _ _ (Aa0 W0 _) (ht.below (hB0.trans (((Below.refl _ W0).alloc (Aad _) _).mono hB0.size)))
 obtain⟨c0,c1,c2,c3,c4,c5,c6,c7,c8,c9,c10,c11,c12,c13,c14⟩:=Acs k0
 try simp[Inst.cells] at c0 c1 c2 c3 c4 c5 c6 c7 c8 c9 c10 c11 c12 c13 c14
 have q0:=Aaa k1 0
 have q1:=Aaa k1 1
 simp at q0 q1
 clear hB0 hz k0 k1 k2 hW0' ht hn HC
 unfold Inst.enc Inst.cells at *
 go_enter Tryz.func17,Tryz.ntmps17
 go_wp2_with fail
 refine (HCK.out _ rfl).mono ?_
 rintro e w1 ⟨rfl,x1⟩
 have hg1:=(hg0.below ((Below.refl _ W0).alloc (Aad _) (.cells #[.string fn,.string fd] 25))).below x1
 have k2:=hg1.get 2 rfl
 have m0:=Aaa k2 0
 have m1:=Aaa k2 1
 have f0:=Aaf k2 0
 have f1:=Aaf k2 1
 simp at m0 m1 f0 f1
 have HK2:=hI k2
 have HG1:=hI hg1
 clear hg0 hg1 k2 x1 hW0 q0 q1 HCK c0 c1 c2 c3 c4 c5 c6 c7 c8 c9 c10 c11 c12 c13 c14
 go_wp2_with fail
 refine bodyPost_ret (An1 rfl _ _ (w.heap.size+2) _ _ (0,0) _ rfl (Go.Proofs.YteennkgpeiafaaaGreatDoor.set2 HK2.out _ _) Tryz.underlying25 rfl (by kernel_rfl)) rfl ?_
 exact⟨by rw[HZ.out];rfl,set2_below (by omega) HG1.out.1 _ _⟩
theorem err_bPresent(i:Inst)(d:Int)(fn fd:ByteArray)(n:Int)(hn:n≠0)(HC:∀(W:World) (g:Nat),W.heap[g]?=some (.cells #[.string fn,.string fd] 25 (0,0))→Tabs W→Calls Tryz.prog 61 #[i.enc,.int .i64 d,.slice (some ⟨g,0,none⟩) 1 1] W fun e w'=>e=.returned (.tuple #[.slice none 0 0,.int .i64 n])∧Below W.heap.size W w')(w:World)(ht:Tabs w):Calls Tryz.prog 15 #[i.enc,.int .i64 d,.agg #[.string fn,.string fd]] w fun e w'=>e=.returned (.tuple #[fenc 0,.int .i64 n])∧Below w.heap.size w w':=by
 refine (callsIn_wide (n:=6)).1 ?_
 have HC:=hI HC
 have HT:=hI ht
 have t1:(n==0)=false:=Aaj.2 hn
 have t2:(n != 0)=true:=by rw[bne,t1];rfl
 have HZ:=hI fenc_zero
 obtain⟨W0,hW0',hB0,hz,k0,k1,k2⟩:=box3 w (.cells i.cells 27) (.cells #[.string fn,.string fd] 25) fz
 have hW0:=hW0'.symm
 have hg0:BX w [(w.heap.size,.cells i.cells 27 (0,0)),(w.heap.size+1,.cells #[.string fn,.string fd] 25 (0,0)),(w.heap.size+2,fz)] W0:=⟨hB0,fun x hx=>by
  rcases List.mem_cons.1 hx with rfl|hx
  ·exact k0
  ·rcases List.mem_cons.1 hx with rfl|hx
   ·exact k1
   ·rcases List.mem_cons.1 hx with rfl|hx
    ·exact k2
    ·cases hx⟩
 have HCK:Hid (∀W,W=W0.alloc (.cells #[.string fn,.string fd] 25)→Calls Tryz.prog 61 #[i.enc,.int .i64 d,.slice (some ⟨W0.heap.size,0,none⟩) 1 1] W fun e w'=>e=.returned (.tuple #[.slice none 0 0,.int .i64 n])∧Below W.heap.size W w'):=fun W hW=>by
  subst hW
  exact HC.out _ _ (Aa0 W0 _) (ht.below (hB0.trans (((Below.refl _ W0).alloc (Aad _) _).mono hB0.size)))
 obtain⟨c0,c1,c2,c3,c4,c5,c6,c7,c8,c9,c10,c11,c12,c13,c14⟩:=Acs k0
 try simp[Inst.cells] at c0 c1 c2 c3 c4 c5 c6 c7 c8 c9 c10 c11 c12 c13 c14
 have q0:=Aaa k1 0
 have q1:=Aaa k1 1
 simp at q0 q1
 clear hB0 hz k0 k1 k2 hW0' ht hn HC
 unfold Inst.enc Inst.cells at *
 refine callsIn_of_wp_marks Tryz.func15 rfl trivial ?_ rfl
 simp only[Tryz.ntmps15,List.size_toArray,Aaw,List.length_nil,Nat.reduceAdd,Nat.reduceSub,Array.replicate_succ,Array.replicate_zero,List.push_toArray,List.append_toArray,List.nil_append,List.cons_append]
 gi_wp2_with fail
 refine⟨trivial,?_⟩
 refine (callsIn_wide.2 (HCK.out _ rfl)).mono ?_
 rintro e w1 ⟨rfl,x1⟩
 have hg1:=(hg0.below ((Below.refl _ W0).alloc (Aad _) (.cells #[.string fn,.string fd] 25))).below x1
 have k2:=hg1.get 2 rfl
 have m0:=Aaa k2 0
 have m1:=Aaa k2 1
 have f0:=Aaf k2 0
 have f1:=Aaf k2 1
 simp at m0 m1 f0 f1
 have HK2:=hI k2
 have HG1:=hI hg1
 clear hg0 hg1 k2 x1 hW0 q0 q1 HCK c0 c1 c2 c3 c4 c5 c6 c7 c8 c9 c10 c11 c12 c13 c14
 gi_wp2
 refine⟨_,An1 rfl _ _ (w.heap.size+2) _ _ (0,0) _ rfl (Go.Proofs.YteennkgpeiafaaaGreatDoor.set2 HK2.out _ _) Tryz.underlying25 rfl (by kernel_rfl),?_⟩
 exact⟨by rw[HZ.out];rfl,set2_below (by omega) HG1.out.1 _ _⟩
theorem bAccrued_of(i:Inst)(d:Int)(q:Rat)(n:Int)(HD:∀W,Tabs W→Calls Tryz.prog 17 #[i.enc,.int .i64 d,.agg #[.string ⟨#[]⟩,.string ⟨#[]⟩]] W fun e w'=>e=.returned (.tuple #[fenc q,.int .i64 n])∧Below W.heap.size W w')(w:World)(ht:Tabs w):Calls Tryz.prog 13 #[i.enc,.int .i64 d] w fun e w'=>e=.returned (.tuple #[fenc q,.int .i64 n])∧Below w.heap.size w w':=by
 have HD:=hI HD
 have HT:=hI ht
 obtain⟨W0,hW0',hB0,hz,k0,k1⟩:=box2 w (.cells i.cells 27) fz
 have hW0:=hW0'.symm
 have hg0:BX w [(w.heap.size,.cells i.cells 27 (0,0)),(w.heap.size+1,fz)] W0:=⟨hB0,fun x hx=>by
  rcases List.mem_cons.1 hx with rfl|hx
  ·exact k0
  ·rcases List.mem_cons.1 hx with rfl|hx
   ·exact k1
   ·cases hx⟩
 obtain⟨c0,c1,c2,c3,c4,c5,c6,c7,c8,c9,c10,c11,c12,c13,c14⟩:=Acs k0
 try simp[Inst.cells] at c0 c1 c2 c3 c4 c5 c6 c7 c8 c9 c10 c11 c12 c13 c14
 clear hB0 hz k0 k1 hW0' ht
 unfold Inst.enc Inst.cells at *
 go_enter Tryz.func13,Tryz.ntmps13
 go_wp2_with fail
 refine (HD.out _ (HT.out.below hg0.1)).mono ?_
 rintro e w1 ⟨rfl,x1⟩
 have hg1:=hg0.below x1
 have k2:=hg1.get 1 rfl
 have m0:=Aaa k2 0
 have m1:=Aaa k2 1
 have f0:=Aaf k2 0
 have f1:=Aaf k2 1
 simp at m0 m1 f0 f1
 have HK2:=hI k2
 have HG1:=hI hg1
 clear hg0 hg1 k2 x1 hW0 c0 c1 c2 c3 c4 c5 c6 c7 c8 c9 c10 c11 c12 c13 c14
 unfold fenc
 go_wp2_with fail
 refine bodyPost_ret (An1 rfl _ _ (w.heap.size+1) _ _ (0,0) _ rfl (Go.Proofs.YteennkgpeiafaaaGreatDoor.set2 HK2.out _ _) Tryz.underlying25 rfl (by kernel_rfl)) rfl ?_
 exact⟨rfl,set2_below (by omega) HG1.out.1 _ _⟩
end Go.Proofs.YteennkgpeiafaaaGreatDoor
