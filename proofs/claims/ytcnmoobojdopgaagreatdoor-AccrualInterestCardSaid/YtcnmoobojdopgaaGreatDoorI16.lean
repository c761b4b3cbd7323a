/-
  Fractions: apply,and what is exported.
-/
import Derived.Test.YtcnmoobojdopgaaGreatDoorI15
import Derived.Laws.EntriesVeiled
set_option linter.unusedVariables false
set_option linter.unusedSimpArgs false
set_option maxHeartbeats 16000000
set_option maxRecDepth 100000
namespace Go.Proofs.YtcnmoobojdopgaaGreatDoor
open Go.RowKit Tr Go.Shelf
def opv(f:Nat)(B:Nat):Value:=.func (.func f) #[] #[.pointer (some ⟨B,0,none⟩)]
def opsv(B:Nat):Value:=.agg #[opv 103 B,opv 104 B,opv 105 B,opv 106 B]
def OpsPost(w:World)(e:Ending)(w':World):Prop:=∃B,e=.returned (opsv B)∧MulBox w' B∧Below w.heap.size w w'
theorem Ahe(w:World):Calls Tryz.prog 48 #[] w (OpsPost w):=by
 obtain⟨W0,hW0',hB0,hz,k0,k1⟩:=box2 w (.cells #[.nilFunc,.nilFunc,.nilFunc,.nilFunc] 83) (.cells #[.nilFunc] 115)
 have hW0:=hW0'.symm
 have a0:=Lib.cell_of_heap k1 0
 have f0:=Lib.frozen_of_heap k1 0
 simp at a0
 obtain⟨W1,hW1⟩:∃W1,W0.setCell ⟨w.heap.size+1,0,none⟩ (.func (.func 102) #[] #[])=W1:=⟨_,rfl⟩
 have k2:MulBox W1 (w.heap.size+1):=by rw[←hW1];exact Boxed.set _ k1
 have k3:W1.heap[w.heap.size]?=some (.cells #[.nilFunc,.nilFunc,.nilFunc,.nilFunc] 83):=by rw[←hW1];exact (Below.heap_setCell _ _ _ _ (by simp)).trans k0
 have HB1:Hid (Below w.heap.size w W1):=by rw[←hW1];exact hB0.setCell (p:=⟨w.heap.size+1,0,none⟩) (by simp) _
 have c0:=Lib.cell_of_heap k3 0
 have c1:=Lib.cell_of_heap k3 1
 have c2:=Lib.cell_of_heap k3 2
 have c3:=Lib.cell_of_heap k3 3
 have g0:=Lib.frozen_of_heap k3 0
 have g1:=Lib.frozen_of_heap k3 1
 have g2:=Lib.frozen_of_heap k3 2
 have g3:=Lib.frozen_of_heap k3 3
 simp at c0 c1 c2 c3
 have K2:=Lib.hid k2
 have K3:=Lib.hid k3
 clear hB0 hz k0 k1 k2 k3 hW0'
 go_enter Tryz.func48,Tryz.ntmps48
 go_wp2_with fail
 have k4:((((W1.setCell ⟨w.heap.size,0,none⟩ (opv 103 (w.heap.size+1))).setCell ⟨w.heap.size,1,none⟩ (opv 104 (w.heap.size+1))).setCell ⟨w.heap.size,2,none⟩ (opv 105 (w.heap.size+1))).setCell ⟨w.heap.size,3,none⟩ (opv 106 (w.heap.size+1))).heap[w.heap.size]?=some (.cells #[opv 103 (w.heap.size+1),opv 104 (w.heap.size+1),opv 105 (w.heap.size+1),opv 106 (w.heap.size+1)] 83):=by
  have:=K3.out
  simp[World.setCell,Array.getElem?_modify,this]
 have m0:=Lib.cell_of_heap k4 0
 have m1:=Lib.cell_of_heap k4 1
 have m2:=Lib.cell_of_heap k4 2
 have m3:=Lib.cell_of_heap k4 3
 simp[opv] at m0 m1 m2 m3
 refine bodyPost_ret (v:=opsv (w.heap.size+1)) (by simp[results,Tryz.results48,go_sem,m0,m1,m2,m3,opsv,opv]) rfl ?_
 refine⟨_,rfl,?_,?_⟩
 ·refine (Below.heap_setCell _ _ _ _ (by simp)).trans ((Below.heap_setCell _ _ _ _ (by simp)).trans ((Below.heap_setCell _ _ _ _ (by simp)).trans ((Below.heap_setCell _ _ _ _ (by simp)).trans K2.out)))
 ·exact (((HB1.out.setCell (p:=⟨w.heap.size,0,none⟩) (Nat.le_refl _) _).setCell (p:=⟨w.heap.size,1,none⟩) (Nat.le_refl _) _).setCell (p:=⟨w.heap.size,2,none⟩) (Nat.le_refl _) _).setCell (p:=⟨w.heap.size,3,none⟩) (Nat.le_refl _) _
def OpOk(f:Nat)(X Y:Int→Int→Int→Int→Int):Prop:=∀(a b c d:ByteArray) (w:World) (B:Nat),a.size≤1000000→b.size≤1000000→c.size≤1000000→d.size≤1000000→MulBox w B→Tabs w →
 Calls Tryz.prog f #[.string a,.string b,.string c,.string d,.pointer (some ⟨B,0,none⟩)] w (Ag9 w (X (vl a) (vl b) (vl c) (vl d)) (Y (vl a) (vl b) (vl c) (vl d)))
theorem Ahf(f:Nat)(X Y:Int→Int→Int→Int→Int)(hop:OpOk f X Y)(hen:∀args w,(callFunc f args).run Tryz.prog w=.ok (.enter f args) w)(n1 d1 n2 d2:ByteArray)(B:Nat)(w:World)(s1:n1.size≤900000)(s2:d1.size≤900000)(s3:n2.size≤900000)(s4:d2.size≤900000)
 (hY:Y (vl n1) (vl (dd d1)) (vl n2) (vl (dd d2))≠0) (zX:(I (X (vl n1) (vl (dd d1)) (vl n2) (vl (dd d2)))).size≤3000000) (zY:(I (Y (vl n1) (vl (dd d1)) (vl n2) (vl (dd d2)))).size≤3000000) (hB:MulBox w B) (ht:Tabs w) :
 Calls Tryz.prog 47 #[opv f B,.agg #[.string n1,.string d1],.agg #[.string n2,.string d2]] w fun e w'=>e=.returned (fenc (Rat.divInt (X (vl n1) (vl (dd d1)) (vl n2) (vl (dd d2))) (Y (vl n1) (vl (dd d1)) (vl n2) (vl (dd d2)))))∧Below w.heap.size w w':=by
 have HT:=Lib.hid ht
 have HB:=Lib.hid hB
 have HOP:=Lib.hid hop
 have HY:=Lib.hid hY
 have ZX:=Lib.hid zX
 have ZY:=Lib.hid zY
 clear ht hB hop hY zX zY
 obtain⟨W0,hW0',hB0,hz,k0,k1,k2⟩:=box3 w (.cells #[.string n1,.string d1] 25) (.cells #[.string n2,.string d2] 25) (.cells #[.string ⟨#[]⟩,.string ⟨#[]⟩] 25)
 have hW0:=hW0'.symm
 have a0:=Lib.cell_of_heap k0 0
 have a1:=Lib.cell_of_heap k0 1
 simp at a0 a1
 clear hW0'
 unfold opv
 go_enter Tryz.func47,Tryz.ntmps47
 go_wp2_with fail
 refine (Ag2 n1 d1 _ (by omega)).mono ?_
 rintro e w1 ⟨rfl,hb1⟩
 have B1:=hB0.trans (hb1.mono hB0.size)
 have l1:=(hb1.block (w.heap.size+1) (by omega)).trans k1
 have l2:=(hb1.block (w.heap.size+1+1) (by omega)).trans k2
 have z1:w.heap.size+3≤w1.heap.size:=by have:=hb1.size;omega
 have c0:=Lib.cell_of_heap l1 0
 have c1:=Lib.cell_of_heap l1 1
 simp at c0 c1
 clear a0 a1 k0 k1 k2 hb1 hB0 hz hW0
 go_wp2_with fail
 refine (Ag2 n2 d2 _ (by omega)).mono ?_
 rintro e w2 ⟨rfl,hb2⟩
 have B2:=B1.trans (hb2.mono B1.size)
 have l3:=(hb2.block (w.heap.size+1+1) (by omega)).trans l2
 have z2:w.heap.size+3≤w2.heap.size:=by have:=hb2.size;omega
 clear c0 c1 l1 l2 hb2 B1 z1
 have L3:=Lib.hid l3
 clear l3
 have e1:=Agt d1
 have e2:=Agt d2
 go_wp2_with fail
 refine (HOP.out n1 (dd d1) n2 (dd d2) w2 B (by omega) (by omega) (by omega) (by omega) (HB.out.below B2) (HT.out.below B2)).mono ?_
 rintro e w3 ⟨rfl,hb3⟩
 have B3:=B2.trans (hb3.mono B2.size)
 have l4:=(hb3.block (w.heap.size+1+1) (by omega)).trans L3.out
 have z3:w.heap.size+3≤w3.heap.size:=by have:=hb3.size;omega
 have L4:=Lib.hid l4
 clear hb3 B2 L3 z2 l4
 generalize hx:X (vl n1) (vl (dd d1)) (vl n2) (vl (dd d2))=x at ZX ZY HY ⊢
 generalize hy:Y (vl n1) (vl (dd d1)) (vl n2) (vl (dd d2))=y at ZX ZY HY ⊢
 have HX:=Lib.hid hx
 have HYY:=Lib.hid hy
 clear hx hy
 go_wp2_with fail
 refine (Ag1 (I x) (I y) w3 ZX.out ZY.out (by rw[vl_I];exact HY.out) (HT.out.below B3)).mono ?_
 rintro e w4 ⟨rfl,hb4⟩
 rw[vl_I,vl_I]
 generalize hq:Rat.divInt x y=q
 have HQ:=Lib.hid hq
 clear hq
 unfold fenc
 have B4:=B3.trans (hb4.mono B3.size)
 have l5:=(hb4.block (w.heap.size+1+1) (by omega)).trans L4.out
 have c0:=Lib.cell_of_heap l5 0
 have c1:=Lib.cell_of_heap l5 1
 have f0:=Lib.frozen_of_heap l5 0
 have f1:=Lib.frozen_of_heap l5 1
 simp at c0 c1
 have L5:=Lib.hid l5
 have HB4:=Lib.hid B4
 clear hb4 B3 L4 l5 B4 HOP
 go_wp2_with fail
 have k6:=set2 L5.out (.string (I q.num)) (.string (dn q))
 have m0:=Lib.cell_of_heap k6 0
 have m1:=Lib.cell_of_heap k6 1
 simp at m0 m1
 refine bodyPost_ret (v:=.agg #[.string (I q.num),.string (dn q)]) (by simp[results,Tryz.results47,go_sem,m0,m1]) rfl ?_
 exact⟨by rw[HX.out,HYY.out,HQ.out];rfl,(HB4.out.setCell (p:=⟨w.heap.size+1+1,0,none⟩) (by simp;omega) _).setCell (p:=⟨w.heap.size+1+1,1,none⟩) (by simp;omega) _⟩
theorem Ahg(k:Nat){x:Nat}(h:x<10^k+10^k):x<10^(k+1):=by
 rw[Nat.pow_succ];omega
theorem Ahh{a d:ByteArray}{k:Nat}(ha:a.size≤k)(hd:d.size≤k):(vl a*vl d).natAbs<10^(k+k):=by
 rw[Int.natAbs_mul,Nat.pow_add]
 refine Nat.lt_of_lt_of_le (Nat.mul_lt_mul_of_lt_of_le (vl_lt a) (Nat.le_of_lt (vl_lt d)) (Nat.pow_pos (by omega))) ?_
 exact Nat.mul_le_mul (Nat.pow_le_pow_right (by omega) ha) (Nat.pow_le_pow_right (by omega) hd)
theorem Ahi{a b c d:ByteArray}{k:Nat}(ha:a.size≤k)(hb:b.size≤k)(hc:c.size≤k)(hd:d.size≤k):(I (vl a*vl d+vl c*vl b)).size≤k+k+2:=by
 refine Ac3 (k:=k+k+1) (Ahg _ ?_)
 have h1:=Ahh ha hd
 have h2:=Ahh hc hb
 omega
theorem Ahj{a b c d:ByteArray}{k:Nat}(ha:a.size≤k)(hb:b.size≤k)(hc:c.size≤k)(hd:d.size≤k):(I (vl a*vl d-vl c*vl b)).size≤k+k+2:=by
 refine Ac3 (k:=k+k+1) (Ahg _ ?_)
 have h1:=Ahh ha hd
 have h2:=Ahh hc hb
 omega
theorem add_q(a b c d:Int)(hb:b≠0)(hd:d≠0):Rat.divInt (a*d+c*b) (b*d)=Rat.divInt a b+Rat.divInt c d:=(Rat.divInt_add_divInt _ _ hb hd).symm
theorem sub_q(a b c d:Int)(hb:b≠0)(hd:d≠0):Rat.divInt (a*d-c*b) (b*d)=Rat.divInt a b-Rat.divInt c d:=(Rat.divInt_sub_divInt _ _ hb hd).symm
theorem mul_q(a b c d:Int):Rat.divInt (a*c) (b*d)=Rat.divInt a b*Rat.divInt c d:=(Rat.divInt_mul_divInt _ _).symm
theorem div_q(a b c d:Int):Rat.divInt (a*d) (b*c)=Rat.divInt a b / Rat.divInt c d:=by
 rw[Rat.div_def,Rat.inv_divInt,Rat.divInt_mul_divInt]
theorem Ahk(B:Nat)(w:World):Sem.run Tryz.prog (Instr.index 83 (Value.agg #[opv 103 B,opv 104 B,opv 105 B,opv 106 B]) (.int .i64 0)) w=.ok (opv 103 B) w:=by
 unfold Instr.index;simp[go_sem,asAgg]
theorem Ahm(B:Nat)(w:World):Sem.run Tryz.prog (Instr.index 83 (Value.agg #[opv 103 B,opv 104 B,opv 105 B,opv 106 B]) (.int .i64 1)) w=.ok (opv 104 B) w:=by
 unfold Instr.index;simp[go_sem,asAgg]
theorem Ahn(B:Nat)(w:World):Sem.run Tryz.prog (Instr.index 83 (Value.agg #[opv 103 B,opv 104 B,opv 105 B,opv 106 B]) (.int .i64 2)) w=.ok (opv 105 B) w:=by
 unfold Instr.index;simp[go_sem,asAgg]
theorem Ahp(B:Nat)(w:World):Sem.run Tryz.prog (Instr.index 83 (Value.agg #[opv 103 B,opv 104 B,opv 105 B,opv 106 B]) (.int .i64 3)) w=.ok (opv 106 B) w:=by
 unfold Instr.index;simp[go_sem,asAgg]
theorem Ahq(n1 d1 n2 d2:ByteArray)(w:World)(s1:n1.size≤900000)(s2:d1.size≤900000)(s3:n2.size≤900000)(s4:d2.size≤900000)(ht:Tabs w):
 Calls Tryz.prog 51 #[.agg #[.string n1,.string d1],.agg #[.string n2,.string d2]] w fun e w'=>e=.returned (fenc (fv n1 d1+fv n2 d2))∧Below w.heap.size w w':=by
 have e1:=Agt d1
 have e2:=Agt d2
 have AP:=fun (W:World) (B:Nat) (hM:MulBox W B) (h:Tabs W)=>Ahf 103 (fun a b c d=>a*d+c*b) (fun a b c d=>b*d) op1_any (enters_of Tryz.func103 (by kernel_rfl) rfl) n1 d1 n2 d2 B W s1 s2 s3 s4 (Int.mul_ne_zero (dd_ne d1) (dd_ne d2)) (Nat.le_trans (Ahi (a:=n1) (b:=dd d1) (c:=n2) (d:=dd d2) (k:=900001) (by omega) (by omega) (by omega) (by omega)) (by omega)) (Nat.le_trans (Aha (k:=900001) (m:=900001) (a:=dd d1) (b:=dd d2) (by omega) (by omega)) (by omega)) hM h
 rw[show Rat.divInt ((fun a b c d:Int=>a*d+c*b) (vl n1) (vl (dd d1)) (vl n2) (vl (dd d2))) ((fun a b c d:Int=>b*d) (vl n1) (vl (dd d1)) (vl n2) (vl (dd d2)))=fv n1 d1+fv n2 d2 from add_q _ _ _ _ (dd_ne d1) (dd_ne d2)] at AP
 have HAP:=Lib.hid AP
 have HT:=Lib.hid ht
 generalize hq:fv n1 d1+fv n2 d2=q at HAP ⊢
 clear ht AP hq
 obtain⟨W0,hW0',hB0,hz,k0,k1,k2⟩:=box3 w (.cells #[.string n1,.string d1] 25) (.cells #[.string n2,.string d2] 25) (.cells #[.string ⟨#[]⟩,.string ⟨#[]⟩] 25)
 have hW0:=hW0'.symm
 have a0:=Lib.cell_of_heap k0 0
 have a1:=Lib.cell_of_heap k0 1
 have a2:=Lib.cell_of_heap k1 0
 have a3:=Lib.cell_of_heap k1 1
 simp at a0 a1 a2 a3
 have K2:=Lib.hid k2
 have HB0:=Lib.hid hB0
 have HZ:=Lib.hid hz
 clear hW0' k0 k1 k2 hB0 hz
 have hix:=Ahk
 go_enter Tryz.func51,Tryz.ntmps51
 go_wp2_with fail
 go_region_held3 (fun W=>W.cell? ⟨w.heap.size,0,none⟩=some (.string n1)∧W.cell? ⟨w.heap.size,1,none⟩=some (.string d1)∧W.cell? ⟨w.heap.size+1,0,none⟩=some (.string n2)∧W.cell? ⟨w.heap.size+1,1,none⟩=some (.string d2))
  (refine⟨?_,?_,?_,?_⟩<;>first|assumption|(go_simp;done))
  (first
    | (go_at_call 48;refine (Ahe W0.drew).mono ?_;rintro e w1 ⟨B,rfl,hM,hb1⟩;unfold opsv;have b0:=keepc a0 hb1;have b1:=keepc a1 hb1;have b2:=keepc a2 hb1;have b3:=keepc a3 hb1;have B1:=HB0.out.drew.trans (hb1.mono HB0.out.size);have l1:=(hb1.block (w.heap.size+1+1) (by have:=HZ.out;simp;omega)).trans K2.out;have L1:=Lib.hid l1;have HM:=Lib.hid hM;have HB1:=Lib.hid B1;have z1:w.heap.size+3≤w1.heap.size:=(by have:=hb1.size;have:=HZ.out;simp at *;omega);clear hb1 hM B1 l1)
    | (go_at_call 47;refine (HAP.out w1 B HM.out (HT.out.below HB1.out)).mono ?_;rintro e w2 ⟨rfl,hb2⟩;unfold fenc;have c0:=keepc b0 hb2;have c1:=keepc b1 hb2;have c2:=keepc b2 hb2;have c3:=keepc b3 hb2;have l2:=(hb2.block (w.heap.size+1+1) (by omega)).trans L1.out;have g0:=Lib.cell_of_heap l2 0;have g1:=Lib.cell_of_heap l2 1;have h0:=Lib.frozen_of_heap l2 0;have h1:=Lib.frozen_of_heap l2 1;simp at g0 g1;have L2:=Lib.hid l2;have HB2:=Lib.hid (HB1.out.trans (hb2.mono HB1.out.size));clear hb2 l2))
 go_wp2_with fail
 have k6:=set2 L2.out (.string (I q.num)) (.string (dn q))
 have m0:=Lib.cell_of_heap k6 0
 have m1:=Lib.cell_of_heap k6 1
 simp at m0 m1
 refine bodyPost_ret (v:=.agg #[.string (I q.num),.string (dn q)]) (by simp[results,Tryz.results51,go_sem,m0,m1]) rfl ?_
 exact⟨rfl,(HB2.out.setCell (p:=⟨w.heap.size+1+1,0,none⟩) (by simp;omega) _).setCell (p:=⟨w.heap.size+1+1,1,none⟩) (by simp;omega) _⟩
theorem Ahr(n1 d1 n2 d2:ByteArray)(w:World)(s1:n1.size≤900000)(s2:d1.size≤900000)(s3:n2.size≤900000)(s4:d2.size≤900000)(ht:Tabs w):
 Calls Tryz.prog 17 #[.agg #[.string n1,.string d1],.agg #[.string n2,.string d2]] w fun e w'=>e=.returned (fenc (fv n1 d1-fv n2 d2))∧Below w.heap.size w w':=by
 have e1:=Agt d1
 have e2:=Agt d2
 have AP:=fun (W:World) (B:Nat) (hM:MulBox W B) (h:Tabs W)=>Ahf 104 (fun a b c d=>a*d-c*b) (fun a b c d=>b*d) op2_any (enters_of Tryz.func104 (by kernel_rfl) rfl) n1 d1 n2 d2 B W s1 s2 s3 s4 (Int.mul_ne_zero (dd_ne d1) (dd_ne d2)) (Nat.le_trans (Ahj (a:=n1) (b:=dd d1) (c:=n2) (d:=dd d2) (k:=900001) (by omega) (by omega) (by omega) (by omega)) (by omega)) (Nat.le_trans (Aha (k:=900001) (m:=900001) (a:=dd d1) (b:=dd d2) (by omega) (by omega)) (by omega)) hM h
 rw[show Rat.divInt ((fun a b c d:Int=>a*d-c*b) (vl n1) (vl (dd d1)) (vl n2) (vl (dd d2))) ((fun a b c d:Int=>b*d) (vl n1) (vl (dd d1)) (vl n2) (vl (dd d2)))=fv n1 d1-fv n2 d2 from sub_q _ _ _ _ (dd_ne d1) (dd_ne d2)] at AP
 have HAP:=Lib.hid AP
 have HT:=Lib.hid ht
 generalize hq:fv n1 d1-fv n2 d2=q at HAP ⊢
 clear ht AP hq
 obtain⟨W0,hW0',hB0,hz,k0,k1,k2⟩:=box3 w (.cells #[.string n1,.string d1] 25) (.cells #[.string n2,.string d2] 25) (.cells #[.string ⟨#[]⟩,.string ⟨#[]⟩] 25)
 have hW0:=hW0'.symm
 have a0:=Lib.cell_of_heap k0 0
 have a1:=Lib.cell_of_heap k0 1
 have a2:=Lib.cell_of_heap k1 0
 have a3:=Lib.cell_of_heap k1 1
 simp at a0 a1 a2 a3
 have K2:=Lib.hid k2
 have HB0:=Lib.hid hB0
 have HZ:=Lib.hid hz
 clear hW0' k0 k1 k2 hB0 hz
 have hix:=Ahm
 go_enter Tryz.func17,Tryz.ntmps17
 go_wp2_with fail
 go_region_held3 (fun W=>W.cell? ⟨w.heap.size,0,none⟩=some (.string n1)∧W.cell? ⟨w.heap.size,1,none⟩=some (.string d1)∧W.cell? ⟨w.heap.size+1,0,none⟩=some (.string n2)∧W.cell? ⟨w.heap.size+1,1,none⟩=some (.string d2))
  (refine⟨?_,?_,?_,?_⟩<;>first|assumption|(go_simp;done))
  (first
    | (go_at_call 48;refine (Ahe W0.drew).mono ?_;rintro e w1 ⟨B,rfl,hM,hb1⟩;unfold opsv;have b0:=keepc a0 hb1;have b1:=keepc a1 hb1;have b2:=keepc a2 hb1;have b3:=keepc a3 hb1;have B1:=HB0.out.drew.trans (hb1.mono HB0.out.size);have l1:=(hb1.block (w.heap.size+1+1) (by have:=HZ.out;simp;omega)).trans K2.out;have L1:=Lib.hid l1;have HM:=Lib.hid hM;have HB1:=Lib.hid B1;have z1:w.heap.size+3≤w1.heap.size:=(by have:=hb1.size;have:=HZ.out;simp at *;omega);clear hb1 hM B1 l1)
    | (go_at_call 47;refine (HAP.out w1 B HM.out (HT.out.below HB1.out)).mono ?_;rintro e w2 ⟨rfl,hb2⟩;unfold fenc;have c0:=keepc b0 hb2;have c1:=keepc b1 hb2;have c2:=keepc b2 hb2;have c3:=keepc b3 hb2;have l2:=(hb2.block (w.heap.size+1+1) (by omega)).trans L1.out;have g0:=Lib.cell_of_heap l2 0;have g1:=Lib.cell_of_heap l2 1;have h0:=Lib.frozen_of_heap l2 0;have h1:=Lib.frozen_of_heap l2 1;simp at g0 g1;have L2:=Lib.hid l2;have HB2:=Lib.hid (HB1.out.trans (hb2.mono HB1.out.size));clear hb2 l2))
 go_wp2_with fail
 have k6:=set2 L2.out (.string (I q.num)) (.string (dn q))
 have m0:=Lib.cell_of_heap k6 0
 have m1:=Lib.cell_of_heap k6 1
 simp at m0 m1
 refine bodyPost_ret (v:=.agg #[.string (I q.num),.string (dn q)]) (by simp[results,Tryz.results17,go_sem,m0,m1]) rfl ?_
 exact⟨rfl,(HB2.out.setCell (p:=⟨w.heap.size+1+1,0,none⟩) (by simp;omega) _).setCell (p:=⟨w.heap.size+1+1,1,none⟩) (by simp;omega) _⟩
theorem Ahs(n1 d1 n2 d2:ByteArray)(w:World)(s1:n1.size≤900000)(s2:d1.size≤900000)(s3:n2.size≤900000)(s4:d2.size≤900000)(ht:Tabs w):
 Calls Tryz.prog 12 #[.agg #[.string n1,.string d1],.agg #[.string n2,.string d2]] w fun e w'=>e=.returned (fenc (fv n1 d1*fv n2 d2))∧Below w.heap.size w w':=by
 have e1:=Agt d1
 have e2:=Agt d2
 have AP:=fun (W:World) (B:Nat) (hM:MulBox W B) (h:Tabs W)=>Ahf 105 (fun a b c d=>a*c) (fun a b c d=>b*d) op3_any (enters_of Tryz.func105 (by kernel_rfl) rfl) n1 d1 n2 d2 B W s1 s2 s3 s4 (Int.mul_ne_zero (dd_ne d1) (dd_ne d2)) (Nat.le_trans (Aha (k:=900001) (m:=900001) (a:=n1) (b:=n2) (by omega) (by omega)) (by omega)) (Nat.le_trans (Aha (k:=900001) (m:=900001) (a:=dd d1) (b:=dd d2) (by omega) (by omega)) (by omega)) hM h
 rw[show Rat.divInt ((fun a b c d:Int=>a*c) (vl n1) (vl (dd d1)) (vl n2) (vl (dd d2))) ((fun a b c d:Int=>b*d) (vl n1) (vl (dd d1)) (vl n2) (vl (dd d2)))=fv n1 d1*fv n2 d2 from mul_q _ _ _ _] at AP
 have HAP:=Lib.hid AP
 have HT:=Lib.hid ht
 generalize hq:fv n1 d1*fv n2 d2=q at HAP ⊢
 clear ht AP hq
 obtain⟨W0,hW0',hB0,hz,k0,k1,k2⟩:=box3 w (.cells #[.string n1,.string d1] 25) (.cells #[.string n2,.string d2] 25) (.cells #[.string ⟨#[]⟩,.string ⟨#[]⟩] 25)
 have hW0:=hW0'.symm
 have a0:=Lib.cell_of_heap k0 0
 have a1:=Lib.cell_of_heap k0 1
 have a2:=Lib.cell_of_heap k1 0
 have a3:=Lib.cell_of_heap k1 1
 simp at a0 a1 a2 a3
 have K2:=Lib.hid k2
 have HB0:=Lib.hid hB0
 have HZ:=Lib.hid hz
 clear hW0' k0 k1 k2 hB0 hz
 have hix:=Ahn
 go_enter Tryz.func12,Tryz.ntmps12
 go_wp2_with fail
 go_region_held3 (fun W=>W.cell? ⟨w.heap.size,0,none⟩=some (.string n1)∧W.cell? ⟨w.heap.size,1,none⟩=some (.string d1)∧W.cell? ⟨w.heap.size+1,0,none⟩=some (.string n2)∧W.cell? ⟨w.heap.size+1,1,none⟩=some (.string d2))
  (refine⟨?_,?_,?_,?_⟩<;>first|assumption|(go_simp;done))
  (first
    | (go_at_call 48;refine (Ahe W0.drew).mono ?_;rintro e w1 ⟨B,rfl,hM,hb1⟩;unfold opsv;have b0:=keepc a0 hb1;have b1:=keepc a1 hb1;have b2:=keepc a2 hb1;have b3:=keepc a3 hb1;have B1:=HB0.out.drew.trans (hb1.mono HB0.out.size);have l1:=(hb1.block (w.heap.size+1+1) (by have:=HZ.out;simp;omega)).trans K2.out;have L1:=Lib.hid l1;have HM:=Lib.hid hM;have HB1:=Lib.hid B1;have z1:w.heap.size+3≤w1.heap.size:=(by have:=hb1.size;have:=HZ.out;simp at *;omega);clear hb1 hM B1 l1)
    | (go_at_call 47;refine (HAP.out w1 B HM.out (HT.out.below HB1.out)).mono ?_;rintro e w2 ⟨rfl,hb2⟩;unfold fenc;have c0:=keepc b0 hb2;have c1:=keepc b1 hb2;have c2:=keepc b2 hb2;have c3:=keepc b3 hb2;have l2:=(hb2.block (w.heap.size+1+1) (by omega)).trans L1.out;have g0:=Lib.cell_of_heap l2 0;have g1:=Lib.cell_of_heap l2 1;have h0:=Lib.frozen_of_heap l2 0;have h1:=Lib.frozen_of_heap l2 1;simp at g0 g1;have L2:=Lib.hid l2;have HB2:=Lib.hid (HB1.out.trans (hb2.mono HB1.out.size));clear hb2 l2))
 go_wp2_with fail
 have k6:=set2 L2.out (.string (I q.num)) (.string (dn q))
 have m0:=Lib.cell_of_heap k6 0
 have m1:=Lib.cell_of_heap k6 1
 simp at m0 m1
 refine bodyPost_ret (v:=.agg #[.string (I q.num),.string (dn q)]) (by simp[results,Tryz.results12,go_sem,m0,m1]) rfl ?_
 exact⟨rfl,(HB2.out.setCell (p:=⟨w.heap.size+1+1,0,none⟩) (by simp;omega) _).setCell (p:=⟨w.heap.size+1+1,1,none⟩) (by simp;omega) _⟩
theorem Aht(n1 d1 n2 d2:ByteArray)(w:World)(s1:n1.size≤900000)(s2:d1.size≤900000)(s3:n2.size≤900000)(s4:d2.size≤900000)(hn2:vl n2≠0)(ht:Tabs w):
 Calls Tryz.prog 111 #[.agg #[.string n1,.string d1],.agg #[.string n2,.string d2]] w fun e w'=>e=.returned (.tuple #[fenc (fv n1 d1 / fv n2 d2),.int .i64 0])∧Below w.heap.size w w':=by
 have e1:=Agt d1
 have e2:=Agt d2
 have AP:=fun (W:World) (B:Nat) (hM:MulBox W B) (h:Tabs W)=>Ahf 106 (fun a b c d=>a*d) (fun a b c d=>b*c) op4_any (enters_of Tryz.func106 (by kernel_rfl) rfl) n1 d1 n2 d2 B W s1 s2 s3 s4 (Int.mul_ne_zero (dd_ne d1) hn2) (Nat.le_trans (Aha (k:=900001) (m:=900001) (a:=n1) (b:=dd d2) (by omega) (by omega)) (by omega)) (Nat.le_trans (Aha (k:=900001) (m:=900001) (a:=dd d1) (b:=n2) (by omega) (by omega)) (by omega)) hM h
 rw[show Rat.divInt ((fun a b c d:Int=>a*d) (vl n1) (vl (dd d1)) (vl n2) (vl (dd d2))) ((fun a b c d:Int=>b*c) (vl n1) (vl (dd d1)) (vl n2) (vl (dd d2)))=fv n1 d1 / fv n2 d2 from div_q _ _ _ _] at AP
 have HAP:=Lib.hid AP
 have HT:=Lib.hid ht
 generalize hq:fv n1 d1 / fv n2 d2=q at HAP ⊢
 have HN:=Lib.hid hn2
 clear ht AP hq hn2
 obtain⟨W0,hW0',hB0,hz,k0,k1,k2⟩:=box3 w (.cells #[.string n1,.string d1] 25) (.cells #[.string n2,.string d2] 25) (.cells #[.string ⟨#[]⟩,.string ⟨#[]⟩] 25)
 have hW0:=hW0'.symm
 have a0:=Lib.cell_of_heap k0 0
 have a1:=Lib.cell_of_heap k0 1
 have a2:=Lib.cell_of_heap k1 0
 have a3:=Lib.cell_of_heap k1 1
 simp at a0 a1 a2 a3
 have K2:=Lib.hid k2
 have HB0:=Lib.hid hB0
 have HZ:=Lib.hid hz
 clear hW0' k0 k1 k2 hB0 hz
 have hix:=Ahp
 go_enter Tryz.func111,Tryz.ntmps111
 go_wp2_with fail
 refine (Agf n2 ⟨#[]⟩ W0 (by omega) (by show 0≤_;omega)).mono ?_
 rintro e w0 ⟨rfl,hb0⟩
 rw[show vl (⟨#[]⟩:ByteArray)=0 from by rw[zero_eq,vl_I]]
 have hc:(cmpI (vl n2) 0==0)=false:=beq_eq_false_iff_ne.2 (fun h=>HN.out (cmpI_eq.1 h))
 have a0:=keepc a0 hb0
 have a1:=keepc a1 hb0
 have a2:=keepc a2 hb0
 have a3:=keepc a3 hb0
 have K2:=Lib.hid ((hb0.block (w.heap.size+1+1) (by have:=HZ.out;simp;omega)).trans K2.out)
 have HB0:=Lib.hid (HB0.out.trans (hb0.mono HB0.out.size))
 have HZ:Hid (w.heap.size+3≤w0.heap.size):=(by have:=hb0.size;have:=HZ.out;show _≤_;omega)
 clear hb0
 go_wp2_with fail
 go_region_held3 (fun W=>W.cell? ⟨w.heap.size,0,none⟩=some (.string n1)∧W.cell? ⟨w.heap.size,1,none⟩=some (.string d1)∧W.cell? ⟨w.heap.size+1,0,none⟩=some (.string n2)∧W.cell? ⟨w.heap.size+1,1,none⟩=some (.string d2))
  (refine⟨?_,?_,?_,?_⟩<;>first|assumption|(go_simp;done))
  (first
    | (go_at_call 48;refine (Ahe w0.drew).mono ?_;rintro e w1 ⟨B,rfl,hM,hb1⟩;unfold opsv;have b0:=keepc a0 hb1;have b1:=keepc a1 hb1;have b2:=keepc a2 hb1;have b3:=keepc a3 hb1;have B1:=HB0.out.drew.trans (hb1.mono HB0.out.size);have l1:=(hb1.block (w.heap.size+1+1) (by have:=HZ.out;simp;omega)).trans K2.out;have L1:=Lib.hid l1;have HM:=Lib.hid hM;have HB1:=Lib.hid B1;have z1:w.heap.size+3≤w1.heap.size:=(by have:=hb1.size;have:=HZ.out;simp at *;omega);clear hb1 hM B1 l1)
    | (go_at_call 47;refine (HAP.out w1 B HM.out (HT.out.below HB1.out)).mono ?_;rintro e w2 ⟨rfl,hb2⟩;unfold fenc;have c0:=keepc b0 hb2;have c1:=keepc b1 hb2;have c2:=keepc b2 hb2;have c3:=keepc b3 hb2;have l2:=(hb2.block (w.heap.size+1+1) (by omega)).trans L1.out;have g0:=Lib.cell_of_heap l2 0;have g1:=Lib.cell_of_heap l2 1;have h0:=Lib.frozen_of_heap l2 0;have h1:=Lib.frozen_of_heap l2 1;simp at g0 g1;have L2:=Lib.hid l2;have HB2:=Lib.hid (HB1.out.trans (hb2.mono HB1.out.size));clear hb2 l2))
 go_wp2_with fail
 have k6:=set2 L2.out (.string (I q.num)) (.string (dn q))
 have m0:=Lib.cell_of_heap k6 0
 have m1:=Lib.cell_of_heap k6 1
 simp at m0 m1
 refine bodyPost_ret (v:=.tuple #[.agg #[.string (I q.num),.string (dn q)],.int .i64 0]) (by simp[results,Tryz.results111,go_sem,m0,m1]) rfl ?_
 exact⟨rfl,(HB2.out.setCell (p:=⟨w.heap.size+1+1,0,none⟩) (by simp;omega) _).setCell (p:=⟨w.heap.size+1+1,1,none⟩) (by simp;omega) _⟩
theorem Ahu(a:Int):Rat.divInt a 1=(a:Rat):=Rat.num_divInt_den (a:Rat)
theorem Ahv(a:ByteArray)(w:World)(s1:a.size≤3000000)(ht:Tabs w):
 Calls Tryz.prog 29 #[.string a] w fun e w'=>e=.returned (fenc (vl a:Rat))∧Below w.heap.size w w':=by
 have HB:=Lib.hid ((Below.refl _ w).alloc (Nat.le_refl _) (Obj.cells #[.string ⟨#[]⟩,.string ⟨#[]⟩] 25))
 have HR:=Lib.hid (Ag1 a one1 _ s1 (by show 1≤_;omega) (by rw[one1_eq,vl_I];omega) (ht.below HB.out))
 rw[one1_eq,vl_I,Ahu,←one1_eq] at HR
 obtain⟨W0,hW0⟩:∃W0,w.alloc (Obj.cells #[.string ⟨#[]⟩,.string ⟨#[]⟩] 25)=W0:=⟨_,rfl⟩
 have hk:W0.heap[w.heap.size]?=some (Obj.cells #[.string ⟨#[]⟩,.string ⟨#[]⟩] 25):=by rw[←hW0];exact heap_alloc_new w _
 have hs:W0.heap.size=w.heap.size+1:=by rw[←hW0];simp
 rw[hW0] at HB HR
 generalize hq:(vl a:Rat)=q at HR ⊢
 clear ht hq
 unfold one1 at HR
 go_enter Tryz.func29,Tryz.ntmps29
 go_wp2_with fail
 refine HR.out.mono ?_
 rintro e w1 ⟨rfl,B1⟩
 unfold fenc
 clear HR
 have k1:=(B1.block w.heap.size (by omega)).trans hk
 have a0:=Lib.cell_of_heap k1 0
 have a1:=Lib.cell_of_heap k1 1
 simp at a0 a1
 have f0:=Lib.frozen_of_heap k1 0
 have f1:=Lib.frozen_of_heap k1 1
 have HB1:=Lib.hid (HB.out.trans (B1.mono HB.out.size))
 have K1:=Lib.hid k1
 clear B1 HB hk hs k1
 go_wp2_with fail
 have k2:=set2 K1.out (.string (I q.num)) (.string (dn q))
 have m0:=Lib.cell_of_heap k2 0
 have m1:=Lib.cell_of_heap k2 1
 simp at m0 m1
 refine bodyPost_ret (v:=.agg #[.string (I q.num),.string (dn q)]) (by simp[results,Tryz.results29,go_sem,m0,m1]) rfl ?_
 exact⟨rfl,(HB1.out.setCell (p:=⟨w.heap.size,0,none⟩) (Nat.le_refl _) _).setCell (p:=⟨w.heap.size,1,none⟩) (Nat.le_refl _) _⟩
theorem Ahw(n d:ByteArray)(w:World)(s1:n.size≤2000000)(s2:d.size≤2000000)(ht:Tabs w):
 Calls Tryz.prog 78 #[.agg #[.string n,.string d]] w fun e w'=>e=.returned (.tuple #[.string (I (fv n d).num),.string (I ((fv n d).den:Int))])∧Below w.heap.size w w':=by
 have HB:=Lib.hid ((Below.refl _ w).alloc (Nat.le_refl _) (Obj.cells #[.string n,.string d] 25))
 have HP:=Lib.hid (Ag2 n d (w.alloc (Obj.cells #[.string n,.string d] 25)) (by omega))
 obtain⟨W0,hW0⟩:∃W0,w.alloc (Obj.cells #[.string n,.string d] 25)=W0:=⟨_,rfl⟩
 have hk:W0.heap[w.heap.size]?=some (Obj.cells #[.string n,.string d] 25):=by rw[←hW0];exact heap_alloc_new w _
 rw[hW0] at HB HP
 have b0:=Lib.cell_of_heap hk 0
 have b1:=Lib.cell_of_heap hk 1
 simp at b0 b1
 have HT:=Lib.hid ht
 have hdd:=Agt d
 clear ht
 go_enter Tryz.func78,Tryz.ntmps78
 go_wp2_with fail
 refine HP.out.mono ?_
 rintro e w1 ⟨rfl,B1⟩
 have HB1:=Lib.hid (HB.out.trans (B1.mono HB.out.size))
 clear B1 HB hk b0 b1 HP
 go_wp2_with fail
 refine (Agz n (dd d) w1 (by omega) (by omega) (dd_ne d) (HT.out.below HB1.out)).mono ?_
 rintro e w2 ⟨rfl,B2⟩
 go_wp2_with fail
 go_ret2
 exact⟨rfl,HB1.out.trans (B2.mono HB1.out.size)⟩
def CanQ(n d:ByteArray):Prop:=n=I (fv n d).num∧d=dn (fv n d)
theorem Ahx(n d:ByteArray)(w:World)(s1:n.size≤2000000)(s2:d.size≤2000000)(hc:CanQ n d)(ht:Tabs w):
 Calls Tryz.prog 8 #[.agg #[.string n,.string d]] w fun e w'=>e=.returned (.int .i64 0)∧Below w.heap.size w w':=by
 have HB:=Lib.hid ((Below.refl _ w).alloc (Nat.le_refl _) (Obj.cells #[.string n,.string d] 25))
 obtain⟨W0,hW0⟩:∃W0,w.alloc (Obj.cells #[.string n,.string d] 25)=W0:=⟨_,rfl⟩
 have hk:W0.heap[w.heap.size]?=some (Obj.cells #[.string n,.string d] 25):=by rw[←hW0];exact heap_alloc_new w _
 rw[hW0] at HB
 have b0:=Lib.cell_of_heap hk 0
 have b1:=Lib.cell_of_heap hk 1
 simp at b0 b1
 have HT:=Lib.hid ht
 have HC:=Lib.hid hc
 have hdd:=Agt d
 clear ht hk hc
 go_enter Tryz.func8,Tryz.ntmps8
 go_wp2_with fail
 go_region_held3 (fun W=>W.cell? ⟨w.heap.size,0,none⟩=some (.string n)∧W.cell? ⟨w.heap.size,1,none⟩=some (.string d))
  (refine⟨?_,?_⟩<;>first|assumption|(go_simp;done))
  (first
    | (go_at_call 41;refine (Ag2 n d W0.drew (by omega)).mono ?_;rintro e w1 ⟨rfl,hb1⟩;have c0:=keepc b0 hb1;have c1:=keepc b1 hb1;have HB1:=Lib.hid (HB.out.drew.trans (hb1.mono HB.out.size));clear hb1)
    | (go_at_call 40;refine (Ag1 n (dd d) w1 (by omega) (by omega) (dd_ne d) (HT.out.below HB1.out)).mono ?_;rintro e w2 ⟨rfl,hb2⟩;rw[show Rat.divInt (vl n) (vl (dd d))=fv n d from rfl];unfold fenc;rw[←HC.out.1,←HC.out.2];have d0:=keepc c0 hb2;have d1:=keepc c1 hb2;have HB2:=Lib.hid (HB1.out.trans (hb2.mono HB1.out.size));clear hb2))
 go_wp2_with fail
 go_ret
 exact⟨rfl,HB2.out⟩
theorem Ahy(n d:ByteArray)(w:World)(s1:n.size≤2000000)(s2:d.size≤2000000)(hc:¬CanQ n d)(ht:Tabs w):
 Calls Tryz.prog 8 #[.agg #[.string n,.string d]] w fun e w'=>e=.returned (.int .i64 1)∧Below w.heap.size w w':=by
 have HB:=Lib.hid ((Below.refl _ w).alloc (Nat.le_refl _) (Obj.cells #[.string n,.string d] 25))
 obtain⟨W0,hW0⟩:∃W0,w.alloc (Obj.cells #[.string n,.string d] 25)=W0:=⟨_,rfl⟩
 have hk:W0.heap[w.heap.size]?=some (Obj.cells #[.string n,.string d] 25):=by rw[←hW0];exact heap_alloc_new w _
 rw[hW0] at HB
 have b0:=Lib.cell_of_heap hk 0
 have b1:=Lib.cell_of_heap hk 1
 simp at b0 b1
 have HT:=Lib.hid ht
 have HC:Hid (¬(n=I (fv n d).num∧d=dn (fv n d))):=hc
 have hdd:=Agt d
 clear ht hk hc
 by_cases hn:n=I (fv n d).num
 ·have hd':(d.toList==(dn (fv n d)).toList)=false:=Ac7 (fun e=>HC.out ⟨hn,e⟩)
  have hn':(n.toList==(I (fv n d).num).toList)=true:=by rw[←hn];simp
  clear hn HC
  go_enter Tryz.func8,Tryz.ntmps8
  go_wp2_with fail
  go_region_held3 (fun W=>W.cell? ⟨w.heap.size,0,none⟩=some (.string n)∧W.cell? ⟨w.heap.size,1,none⟩=some (.string d))
   (refine⟨?_,?_⟩<;>first|assumption|(go_simp;done))
   (first
     | (go_at_call 41;refine (Ag2 n d W0.drew (by omega)).mono ?_;rintro e w1 ⟨rfl,hb1⟩;have c0:=keepc b0 hb1;have c1:=keepc b1 hb1;have HB1:=Lib.hid (HB.out.drew.trans (hb1.mono HB.out.size));clear hb1)
     | (go_at_call 40;refine (Ag1 n (dd d) w1 (by omega) (by omega) (dd_ne d) (HT.out.below HB1.out)).mono ?_;rintro e w2 ⟨rfl,hb2⟩;rw[show Rat.divInt (vl n) (vl (dd d))=fv n d from rfl];unfold fenc;have d0:=keepc c0 hb2;have d1:=keepc c1 hb2;have HB2:=Lib.hid (HB1.out.trans (hb2.mono HB1.out.size));clear hb2))
  go_wp2_with fail
  go_ret
  exact⟨rfl,HB2.out⟩
 ·have hn':(n.toList==(I (fv n d).num).toList)=false:=Ac7 hn
  clear hn HC
  by_cases hd:d=dn (fv n d)
  ·have hd':(d.toList==(dn (fv n d)).toList)=true:=by rw[←hd];simp
   clear hd
   go_enter Tryz.func8,Tryz.ntmps8
   go_wp2_with fail
   go_region_held3 (fun W=>W.cell? ⟨w.heap.size,0,none⟩=some (.string n)∧W.cell? ⟨w.heap.size,1,none⟩=some (.string d))
    (refine⟨?_,?_⟩<;>first|assumption|(go_simp;done))
    (first
      | (go_at_call 41;refine (Ag2 n d W0.drew (by omega)).mono ?_;rintro e w1 ⟨rfl,hb1⟩;have c0:=keepc b0 hb1;have c1:=keepc b1 hb1;have HB1:=Lib.hid (HB.out.drew.trans (hb1.mono HB.out.size));clear hb1)
      | (go_at_call 40;refine (Ag1 n (dd d) w1 (by omega) (by omega) (dd_ne d) (HT.out.below HB1.out)).mono ?_;rintro e w2 ⟨rfl,hb2⟩;rw[show Rat.divInt (vl n) (vl (dd d))=fv n d from rfl];unfold fenc;have d0:=keepc c0 hb2;have d1:=keepc c1 hb2;have HB2:=Lib.hid (HB1.out.trans (hb2.mono HB1.out.size));clear hb2))
   go_wp2_with fail
   go_ret
   exact⟨rfl,HB2.out⟩
  ·have hd':(d.toList==(dn (fv n d)).toList)=false:=Ac7 hd
   clear hd
   go_enter Tryz.func8,Tryz.ntmps8
   go_wp2_with fail
   go_region_held3 (fun W=>W.cell? ⟨w.heap.size,0,none⟩=some (.string n)∧W.cell? ⟨w.heap.size,1,none⟩=some (.string d))
    (refine⟨?_,?_⟩<;>first|assumption|(go_simp;done))
    (first
      | (go_at_call 41;refine (Ag2 n d W0.drew (by omega)).mono ?_;rintro e w1 ⟨rfl,hb1⟩;have c0:=keepc b0 hb1;have c1:=keepc b1 hb1;have HB1:=Lib.hid (HB.out.drew.trans (hb1.mono HB.out.size));clear hb1)
      | (go_at_call 40;refine (Ag1 n (dd d) w1 (by omega) (by omega) (dd_ne d) (HT.out.below HB1.out)).mono ?_;rintro e w2 ⟨rfl,hb2⟩;rw[show Rat.divInt (vl n) (vl (dd d))=fv n d from rfl];unfold fenc;have d0:=keepc c0 hb2;have d1:=keepc c1 hb2;have HB2:=Lib.hid (HB1.out.trans (hb2.mono HB1.out.size));clear hb2))
   go_wp2_with fail
   go_ret
   exact⟨rfl,HB2.out⟩
end Go.Proofs.YtcnmoobojdopgaaGreatDoor
namespace Go.Proofs.YtcnmoobojdopgaaGreatDoor
open Go.RowKit Tr
theorem Ahz(n d:ByteArray)(ha:n.size≤16)(hb:d.size≤16):(rawN n d).size≤1000000∧(rawD d).size≤1000000∧(vl (rawN n d)).natAbs<100000000000000000∧(vl (rawD d)).natAbs<100000000000000000∧0<vl (rawD d)∧Rat.divInt (vl (rawN n d)) (vl (rawD d))=fv n d:=by
 have hn:(vl n).natAbs<10^16:=Nat.lt_of_lt_of_le (vl_lt n) (Ac4 ha)
 have hd:(vl d).natAbs<10^16:=Nat.lt_of_lt_of_le (vl_lt d) (Ac4 hb)
 unfold rawN rawD fv dd
 rcases Int.lt_trichotomy (vl d) 0 with h|h|h
 ·rw[if_pos h,if_neg (by omega),if_pos h,if_neg (by omega)]
  have z1:(I (-vl n)).size≤17:=Ac3 (by rw[Int.natAbs_neg];exact hn)
  have z2:(I (-vl d)).size≤17:=Ac3 (by rw[Int.natAbs_neg];exact hd)
  rw[vl_I,vl_I,Rat.neg_divInt_neg]
  exact⟨by omega,by omega,by omega,by omega,by omega,rfl⟩
 ·rw[if_neg (by omega),if_pos h,if_pos h]
  have:vl one1=1:=by rw[one1_eq,vl_I]
  have z:one1.size=1:=rfl
  rw[this]
  exact⟨by omega,by omega,by omega,by omega,by omega,rfl⟩
 ·rw[if_neg (by omega),if_neg (by omega),if_neg (by omega),if_neg (by omega)]
  exact⟨by omega,by omega,by omega,by omega,by omega,rfl⟩
theorem Ah0(n d:ByteArray)(ha:n.size≤16)(hb:d.size≤16)(w:World):
 Calls Tryz.prog 189 #[.agg #[.string n,.string d]] w fun e w'=>e=.returned (fenc (fv n d))∧Below w.heap.size w w':=by
 obtain⟨r1,r2,r3,r4,r5,r6⟩:=Ahz n d ha hb
 have HR:=fun W=>Ag8 (rawN n d) (rawD d) r1 r2 r3 r4 r5 W
 rw[r6] at HR
 have HR:=Lib.hid HR
 have HW:=Lib.hid (fun W=>Ag7 n d (by omega) (by omega) W)
 clear r1 r2 r3 r4 r5 r6 ha hb
 obtain⟨W0,hW0,hb0,hs0,k0,k1⟩:=box2 w (.cells #[.string n,.string d] 25) (.cells #[.string ⟨#[]⟩,.string ⟨#[]⟩] 25)
 have b0:=Lib.cell_of_heap k0 0
 have b1:=Lib.cell_of_heap k0 1
 simp at b0 b1
 have HB:=Lib.hid hb0
 have HK:=Lib.hid k1
 clear hb0 k0 k1 hs0
 go_enter Tryz.func189,Tryz.ntmps189
 go_wp2_with fail
 try rw[←hW0]
 refine (HW.out _).mono ?_
 rintro e w1 ⟨rfl,c1⟩
 have HC1:=Lib.hid c1
 clear c1
 go_wp2_with fail
 refine (HR.out _).mono ?_
 rintro e w2 ⟨rfl,c2⟩
 have c12:=HC1.out.trans (c2.mono HC1.out.size)
 have k2:=(c12.block _ (Array.getElem?_eq_some_iff.1 HK.out).1).trans HK.out
 have a0:=Lib.cell_of_heap k2 0
 have a1:=Lib.cell_of_heap k2 1
 simp at a0 a1
 have f0:=Lib.frozen_of_heap k2 0
 have f1:=Lib.frozen_of_heap k2 1
 have HB2:=Lib.hid (HB.out.trans (c12.mono HB.out.size))
 have K2:=Lib.hid k2
 clear c2 c12 k2 HB HC1 HK HR HW
 obtain⟨q,hq⟩:∃q,fv n d=q:=⟨_,rfl⟩
 rw[hq]
 have HQ:=Lib.hid hq
 clear hq
 unfold fenc
 go_wp2_with fail
 have k2:=set2 K2.out (.string (I q.num)) (.string (dn q))
 have m0:=Lib.cell_of_heap k2 0
 have m1:=Lib.cell_of_heap k2 1
 simp at m0 m1
 refine bodyPost_ret (v:=.agg #[.string (I q.num),.string (dn q)]) (by simp[results,Tryz.results189,go_sem,m0,m1]) rfl ?_
 exact⟨by rw[HQ.out];rfl,(HB2.out.setCell (p:=⟨w.heap.size+1,0,none⟩) (by simp) _).setCell (p:=⟨w.heap.size+1,1,none⟩) (by simp) _⟩
theorem Ah1(n d:ByteArray)(ha:n.size≤16)(hb:d.size≤16)(hc:CanQ n d)(w:World):
 Calls Tryz.prog 159 #[.agg #[.string n,.string d]] w fun e w'=>e=.returned (.int .i64 0)∧Below w.heap.size w w':=by
 have HB:=Lib.hid ((Below.refl _ w).alloc (Nat.le_refl _) (Obj.cells #[.string n,.string d] 25))
 obtain⟨W0,hW0⟩:∃W0,w.alloc (Obj.cells #[.string n,.string d] 25)=W0:=⟨_,rfl⟩
 have hk:W0.heap[w.heap.size]?=some (Obj.cells #[.string n,.string d] 25):=by rw[←hW0];exact heap_alloc_new w _
 rw[hW0] at HB
 have b0:=Lib.cell_of_heap hk 0
 have b1:=Lib.cell_of_heap hk 1
 simp at b0 b1
 have HM:=Lib.hid (fun W=>Ah0 n d ha hb W)
 clear hk ha hb
 have HC:=Lib.hid hc
 clear hc
 go_enter Tryz.func159,Tryz.ntmps159
 go_wp2_with fail
 go_region_held3 (fun W=>W.cell? ⟨w.heap.size,0,none⟩=some (.string n)∧W.cell? ⟨w.heap.size,1,none⟩=some (.string d))
  (refine⟨?_,?_⟩<;>first|assumption|(go_simp;done))
  ((go_at_call 189;refine (HM.out W0.drew).mono ?_;rintro e w2 ⟨rfl,hb2⟩;unfold fenc;rw[←HC.out.1,←HC.out.2];have d0:=keepc b0 hb2;have d1:=keepc b1 hb2;have HB2:=Lib.hid (HB.out.drew.trans (hb2.mono HB.out.size));clear hb2))
 all_goals (first|go_wp2_with fail|skip)
 all_goals (go_ret;exact⟨rfl,HB2.out⟩)
theorem Ah2(n d:ByteArray)(ha:n.size≤16)(hb:d.size≤16)(hc:¬CanQ n d)(w:World):
 Calls Tryz.prog 159 #[.agg #[.string n,.string d]] w fun e w'=>e=.returned (.int .i64 1)∧Below w.heap.size w w':=by
 have HB:=Lib.hid ((Below.refl _ w).alloc (Nat.le_refl _) (Obj.cells #[.string n,.string d] 25))
 obtain⟨W0,hW0⟩:∃W0,w.alloc (Obj.cells #[.string n,.string d] 25)=W0:=⟨_,rfl⟩
 have hk:W0.heap[w.heap.size]?=some (Obj.cells #[.string n,.string d] 25):=by rw[←hW0];exact heap_alloc_new w _
 rw[hW0] at HB
 have b0:=Lib.cell_of_heap hk 0
 have b1:=Lib.cell_of_heap hk 1
 simp at b0 b1
 have HM:=Lib.hid (fun W=>Ah0 n d ha hb W)
 clear hk ha hb
 have HC:Hid (¬(n=I (fv n d).num∧d=dn (fv n d))):=hc
 clear hc
 by_cases hn:n=I (fv n d).num
 ·have hd':(d.toList==(dn (fv n d)).toList)=false:=Ac7 (fun e=>HC.out ⟨hn,e⟩)
  have hn':(n.toList==(I (fv n d).num).toList)=true:=by rw[←hn];simp
  clear hn HC
  go_enter Tryz.func159,Tryz.ntmps159
  go_wp2_with fail
  go_region_held3 (fun W=>W.cell? ⟨w.heap.size,0,none⟩=some (.string n)∧W.cell? ⟨w.heap.size,1,none⟩=some (.string d))
   (refine⟨?_,?_⟩<;>first|assumption|(go_simp;done))
   ((go_at_call 189;refine (HM.out W0.drew).mono ?_;rintro e w2 ⟨rfl,hb2⟩;unfold fenc;have d0:=keepc b0 hb2;have d1:=keepc b1 hb2;have HB2:=Lib.hid (HB.out.drew.trans (hb2.mono HB.out.size));clear hb2))
  all_goals (first|go_wp2_with fail|skip)
  all_goals (go_ret;exact⟨rfl,HB2.out⟩)
 ·have hn':(n.toList==(I (fv n d).num).toList)=false:=Ac7 hn
  clear hn HC
  by_cases hd:d=dn (fv n d)
  ·have hd':(d.toList==(dn (fv n d)).toList)=true:=by rw[←hd];simp
   clear hd
   go_enter Tryz.func159,Tryz.ntmps159
   go_wp2_with fail
   go_region_held3 (fun W=>W.cell? ⟨w.heap.size,0,none⟩=some (.string n)∧W.cell? ⟨w.heap.size,1,none⟩=some (.string d))
    (refine⟨?_,?_⟩<;>first|assumption|(go_simp;done))
    ((go_at_call 189;refine (HM.out W0.drew).mono ?_;rintro e w2 ⟨rfl,hb2⟩;unfold fenc;have d0:=keepc b0 hb2;have d1:=keepc b1 hb2;have HB2:=Lib.hid (HB.out.drew.trans (hb2.mono HB.out.size));clear hb2))
   all_goals (first|go_wp2_with fail|skip)
   all_goals (go_ret;exact⟨rfl,HB2.out⟩)
  ·have hd':(d.toList==(dn (fv n d)).toList)=false:=Ac7 hd
   clear hd
   go_enter Tryz.func159,Tryz.ntmps159
   go_wp2_with fail
   go_region_held3 (fun W=>W.cell? ⟨w.heap.size,0,none⟩=some (.string n)∧W.cell? ⟨w.heap.size,1,none⟩=some (.string d))
    (refine⟨?_,?_⟩<;>first|assumption|(go_simp;done))
    ((go_at_call 189;refine (HM.out W0.drew).mono ?_;rintro e w2 ⟨rfl,hb2⟩;unfold fenc;have d0:=keepc b0 hb2;have d1:=keepc b1 hb2;have HB2:=Lib.hid (HB.out.drew.trans (hb2.mono HB.out.size));clear hb2))
   all_goals (first|go_wp2_with fail|skip)
   all_goals (go_ret;exact⟨rfl,HB2.out⟩)
end Go.Proofs.YtcnmoobojdopgaaGreatDoor
namespace Go.Proofs.YtcnmoobojdopgaaGreatDoor
open Go.RowKit Tr Go.Shelf
theorem Ah3(n d:ByteArray)(ha:n.size≤100)(hb:d.size≤100):(rawN n d).size≤200∧(rawD d).size≤200:=by
 have hn:(vl n).natAbs<10^100:=Nat.lt_of_lt_of_le (vl_lt n) (Ac4 ha)
 have hd:(vl d).natAbs<10^100:=Nat.lt_of_lt_of_le (vl_lt d) (Ac4 hb)
 have z1:(I (-vl n)).size≤101:=Ac3 (by rw[Int.natAbs_neg];exact hn)
 have z2:(I (-vl d)).size≤101:=Ac3 (by rw[Int.natAbs_neg];exact hd)
 have z:one1.size=1:=rfl
 unfold rawN rawD
 constructor
 ·split<;>omega
 ·split
  ·omega
  ·split<;>omega
theorem Ah4(n d n' d':ByteArray)(ha:n.size≤100)(hb:d.size≤100)(ha':n'.size≤100)(hb':d'.size≤100)(w:World):
 Calls Tryz.prog 161 #[.agg #[.string n,.string d],.agg #[.string n',.string d']] w fun e w'=>e=.returned (.int .i64 (cmpI (vl (rawN n d)*vl (rawD d')) (vl (rawN n' d')*vl (rawD d))))∧Below w.heap.size w w':=by
 have r:=Ah3 n d ha hb
 have r':=Ah3 n' d' ha' hb'
 have H1:=Lib.hid (fun W=>Ag7 n d (by omega) (by omega) W)
 have H2:=Lib.hid (fun W=>Ag7 n' d' (by omega) (by omega) W)
 have H3:=Lib.hid (fun W=>rMul_any (rawN n d) (rawD d') (by omega) (by omega) W)
 have H4:=Lib.hid (fun W=>rMul_any (rawN n' d') (rawD d) (by omega) (by omega) W)
 have hs1:(I (vl (rawN n d)*vl (rawD d'))).size≤1000000:=by
  have:=Ac3 (Ac6 (vl_lt (rawN n d)) (vl_lt (rawD d')));omega
 have hs2:(I (vl (rawN n' d')*vl (rawD d))).size≤1000000:=by
  have:=Ac3 (Ac6 (vl_lt (rawN n' d')) (vl_lt (rawD d)));omega
 have H5:=fun W=>Ad0 _ _ hs1 hs2 W
 rw[vl_I,vl_I] at H5
 have H5:=Lib.hid H5
 clear hs1 hs2 r r' ha hb ha' hb'
 obtain⟨W0,hW0,hb0,hs0,k0,k1⟩:=box2 w (.cells #[.string n,.string d] 25) (.cells #[.string n',.string d'] 25)
 have a0:=Lib.cell_of_heap k0 0
 have a1:=Lib.cell_of_heap k0 1
 have b0:=Lib.cell_of_heap k1 0
 have b1:=Lib.cell_of_heap k1 1
 simp at a0 a1 b0 b1
 have HB:=Lib.hid hb0
 have HZ:=Lib.hid hs0
 clear hb0 k0 k1 hs0
 go_enter Tryz.func161,Tryz.ntmps161
 go_wp2_with fail
 try rw[←hW0]
 refine (H1.out _).mono ?_
 rintro e w1 ⟨rfl,c1⟩
 have e0:=(c1.cell (Afh b0)).trans b0
 have e1:=(c1.cell (Afh b1)).trans b1
 have C1:=Lib.hid (HB.out.trans (c1.mono HB.out.size))
 clear c1 a0 a1 b0 b1 HB H1 hW0
 go_wp2_with fail
 refine (H2.out _).mono ?_
 rintro e w2 ⟨rfl,c2⟩
 have C2:=Lib.hid (C1.out.trans (c2.mono C1.out.size))
 clear c2 e0 e1 C1 H2
 go_wp2_with fail
 refine (H3.out _).mono ?_
 rintro e w3 ⟨rfl,c3⟩
 have C3:=Lib.hid (C2.out.trans (c3.mono C2.out.size))
 clear c3 C2 H3
 go_wp2_with fail
 refine (H4.out _).mono ?_
 rintro e w4 ⟨rfl,c4⟩
 have C4:=Lib.hid (C3.out.trans (c4.mono C3.out.size))
 clear c4 C3 H4
 go_wp2_with fail
 refine (H5.out _).mono ?_
 rintro e w5 ⟨rfl,rfl⟩
 go_wp2_with fail
 go_ret
 exact⟨rfl,C4.out⟩
theorem Ah5{n d:ByteArray}(hc:CanQ n d):cmpI (vl (rawN n d)*vl (rawD ⟨#[]⟩)) (vl (rawN ⟨#[]⟩ ⟨#[]⟩)*vl (rawD d))=cmpI (vl n) 0:=by
 have e0:vl (⟨#[]⟩:ByteArray)=0:=by rw[zero_eq,vl_I]
 have e1:vl one1=1:=by rw[one1_eq,vl_I]
 have hd:¬vl d<0:=by
  rw[hc.2]
  unfold dn
  split
  ·rw[e0];omega
  ·rw[vl_I];omega
 have r1:rawN n d=n:=by unfold rawN;rw[if_neg hd]
 have r2:rawD ⟨#[]⟩=one1:=by unfold rawD;rw[if_pos e0]
 have r3:rawN ⟨#[]⟩ ⟨#[]⟩=⟨#[]⟩:=by unfold rawN;rw[if_neg (by omega)]
 rw[r1,r2,r3,e0,e1,Int.mul_one,Int.zero_mul]
theorem Ah6(n d:ByteArray)(ha:n.size≤100)(hb:d.size≤100)(hc:CanQ n d)(w:World):
 Calls Tryz.prog 97 #[.agg #[.string n,.string d]] w fun e w'=>e=.returned (.int .i64 (cmpI (vl n) 0))∧Below w.heap.size w w':=by
 have H:=fun W=>Ah4 n d ⟨#[]⟩ ⟨#[]⟩ ha hb (show 0≤100 by omega) (show 0≤100 by omega) W
 rw[Ah5 hc] at H
 have H:=Lib.hid H
 have HB:=Lib.hid ((Below.refl _ w).alloc (Nat.le_refl _) (Obj.cells #[.string n,.string d] 25))
 obtain⟨W0,hW0⟩:∃W0,w.alloc (Obj.cells #[.string n,.string d] 25)=W0:=⟨_,rfl⟩
 have hk:W0.heap[w.heap.size]?=some (Obj.cells #[.string n,.string d] 25):=by rw[←hW0];exact heap_alloc_new w _
 rw[hW0] at HB
 have c0:=Lib.cell_of_heap hk 0
 have c1:=Lib.cell_of_heap hk 1
 simp at c0 c1
 clear hk hc ha hb
 go_enter Tryz.func97,Tryz.ntmps97
 go_wp2_with fail
 refine (H.out _).mono ?_
 rintro e w1 ⟨rfl,h1⟩
 have HB1:=Lib.hid (HB.out.trans (h1.mono HB.out.size))
 clear h1
 go_wp2_with fail
 go_ret
 exact⟨rfl,HB1.out⟩
theorem Ah7(z:Int):((I z).toList==[])=decide (z=0):=by
 rw[show ([]:List UInt8)=(I 0).toList from by rw[Lib.toList_data];rfl]
 by_cases h:z=0
 ·subst h;simp
 ·rw[Ac7 (fun e=>h (I_inj e))];simp[h]
theorem Ah8{a b:Int}(h:0<b):dr a b=a % b:=by
 unfold dr;rw[Agw h];have:=Int.emod_add_mul_ediv a b;omega
theorem Ah9(a:ByteArray)(w:World)(s1:a.size≤3000000)(ht:Tabs w):
 Calls Tryz.prog 80 #[.string a] w fun e w'=>e=.returned (.bool (decide (vl a % 2=0)))∧Below w.heap.size w w':=by
 have HD:=Lib.hid (Div_any a ⟨#[50]⟩ w (by omega) (by show 1≤_;omega) (by rw[show (⟨#[50]⟩:ByteArray)=I 2 from rfl,vl_I];omega) ht)
 rw[show vl (⟨#[50]⟩:ByteArray)=2 from by rw[show (⟨#[50]⟩:ByteArray)=I 2 from rfl,vl_I],Ah8 (by omega)] at HD
 have hl:=Ah7 (vl a % 2)
 clear ht
 go_enter Tryz.func80,Tryz.ntmps80
 go_wp2_with fail
 refine HD.out.mono ?_
 rintro e w1 ⟨rfl,B1⟩
 clear HD
 go_wp2_with fail
 go_ret
 exact⟨rfl,B1⟩
def rnd(q:Rat):Int:=if (q.den:Int)<2*(q.num % q.den)∨((q.den:Int)=2*(q.num % q.den)∧q.num / q.den % 2≠0) then q.num / q.den+1 else q.num / q.den
theorem Aia(n d:ByteArray)(w:World)(s1:n.size≤1000000)(s2:d.size≤1000000)(ht:Tabs w):
 Calls Tryz.prog 28 #[.agg #[.string n,.string d],.int .i64 1] w fun e w'=>e=.returned (.tuple #[.string (I (rnd (fv n d))),.int .i64 0])∧Below w.heap.size w w':=by
 have HB:=Lib.hid ((Below.refl _ w).alloc (Nat.le_refl _) (Obj.cells #[.string n,.string d] 25))
 have HP:=Lib.hid (Ahw n d (w.alloc (Obj.cells #[.string n,.string d] 25)) (by omega) (by omega) (ht.below HB.out))
 obtain⟨W0,hW0⟩:∃W0,w.alloc (Obj.cells #[.string n,.string d] 25)=W0:=⟨_,rfl⟩
 have hk:W0.heap[w.heap.size]?=some (Obj.cells #[.string n,.string d] 25):=by rw[←hW0];exact heap_alloc_new w _
 rw[hW0] at HB HP
 have b0:=Lib.cell_of_heap hk 0
 have b1:=Lib.cell_of_heap hk 1
 simp at b0 b1
 have HT:=Lib.hid ht
 obtain⟨K,hK⟩:∃K,K=1000001:=⟨_,rfl⟩
 have hbd:=fv_bd n d (k:=K) (by omega) (by omega)
 have zn:=hbd.num
 have zd:=hbd.den
 have hdp:=(fv n d).den_pos
 generalize hq:fv n d=q at *
 have HQ:=Lib.hid hq
 have zl:(I (q.num / q.den)).size≤K+1:=Ac3 (k:=K) (Nat.lt_of_le_of_lt (Int.natAbs_ediv_le_natAbs _ _) hbd.1)
 have zr:(I (q.num % q.den)).size≤K+1:=Ac3 (k:=K) (Nat.lt_trans (by
  have h1:=Int.emod_nonneg q.num (b:=(q.den:Int)) (by omega);have h2:=Int.emod_lt_of_pos q.num (b:=(q.den:Int)) (by omega);omega) hbd.2)
 have r1:=Int.emod_nonneg q.num (b:=(q.den:Int)) (by omega)
 have r2:=Int.emod_lt_of_pos q.num (b:=(q.den:Int)) (by omega)
 clear ht hk hbd hq
 have hone:(⟨#[49]⟩:ByteArray)=I 1:=rfl
 go_enter Tryz.func28,Tryz.ntmps28
 go_wp2_with fail
 refine HP.out.mono ?_
 rintro e w1 ⟨rfl,B1⟩
 have B1:=HB.out.trans (B1.mono HB.out.size)
 clear HP HB b0 b1
 go_wp2_with fail
 refine (Div_any (I q.num) (I q.den) w1 (by omega) (by omega) (by rw[vl_I];omega) (HT.out.below B1)).mono ?_
 rintro e w2 ⟨rfl,B2⟩
 have B2:=B1.trans (B2.mono B1.size)
 rw[vl_I,vl_I,Agw (by omega),Ah8 (by omega)]
 clear B1
 have HL:=Ah7 (q.num % q.den)
 have hm:((1:Int)==1)=true:=rfl
 obtain⟨lo,hlo⟩:∃lo,lo=q.num / q.den:=⟨_,rfl⟩
 obtain⟨re,hre⟩:∃re,re=q.num % q.den:=⟨_,rfl⟩
 rw[←hlo] at zl
 rw[←hre] at zr HL r1 r2
 rw[←hlo,←hre]
 have HLO:=Lib.hid hlo
 have HRE:=Lib.hid hre
 clear hlo hre
 by_cases h0:re=0
 ·rw[decide_eq_true h0] at HL
  have H0:=Lib.hid h0
  clear h0
  go_wp2_with fail
  refine (Agf (I q.num) ⟨#[]⟩ w2 (by omega) (by show 0≤_;omega)).mono ?_
  rintro e w4 ⟨rfl,B4⟩
  have B4:=B2.trans (B4.mono B2.size)
  rw[vl_I,show vl (⟨#[]⟩:ByteArray)=0 from by rw[zero_eq,vl_I]]
  clear B2
  go_wp2_with fail
  refine (Af6 (I re) (I re) w4 (by omega) (by omega) (HT.out.below B4)).mono ?_
  rintro e w5 ⟨rfl,B5⟩
  have B5:=B4.trans (B5.mono B4.size)
  rw[vl_I]
  clear B4
  have zz:(I (re+re)).size≤K+K+10:=(by
   refine Nat.le_trans (Ac3 (k:=(I re).size+1) (Ahg _ ?_)) (by omega)
   have:=vl_lt (I re)
   rw[vl_I] at this
   omega)
  go_wp2_with fail
  refine (Agf (I (re+re)) (I q.den) w5 (by omega) (by omega)).mono ?_
  rintro e w6 ⟨rfl,B6⟩
  have B6:=B5.trans (B6.mono B5.size)
  rw[vl_I,vl_I]
  clear B5
  have hc:cmpI (re+re) q.den<0:=cmpI_lt.2 (by have:=H0.out;omega)
  have HC:=Lib.hid hc
  have h1:decide (0<cmpI (re+re) q.den)=false:=decide_eq_false (by omega)
  have h2:(cmpI (re+re) q.den==0)=false:=beq_eq_false_iff_ne.2 (by omega)
  clear hc
  go_wp2_with fail
  go_ret2
  refine⟨?_,B6⟩
  have h0:=H0.out
  have hc:=HC.out
  unfold rnd
  rw[←HLO.out,←HRE.out]
  rw[if_neg (by omega)];rfl
 ·rw[decide_eq_false h0] at HL
  have H0:=Lib.hid h0
  clear h0
  go_wp2_with fail
  refine (Af6 (I lo) (I 1) w2 (by omega) (by show 1≤_;omega) (HT.out.below B2)).mono ?_
  rintro e w3 ⟨rfl,B3⟩
  have B3:=B2.trans (B3.mono B2.size)
  rw[vl_I,vl_I]
  clear B2
  go_wp2_with fail
  refine (Agf (I q.num) ⟨#[]⟩ w3 (by omega) (by show 0≤_;omega)).mono ?_
  rintro e w4 ⟨rfl,B4⟩
  have B4:=B3.trans (B4.mono B3.size)
  rw[vl_I,show vl (⟨#[]⟩:ByteArray)=0 from by rw[zero_eq,vl_I]]
  clear B3
  go_wp2_with fail
  refine (Af6 (I re) (I re) w4 (by omega) (by omega) (HT.out.below B4)).mono ?_
  rintro e w5 ⟨rfl,B5⟩
  have B5:=B4.trans (B5.mono B4.size)
  rw[vl_I]
  clear B4
  have zz:(I (re+re)).size≤K+K+10:=(by
   refine Nat.le_trans (Ac3 (k:=(I re).size+1) (Ahg _ ?_)) (by omega)
   have:=vl_lt (I re)
   rw[vl_I] at this
   omega)
  go_wp2_with fail
  refine (Agf (I (re+re)) (I q.den) w5 (by omega) (by omega)).mono ?_
  rintro e w6 ⟨rfl,B6⟩
  have B6:=B5.trans (B6.mono B5.size)
  rw[vl_I,vl_I]
  clear B5
  rcases Int.lt_trichotomy (re+re) q.den with hc|hc|hc
  ·have HC:=Lib.hid hc
   have h1:decide (0<cmpI (re+re) q.den)=false:=decide_eq_false (by rw[Ac8];omega)
   have h2:(cmpI (re+re) q.den==0)=false:=beq_eq_false_iff_ne.2 (by rw[Ne,cmpI_eq];omega)
   clear hc
   go_wp2_with fail
   go_ret2
   refine⟨?_,B6⟩
   have h0:=H0.out
   have hc:=HC.out
   unfold rnd
   rw[←HLO.out,←HRE.out]
   rw[if_neg (by omega)];rfl
  ·have HC:=Lib.hid hc
   have h1:decide (0<cmpI (re+re) q.den)=false:=decide_eq_false (by rw[Ac8];omega)
   have h2:(cmpI (re+re) q.den==0)=true:=beq_iff_eq.2 (cmpI_eq.2 hc)
   clear hc
   go_wp2_with fail
   refine (Ah9 (I lo) w6 (by omega) (HT.out.below B6)).mono ?_
   rintro e w7 ⟨rfl,B7⟩
   have B7:=B6.trans (B7.mono B6.size)
   rw[vl_I]
   by_cases he:lo % 2=0
   ·have he':decide (lo % 2=0)=true:=decide_eq_true he
    have HE:=Lib.hid he
    clear he
    go_wp2_with fail
    go_ret2
    refine⟨?_,B7⟩
    have h0:=H0.out
    have hc:=HC.out
    unfold rnd
    rw[←HLO.out,←HRE.out]
    rw[if_neg (by have:=HE.out;omega)];rfl
   ·have he':decide (lo % 2=0)=false:=decide_eq_false he
    have HE:=Lib.hid he
    clear he
    go_wp2_with fail
    go_ret2
    refine⟨?_,B7⟩
    have h0:=H0.out
    have hc:=HC.out
    unfold rnd
    rw[←HLO.out,←HRE.out]
    rw[if_pos (by have:=HE.out;omega)];rfl
  ·have HC:=Lib.hid hc
   have h1:decide (0<cmpI (re+re) q.den)=true:=decide_eq_true (by rw[Ac8];omega)
   clear hc
   go_wp2_with fail
   go_ret2
   refine⟨?_,B6⟩
   have h0:=H0.out
   have hc:=HC.out
   unfold rnd
   rw[←HLO.out,←HRE.out]
   rw[if_pos (by omega)];rfl
end Go.Proofs.YtcnmoobojdopgaaGreatDoor
namespace Tr
def leapB(y:Int):Bool:=(y % 4==0&&y % 100 != 0)||y % 400==0
def lenB(lp:Bool)(m:Nat):Int:=if m=2 then (if lp then 29 else 28) else if m=4∨m=6∨m=9∨m=11 then 30 else 31
def cumB(lp:Bool):Nat→Int
 | 0=>0
 | k+1=>cumB lp k+lenB lp (k+1)
def ylen(lp:Bool):Int:=if lp then 366 else 365
def bg(y:Int):Int:=365*(y-1900)+((y-1) / 4-(y-1) / 100+(y-1) / 400)-460
theorem Aib(y:Int):bg (y+1)=bg y+ylen (leapB y):=by
 have h:leapB y=decide ((y % 4=0∧y % 100≠0)∨y % 400=0):=by
  unfold leapB;rw[Bool.eq_iff_iff];simp
 unfold bg ylen
 rw[h]
 by_cases hc:(y % 4=0∧y % 100≠0)∨y % 400=0
 ·rw[decide_eq_true hc,if_pos rfl];omega
 ·rw[decide_eq_false hc,if_neg (by simp)];omega
theorem cum12(lp:Bool):cumB lp 12=ylen lp:=by cases lp<;>decide
theorem Aic(lp:Bool){m k:Nat}(h:m≤k):cumB lp m≤cumB lp k:=by
 induction k with
 | zero => have : m = 0 := by omega
           subst this;exact Int.le_refl _
 | succ k ih =>
   rcases Nat.lt_or_ge k m with h1|h1
   ·have:m=k+1:=by omega
    subst this;exact Int.le_refl _
   ·have:=ih h1
    have h2:0≤lenB lp (k+1):=by unfold lenB;split<;>(try split)<;>omega
    show _≤cumB lp k+lenB lp (k+1)
    omega
theorem Aid(lp:Bool)(m:Nat):28≤lenB lp m∧lenB lp m≤31:=by unfold lenB;split<;>(try split)<;>omega
def VDate(y:Int)(m:Nat)(d:Int):Prop:=1900≤y∧y≤2199∧1≤m∧m≤12∧1≤d∧d≤lenB (leapB y) m
def dayOf(y:Int)(m:Nat)(d:Int):Int:=-25567+bg y+cumB (leapB y) (m-1)+d-1
theorem Aie{y:Int}{m:Nat}{d:Int}(h:VDate y m d):bg y≤dayOf y m d+25567∧dayOf y m d+25567<bg (y+1):=by
 obtain⟨_,_,h3,h4,h5,h6⟩:=h
 have e1:0≤cumB (leapB y) (m-1):=Aic (m:=0) _ (by omega)
 have e2:cumB (leapB y) (m-1)+lenB (leapB y) m≤cumB (leapB y) 12:=by
  have:=Aic (leapB y) (m:=m) (k:=12) h4
  obtain⟨j,rfl⟩:∃j,m=j+1:=⟨m-1,by omega⟩
  exact this
 rw[Aib,←cum12]
 unfold dayOf
 omega
theorem Aif{x y:Int}(h:x≤y):bg x≤bg y:=by unfold bg;omega
theorem Aig{y y':Int}{m m':Nat}{d d':Int}(h:VDate y m d)(h':VDate y' m' d')(e:dayOf y m d=dayOf y' m' d'):y=y'∧m=m'∧d=d':=by
 have a:=Aie h
 have b:=Aie h'
 have hy:y=y':=by
  rcases Int.lt_trichotomy y y' with h1|h1|h1
  ·have:=Aif (x:=y+1) (y:=y') (by omega);omega
  ·exact h1
  ·have:=Aif (x:=y'+1) (y:=y) (by omega);omega
 subst hy
 obtain⟨_,_,h3,h4,h5,h6⟩:=h
 obtain⟨_,_,k3,k4,k5,k6⟩:=h'
 unfold dayOf at e
 have hm:m=m':=by
  have key:∀p q:Nat,1≤p→p<q→cumB (leapB y) (p-1)+lenB (leapB y) p≤cumB (leapB y) (q-1):=by
   intro p q hp hpq
   have:=Aic (leapB y) (m:=p) (k:=q-1) (by omega)
   obtain⟨j,rfl⟩:∃j,p=j+1:=⟨p-1,by omega⟩
   exact this
  rcases Nat.lt_trichotomy m m' with h1|h1|h1
  ·have:=key m m' h3 h1;omega
  ·exact h1
  ·have:=key m' m k3 h1;omega
 subst hm
 exact⟨rfl,rfl,by omega⟩
theorem Aih{y:Int}{m:Nat}{d:Int}(h:VDate y m d):-25567≤dayOf y m d∧dayOf y m d≤84005:=by
 have a:=Aie h
 have b1:=Aif h.1
 have b2:=Aif (x:=y+1) (y:=2200) (by have:=h.2.1;omega)
 have c1:bg 1900=0:=by decide
 have c2:bg 2200=109573:=by decide
 omega
end Tr
namespace Go.Proofs.YtcnmoobojdopgaaGreatDoor
open Go.RowKit Tr Go.Shelf
theorem Aii(y:Int)(h0:0≤y)(h1:y≤100000)(w:World):
 Calls Tryz.prog 225 #[.int .i64 y] w fun e w'=>e=.returned (.bool (leapB y))∧w'=w:=by
 have e4:y.tmod 4=y % 4:=Int.tmod_eq_emod_of_nonneg h0
 have e100:y.tmod 100=y % 100:=Int.tmod_eq_emod_of_nonneg h0
 have e400:y.tmod 400=y % 400:=Int.tmod_eq_emod_of_nonneg h0
 go_enter Tryz.func225,Tryz.ntmps225
 go_wp2_with fail
 all_goals (go_ret;refine⟨?_,rfl⟩;simp[leapB, *])
theorem Aij(y:Int)(h0:1900≤y)(h1:y≤2300)(w:World):
 Calls Tryz.prog 166 #[.int .i64 y] w fun e w'=>e=.returned (.int .i64 (bg y))∧w'=w:=by
 have e4:(y-1).tdiv 4=(y-1) / 4:=Int.tdiv_eq_ediv_of_nonneg (by omega)
 have e100:(y-1).tdiv 100=(y-1) / 100:=Int.tdiv_eq_ediv_of_nonneg (by omega)
 have e400:(y-1).tdiv 400=(y-1) / 400:=Int.tdiv_eq_ediv_of_nonneg (by omega)
 go_enter Tryz.func166,Tryz.ntmps166
 go_wp2_with fail
 go_ret
 exact⟨rfl,rfl⟩
theorem Aik(y:Int)(m:Nat)(h0:0≤y)(h1:y≤100000)(m0:1≤m)(m1:m≤12)(w:World):
 Calls Tryz.prog 165 #[.int .i64 y,.int .i64 (m:Int)] w fun e w'=>e=.returned (.int .i64 (lenB (leapB y) m))∧Below w.heap.size w w':=by
 have HL:=Lib.hid (fun W=>Aii y h0 h1 W)
 obtain⟨W0,hW0⟩:∃W0,w.alloc (.cells #[.int .i64 31,.int .i64 28,.int .i64 31,.int .i64 30,.int .i64 31,.int .i64 30,.int .i64 31,.int .i64 31,.int .i64 30,.int .i64 31,.int .i64 30,.int .i64 31] 235)=W0:=⟨_,rfl⟩
 have hk:W0.heap[w.heap.size]?=some (.cells #[.int .i64 31,.int .i64 28,.int .i64 31,.int .i64 30,.int .i64 31,.int .i64 30,.int .i64 31,.int .i64 31,.int .i64 30,.int .i64 31,.int .i64 30,.int .i64 31] 235):=by rw[←hW0];exact heap_alloc_new w _
 have HB:Hid (Below w.heap.size w W0):=by rw[←hW0];exact (Below.refl _ w).alloc (Nat.le_refl _) _
 have c0:=Lib.cell_of_heap hk 0
 have c1:=Lib.cell_of_heap hk 1
 have c2:=Lib.cell_of_heap hk 2
 have c3:=Lib.cell_of_heap hk 3
 have c4:=Lib.cell_of_heap hk 4
 have c5:=Lib.cell_of_heap hk 5
 have c6:=Lib.cell_of_heap hk 6
 have c7:=Lib.cell_of_heap hk 7
 have c8:=Lib.cell_of_heap hk 8
 have c9:=Lib.cell_of_heap hk 9
 have c10:=Lib.cell_of_heap hk 10
 have c11:=Lib.cell_of_heap hk 11
 simp at c0 c1 c2 c3 c4 c5 c6 c7 c8 c9 c10 c11
 clear hk
 by_cases h2:m=2
 ·subst h2
  rw[show ((2:Nat):Int)=2 from rfl]
  go_enter Tryz.func165,Tryz.ntmps165
  go_wp2_with fail
  refine (HL.out W0).mono ?_
  rintro e w1 ⟨rfl,rfl⟩
  cases hl:leapB y
  all_goals (go_wp2_with fail;go_ret;exact⟨by rw[hl];rfl,HB.out⟩)
 ·obtain rfl|rfl|rfl|rfl|rfl|rfl|rfl|rfl|rfl|rfl|rfl:m=1∨m=3∨m=4∨m=5∨m=6∨m=7∨m=8∨m=9∨m=10∨m=11∨m=12:=by omega
  ·rw[show ((1:Nat):Int)=1 from rfl]
   go_enter Tryz.func165,Tryz.ntmps165
   go_wp2_with fail
   go_ret
   exact⟨by cases leapB y<;>rfl,HB.out⟩
  ·rw[show ((3:Nat):Int)=3 from rfl]
   go_enter Tryz.func165,Tryz.ntmps165
   go_wp2_with fail
   go_ret
   exact⟨by cases leapB y<;>rfl,HB.out⟩
  ·rw[show ((4:Nat):Int)=4 from rfl]
   go_enter Tryz.func165,Tryz.ntmps165
   go_wp2_with fail
   go_ret
   exact⟨by cases leapB y<;>rfl,HB.out⟩
  ·rw[show ((5:Nat):Int)=5 from rfl]
   go_enter Tryz.func165,Tryz.ntmps165
   go_wp2_with fail
   go_ret
   exact⟨by cases leapB y<;>rfl,HB.out⟩
  ·rw[show ((6:Nat):Int)=6 from rfl]
   go_enter Tryz.func165,Tryz.ntmps165
   go_wp2_with fail
   go_ret
   exact⟨by cases leapB y<;>rfl,HB.out⟩
  ·rw[show ((7:Nat):Int)=7 from rfl]
   go_enter Tryz.func165,Tryz.ntmps165
   go_wp2_with fail
   go_ret
   exact⟨by cases leapB y<;>rfl,HB.out⟩
  ·rw[show ((8:Nat):Int)=8 from rfl]
   go_enter Tryz.func165,Tryz.ntmps165
   go_wp2_with fail
   go_ret
   exact⟨by cases leapB y<;>rfl,HB.out⟩
  ·rw[show ((9:Nat):Int)=9 from rfl]
   go_enter Tryz.func165,Tryz.ntmps165
   go_wp2_with fail
   go_ret
   exact⟨by cases leapB y<;>rfl,HB.out⟩
  ·rw[show ((10:Nat):Int)=10 from rfl]
   go_enter Tryz.func165,Tryz.ntmps165
   go_wp2_with fail
   go_ret
   exact⟨by cases leapB y<;>rfl,HB.out⟩
  ·rw[show ((11:Nat):Int)=11 from rfl]
   go_enter Tryz.func165,Tryz.ntmps165
   go_wp2_with fail
   go_ret
   exact⟨by cases leapB y<;>rfl,HB.out⟩
  ·rw[show ((12:Nat):Int)=12 from rfl]
   go_enter Tryz.func165,Tryz.ntmps165
   go_wp2_with fail
   go_ret
   exact⟨by cases leapB y<;>rfl,HB.out⟩
theorem Aim(lp:Bool){m:Nat}(h:1≤m):cumB lp m=cumB lp (m-1)+lenB lp m:=by
 obtain⟨j,rfl⟩:∃j,m=j+1:=⟨m-1,by omega⟩
 rfl
theorem Ain(lp:Bool){m:Nat}(h:m≤12):0≤cumB lp m∧cumB lp m≤366:=by
 have h1:=Aic lp (m:=0) (k:=m) (by omega)
 have h2:=Aic lp (m:=m) (k:=12) h
 rw[cum12] at h2
 have:ylen lp≤366:=by unfold ylen;split<;>omega
 have h3:cumB lp 0=0:=rfl
 omega
theorem bg_bd{y:Int}(h0:1900≤y)(h1:y≤2300):0≤bg y∧bg y≤146500:=by unfold bg;omega
theorem Aip(y:Int)(m:Nat)(d:Int)(hv:VDate y m d)(w:World):
 Calls Tryz.prog 101 #[.int .i64 y,.int .i64 (m:Int),.int .i64 d] w fun e w'=>e=.returned (.tuple #[.int .i64 (dayOf y m d),.int .i64 0])∧Below w.heap.size w w':=by
 obtain⟨h1,h2,h3,h4,h5,h6⟩:=hv
 have hle:=Aid (leapB y) m
 have hbg:=bg_bd h1 (by omega)
 have HLN:=Lib.hid (fun (k:Nat) (k0:1≤k) (k1:k≤12) W=>Aik y k (by omega) (by omega) k0 k1 W)
 have HBG:=Lib.hid (fun W=>Aij y h1 (by omega) W)
 go_enter Tryz.func101,Tryz.ntmps101
 go_wp2_with fail
 refine (HLN.out m h3 h4 w).mono ?_
 rintro e w1 ⟨rfl,hB1⟩
 go_wp2_with fail
 refine (HBG.out w1).mono ?_
 rintro e w2 ⟨rfl,rfl⟩
 go_wp2_with fail
 go_loopw [8,9] (fun v8 v9 wr=>∃k:Nat,v9=.int .i64 (k:Int)∧v8=.int .i64 (bg y+d-1+cumB (leapB y) (k-1))∧1≤k∧k≤m∧Below w.heap.size w wr) (fun _ v9 _=>13-(intOf v9).toNat)
 case atStart=>exact⟨1,rfl,by simp[cumB],by omega,by omega,hB1⟩
 case round =>
  obtain⟨k,rfl,rfl,k0,k1,hB⟩:=hrel
  have hcb:=Ain (leapB y) (m:=k-1) (by omega)
  rcases Nat.lt_or_ge k m with hlt|hge
  ·have hc:decide ((k:Int)<(m:Int))=true:=decide_eq_true (by omega)
   have hlk:=Aid (leapB y) k
   go_wp2_with fail
   refine (HLN.out k k0 (by omega) wr).mono ?_
   rintro e w3 ⟨rfl,hB3⟩
   go_wp2_with fail
   refine⟨⟨k+1,by simp,?_,by omega,by omega,hB.trans (hB3.mono hB.size)⟩,by simp[intOf];omega⟩
   rw[show k+1-1=k from rfl,Aim _ k0];congr 1;omega
  ·have hc:decide ((k:Int)<(m:Int))=false:=decide_eq_false (by omega)
   have hkm:k=m:=by omega
   subst hkm
   go_wp2_with fail
   go_ret2
   refine⟨?_,hB⟩
   rw[show dayOf y k d=-25567+(bg y+d-1+cumB (leapB y) (k-1)) from by unfold dayOf;omega];rfl
def okDay(d:Int):Prop:=-25567≤d∧d≤84005
instance (d:Int):Decidable (okDay d):=by unfold okDay;infer_instance
theorem Aiq(d:Int)(w:World):
 Calls Tryz.prog 228 #[.int .i64 d] w fun e w'=>e=.returned (.bool (decide (okDay d)))∧w'=w:=by
 go_enter Tryz.func228,Tryz.ntmps228
 go_wp2_with fail
 all_goals (go_ret;refine⟨?_,rfl⟩;first|(rw[decide_eq_true (p:=okDay d) (by unfold okDay;omega)];rfl)|(rw[decide_eq_false (p:=okDay d) (by unfold okDay;omega)];rfl)|(simp[okDay, *];done))
def Air(d:Int)(w:World)(e:Ending)(w':World):Prop:=∃(y:Int) (m:Nat) (dd:Int),e=.returned (.tuple #[.int .i64 y,.int .i64 (m:Int),.int .i64 dd,.int .i64 0])∧VDate y m dd∧dayOf y m dd=d∧Below w.heap.size w w'
theorem Ais(d:Int)(hd:okDay d)(w:World):
 Calls Tryz.prog 172 #[.int .i64 d] w (Air d w):=by
 have HV:=Lib.hid (Aiq d w)
 rw[decide_eq_true hd] at HV
 obtain⟨d0,d1⟩:=hd
 have HLN:=Lib.hid (fun (y:Int) (y0:1900≤y) (y1:y≤2300) (k:Nat) (k0:1≤k) (k1:k≤12) W=>Aik y k (by omega) (by omega) k0 k1 W)
 have HBG:=Lib.hid (fun (y:Int) (y0:1900≤y) (y1:y≤2300) W=>Aij y y0 (by omega) W)
 have hq:(d - -25567).tdiv 366=(d+25567) / 366:=by rw[Int.tdiv_eq_ediv_of_nonneg (by omega)];congr 1
 go_enter Tryz.func172,Tryz.ntmps172
 go_wp2_with fail
 refine HV.out.mono ?_
 rintro e w1 ⟨rfl,rfl⟩
 go_wp2_with fail
 go_loopw [7] (fun v7 wr=>∃y:Int,v7=.int .i64 y∧1900≤y∧y≤2199∧bg y≤d+25567∧wr=w1) (fun v7 _=>2300-(intOf v7).toNat)
 case atStart=>exact⟨1900+(d+25567) / 366,rfl,by omega,by omega,by unfold bg;omega,rfl⟩
 case round =>
  obtain⟨y,rfl,y0,y1,hy,rfl⟩:=hrel
  go_wp2_with fail
  refine (HBG.out (y+1) (by omega) (by omega) _).mono ?_
  rintro e w2 ⟨rfl,rfl⟩
  by_cases hc:bg (y+1)≤d+25567
  ·have hc':decide (bg (y+1)≤d+25567)=true:=decide_eq_true (by omega)
   have hy2:y+1≤2199:=by
    rcases Int.lt_or_le (y+1) 2200 with h|h
    ·omega
    ·have:=Aif h
     rw[show bg 2200=109573 from by decide] at this
     omega
   go_wp2_with fail
   refine⟨⟨y+1,rfl,by omega,hy2,hc,by trivial⟩,by simp[intOf];omega⟩
  ·have hc':decide (bg (y+1)≤d+25567)=false:=decide_eq_false (by omega)
   have hbg:=bg_bd y0 (by omega)
   rw[Aib] at hc
   rw[←cum12] at hc
   go_wp2_with fail
   refine (HBG.out y y0 (by omega) _).mono ?_
   rintro e w3 ⟨rfl,rfl⟩
   go_wp2_with fail
   go_loopw [6,8] (fun v6 v8 wr=>∃k:Nat,v8=.int .i64 (k:Int)∧v6=.int .i64 (d+25567-bg y-cumB (leapB y) (k-1))∧1≤k∧k≤12∧0≤d+25567-bg y-cumB (leapB y) (k-1)∧Below w3.heap.size w3 wr) (fun _ v8 _=>13-(intOf v8).toNat)
   case atStart=>exact⟨1,rfl,by simp[cumB],by omega,by omega,by simp[cumB];omega,Below.refl _ _⟩
   case round =>
    obtain⟨k,rfl,rfl,k0,k1,hn,hB⟩:=hrel
    have hst:=Aim (leapB y) k0
    have hlk:=Aid (leapB y) k
    have hcb:=Ain (leapB y) (m:=k-1) (by omega)
    have hcb2:=Aic (leapB y) (m:=k) (k:=12) k1
    go_wp2_with fail
    refine (HLN.out y y0 (by omega) k k0 k1 _).mono ?_
    rintro e w4 ⟨rfl,hB4⟩
    by_cases hl:lenB (leapB y) k≤d+25567-bg y-cumB (leapB y) (k-1)
    ·have hl':decide (d+25567-bg y-cumB (leapB y) (k-1)≥lenB (leapB y) k)=true:=decide_eq_true hl
     have hk12:k≤11:=by
      rcases Nat.lt_or_ge k 12 with h|h
      ·omega
      ·have:k=12:=by omega
       subst this;omega
     go_wp2_with fail
     refine (HLN.out y y0 (by omega) k k0 k1 _).mono ?_
     rintro e w5 ⟨rfl,hB5⟩
     go_wp2_with fail
     have hB45:=hB.trans (hB4.mono hB.size)
     refine⟨⟨k+1,by simp,?_,by omega,by omega,?_,hB45.trans (hB5.mono hB45.size)⟩,by simp[intOf];omega⟩
     ·rw[show k+1-1=k from rfl,hst];congr 1;omega
     ·rw[show k+1-1=k from rfl,hst];omega
    ·have hl':decide (d+25567-bg y-cumB (leapB y) (k-1)≥lenB (leapB y) k)=false:=decide_eq_false hl
     go_wp2_with fail
     refine bodyPost_ret (v:=.tuple #[.int .i64 y,.int .i64 (k:Int),.int .i64 (d+25567-bg y-cumB (leapB y) (k-1)+1),.int .i64 0]) (by simp[results,Tryz.results172,go_sem]) rfl ?_
     refine⟨y,k,_,rfl,⟨y0,y1,k0,k1,by omega,by omega⟩,by unfold dayOf;omega,hB.trans (hB4.mono hB.size)⟩
theorem Ait(n:Int)(h0:-9223372036854775808≤n)(h1:n≤9223372036854775807)(w:World)(ht:Tabs w):
 Calls Tryz.prog 100 #[.int .i64 n] w fun e w'=>e=.returned (.string (bs (Lib.itoa n)))∧Below w.heap.size w w':=by
 refine (Tryz.strconv_Itoa n h0 h1 w ht.pow10).mono ?_
 rintro e w1 ⟨rfl,k,os,rfl⟩
 exact⟨rfl,below_grow os k⟩
def two(n:Nat):List UInt8:=List.replicate (2-(Lib.itoa (n:Int)).length) 48++Lib.itoa (n:Int)
theorem Aiu{n:Nat}(h:n<100):1≤(Lib.itoa (n:Int)).length∧(Lib.itoa (n:Int)).length≤2:=by
 have:∀n:Fin 100,1≤(Lib.itoa ((n:Nat):Int)).length∧(Lib.itoa ((n:Nat):Int)).length≤2:=by
  intro n
  unfold Lib.itoa
  rw[if_neg (by omega)]
  rw[show (((n:Nat):Int)).toNat=(n:Nat) from by omega]
  rcases Nat.eq_zero_or_pos (n:Nat) with h|h
  ·rw[h];have:=dec_zero;unfold dec at this;rw[this];simp
  ·rw[Lib.decDigits_length]
   have:=(digits_length_le_iff 2 (n:Nat)).2 (by have:=n.2;omega)
   have e:=Afj h
   unfold dec at e
   have e2:=congrArg List.length e
   rw[Lib.decDigits_length] at e2
   have:1≤(digits (n:Nat)).length:=by
    rcases hd:digits (n:Nat) with _|_
    ·have:=dval_digits (n:Nat);rw[hd] at this;simp[dval] at this;omega
    ·simp
   omega
 exact this ⟨n,h⟩
theorem Aiv(n:Nat)(h:n<100)(w:World)(ht:Tabs w):
 Calls Tryz.prog 173 #[.int .i64 (n:Int)] w fun e w'=>e=.returned (.string (bs (two n)))∧Below w.heap.size w w':=by
 have HT:=Lib.hid ht
 have HI:=Lib.hid (fun W hW=>Ait (n:Int) (by omega) (by omega) W hW)
 have hl:=Aiu h
 have hz:(bs (Lib.itoa (n:Int))).size=(Lib.itoa (n:Int)).length:=Ac1 _
 clear ht
 go_enter Tryz.func173,Tryz.ntmps173
 go_wp2_with fail
 refine (HI.out w HT.out).mono ?_
 rintro e w1 ⟨rfl,B1⟩
 go_wp2_with fail
 rw[show (2:Int)-((Lib.itoa (n:Int)).length:Int)=((2-(Lib.itoa (n:Int)).length:Nat):Int) from by omega]
 refine (Tryz.strings_Repeat ⟨#[48]⟩ (2-(Lib.itoa (n:Int)).length) _ (by omega) (by simp[ByteArray.size];omega)).mono ?_
 rintro e w2 ⟨rfl,hb2⟩
 rw[show (⟨#[48]⟩:ByteArray).data.toList=[48] from rfl,Afr]
 have hrl:(List.replicate (2-(Lib.itoa (n:Int)).length) (48:UInt8)).length≤2:=by simp
 rw[show (ByteArray.mk (List.toArray (List.replicate (2-(Lib.itoa (n:Int)).length) (48:UInt8))))=bs (List.replicate (2-(Lib.itoa (n:Int)).length) (48:UInt8)) from rfl]
 have hrz:(bs (List.replicate (2-(Lib.itoa (n:Int)).length) (48:UInt8))).size=(List.replicate (2-(Lib.itoa (n:Int)).length) (48:UInt8)).length:=Ac1 _
 have B2:=B1.trans (hb2.mono B1.size)
 clear hb2 B1
 go_wp2_with fail
 refine (HI.out w2 (HT.out.below B2)).mono ?_
 rintro e w3 ⟨rfl,B3⟩
 have B3:=B2.trans (B3.mono B2.size)
 clear B2 HI
 go_wp2_with fail
 go_ret
 refine⟨?_,B3⟩
 show Ending.returned (Value.string (bs _++bs _))=_
 rw[Aft];rfl
def dtext(y:Int)(m d:Nat):ByteArray:=bs (Lib.itoa y++[45]++two m++[45]++two d)
def Aiw(d:Int)(s:ByteArray):Prop:=∃(y:Int) (m:Nat) (dd:Nat),VDate y m dd∧dayOf y m dd=d∧s=dtext y m dd
noncomputable def ptext(d:Int):ByteArray:=by classical exact if h:∃s,Aiw d s then h.choose else⟨#[]⟩
theorem Aix{y:Int}{m dd:Nat}(h:VDate y m dd){d:Int}(hd:dayOf y m dd=d):ptext d=dtext y m dd:=by
 have hex:∃s,Aiw d s:=⟨_,y,m,dd,h,hd,rfl⟩
 unfold ptext
 rw[dif_pos hex]
 obtain⟨y',m',dd',h',e',es⟩:=hex.choose_spec
 obtain⟨rfl,rfl,e3⟩:=Aig h h' (hd.trans e'.symm)
 rw[es]
 have:dd=dd':=by omega
 subst this;rfl
theorem Aiy(d:Int)(hd:okDay d)(w:World)(ht:Tabs w):
 Calls Tryz.prog 116 #[.int .i64 d] w fun e w'=>e=.returned (.tuple #[.string (ptext d),.int .i64 0])∧Below w.heap.size w w':=by
 have HP:=Lib.hid (Ais d hd w)
 have HT:=Lib.hid ht
 clear ht
 go_enter Tryz.func116,Tryz.ntmps116
 go_wp2_with fail
 refine HP.out.mono ?_
 rintro e w1 ⟨y,m,dd,rfl,hv,hd',B1⟩
 obtain⟨q,rfl⟩:∃q:Nat,dd=(q:Int):=⟨dd.toNat,by have:=hv.2.2.2.2.1;omega⟩
 have hpt:=Aix hv hd'
 have HPT:=Lib.hid hpt
 have b1:=hv.1
 have b2:=hv.2.1
 have b3:=hv.2.2.2.1
 have b4:=hv.2.2.2.2.2
 have b5:=Aid (leapB y) m
 have hz1:(bs (Lib.itoa y)).size=(Lib.itoa y).length:=Ac1 _
 have hz2:=nDigits_size y (by omega) (by omega)
 have t2:∀k:Nat,k<100→(two k).length=2:=by
  intro k hk
  have:=Aiu hk
  unfold two;simp;omega
 have hm2:=t2 m (by omega)
 have hq2:=t2 q (by omega)
 clear hv hd' hpt HP t2
 go_wp2_with fail
 refine (Ait y (by omega) (by omega) w1 (HT.out.below B1)).mono ?_
 rintro e w2 ⟨rfl,B2⟩
 have B2:=B1.trans (B2.mono B1.size)
 clear B1
 go_wp2_with fail
 refine (Aiv m (by omega) w2 (HT.out.below B2)).mono ?_
 rintro e w3 ⟨rfl,B3⟩
 have B3:=B2.trans (B3.mono B2.size)
 clear B2
 have hz3:(bs (two m)).size=(two m).length:=Ac1 _
 go_wp2_with fail
 refine (Aiv q (by omega) w3 (HT.out.below B3)).mono ?_
 rintro e w4 ⟨rfl,B4⟩
 have B4:=B3.trans (B4.mono B3.size)
 clear B3
 have hz4:(bs (two q)).size=(two q).length:=Ac1 _
 go_wp2_with fail
 go_ret2
 refine⟨?_,B4⟩
 rw[HPT.out]
 unfold dtext
 rw[←Aft,←Aft,←Aft,←Aft]
 rfl
end Go.Proofs.YtcnmoobojdopgaaGreatDoor
namespace Tr
theorem Aiz(lp:Bool){m:Nat}(h:1≤m):cumB lp m=cumB lp (m-1)+lenB lp m:=by
 obtain⟨j,rfl⟩:∃j,m=j+1:=⟨m-1,by omega⟩
 rfl
theorem Ai0{y:Int}{m:Nat}{d:Int}(h:VDate y m d)(hl:dayOf y m d<84005):∃(y':Int) (m':Nat) (d':Int),VDate y' m' d'∧dayOf y' m' d'=dayOf y m d+1:=by
 obtain⟨h1,h2,h3,h4,h5,h6⟩:=h
 rcases Int.lt_or_le d (lenB (leapB y) m) with hd|hd
 ·exact⟨y,m,d+1,⟨h1,h2,h3,h4,by omega,by omega⟩,by unfold dayOf;omega⟩
 ·have hc:=Aiz (leapB y) h3
  rcases Nat.lt_or_ge m 12 with hm|hm
  ·exact⟨y,m+1,1,⟨h1,h2,by omega,by omega,by omega,by have:=(Aid (leapB y) (m+1)).1;omega⟩,by unfold dayOf;rw[show m+1-1=m from rfl,hc];omega⟩
  ·have h12:m=12:=by omega
   subst h12
   have hb:=Aib y
   have c12:=cum12 (leapB y)
   have e:dayOf y 12 d+1=-25567+bg (y+1):=by unfold dayOf;rw[hb,←c12,hc];omega
   have hy:y+1≤2199:=by
    rcases Int.lt_or_le y 2199 with hy|hy
    ·omega
    ·have e2:y=2199:=by omega
     have h9:bg 2200=109573:=by decide
     rw[show y+1=2200 from by omega,h9] at e
     omega
   refine⟨y+1,1,1,⟨by omega,hy,by omega,by omega,by omega,by have:=(Aid (leapB (y+1)) 1).1;omega⟩,?_⟩
   rw[e]
   unfold dayOf
   rw[show cumB (leapB (y+1)) (1-1)=0 from rfl]
   omega
theorem Ai1(n:Nat):(n:Int)≤109572→∃(y:Int) (m:Nat) (d:Int),VDate y m d∧dayOf y m d=-25567+n:=by
 induction n with
 | zero =>
   intro _
   refine⟨1900,1,1,⟨by decide,by decide,by decide,by decide,by decide,by decide⟩,?_⟩
   unfold dayOf
   rw[show bg 1900=0 from by decide,show cumB (leapB 1900) (1-1)=0 from rfl]
   omega
 | succ n ih =>
   intro h
   obtain⟨y,m,d,hv,hd⟩:=ih (by omega)
   obtain⟨y',m',d',hv',hd'⟩:=Ai0 hv (by omega)
   exact⟨y',m',d',hv',by rw[hd',hd];omega⟩
theorem Ai2{d:Int}(h0:-25567≤d)(h1:d≤84005):∃(y:Int) (m:Nat) (dd:Int),VDate y m dd∧dayOf y m dd=d:=by
 obtain⟨y,m,dd,hv,hd⟩:=Ai1 (d+25567).toNat (by omega)
 exact⟨y,m,dd,hv,by rw[hd];omega⟩
noncomputable def Ai3(d:Int):Int×Nat×Int:=by classical exact if h:∃p:Int×Nat×Int,VDate p.1 p.2.1 p.2.2∧dayOf p.1 p.2.1 p.2.2=d then h.choose else (0,0,0)
theorem Ai4{y:Int}{m:Nat}{dd d:Int}(h:VDate y m dd)(hd:dayOf y m dd=d):Ai3 d=(y,m,dd):=by
 have hex:∃p:Int×Nat×Int,VDate p.1 p.2.1 p.2.2∧dayOf p.1 p.2.1 p.2.2=d:=⟨(y,m,dd),h,hd⟩
 unfold Ai3
 rw[dif_pos hex]
 obtain⟨h',e'⟩:=hex.choose_spec
 obtain⟨e1,e2,e3⟩:=Aig h h' (hd.trans e'.symm)
 exact Prod.ext e1.symm (Prod.ext e2.symm e3.symm)
theorem Ai5{d:Int}(h0:-25567≤d)(h1:d≤84005):VDate (Ai3 d).1 (Ai3 d).2.1 (Ai3 d).2.2∧dayOf (Ai3 d).1 (Ai3 d).2.1 (Ai3 d).2.2=d:=by
 obtain⟨y,m,dd,hv,hd⟩:=Ai2 h0 h1
 rw[Ai4 hv hd]
 exact⟨hv,hd⟩
def kY(k:Int):Int:=k / 12
def kM(k:Int):Nat:=(k % 12).toNat+1
def kL(k:Int):Int:=lenB (leapB (kY k)) (kM k)
def kBeg(k:Int):Int:=-25567+bg (kY k)+cumB (leapB (kY k)) (kM k-1)
def kDay(k dd:Int):Int:=kBeg k+min dd (kL k)-1
theorem Ai6(k:Int):28≤kL k∧kL k≤31:=Aid _ _
theorem kM_bd(k:Int):1≤kM k∧kM k≤12:=by unfold kM;omega
theorem k_of{y:Int}{m:Nat}(h1:1≤m)(h2:m≤12):kY (12*y+m-1)=y∧kM (12*y+m-1)=m:=by unfold kY kM;omega
theorem Ai7(k dd:Int):kDay k dd=dayOf (kY k) (kM k) (min dd (kL k)):=by unfold kDay kBeg dayOf;omega
theorem Ai8(k:Int):kBeg (k+1)=kBeg k+kL k:=by
 unfold kL kBeg
 have hm:=kM_bd k
 rcases Nat.lt_or_ge (kM k) 12 with h|h
 ·have e1:kY (k+1)=kY k:=by unfold kM at h;unfold kY;omega
  have e2:kM (k+1)=kM k+1:=by unfold kM at h ⊢;omega
  rw[e1,e2,show kM k+1-1=kM k from rfl,Aiz _ hm.1]
  omega
 ·have e1:kY (k+1)=kY k+1:=by unfold kM at h;unfold kY;omega
  have e2:kM (k+1)=1:=by unfold kM at h ⊢;omega
  have e3:kM k=12:=by omega
  rw[e1,e2,e3,Aib,←cum12,show cumB (leapB (kY k+1)) (1-1)=0 from rfl,Aiz (leapB (kY k)) (m:=12) (by omega)]
  omega
theorem Ai9(k:Int):∀n:Nat,kBeg k+28*n≤kBeg (k+n)∧kBeg (k+n)≤kBeg k+31*n
 | 0=>by simp
 | n+1=>by
   have ih:=Ai9 k n
   have h:=Ai8 (k+n)
   have hl:=Ai6 (k+n)
   rw[show k+((n+1:Nat):Int)=k+n+1 from by omega]
   omega
theorem Aja{k k':Int}(h:k<k'):kBeg k+kL k≤kBeg k':=by
 have h1:=(Ai9 (k+1) (k'-(k+1)).toNat).1
 rw[show k+1+((k'-(k+1)).toNat:Int)=k' from by omega] at h1
 rw[←Ai8]
 omega
theorem Ajb{k dd:Int}(h1:1≤dd):kBeg k≤kDay k dd∧kDay k dd<kBeg k+kL k:=by
 have:=Ai6 k
 unfold kDay
 omega
theorem Ajc{k k' dd:Int}(h1:1≤dd)(h:k<k'):kDay k dd<kDay k' dd:=by
 have a:=Ajb (k:=k) h1
 have b:=Ajb (k:=k') h1
 have c:=Aja h
 omega
theorem Ajd{k dd:Int}(h1:1≤dd)(n:Nat):kDay k dd+28*n-31≤kDay (k+n) dd∧kDay (k+n) dd≤kDay k dd+31*n+31:=by
 have a:=Ajb (k:=k) h1
 have b:=Ajb (k:=k+n) h1
 have c:=Ai9 k n
 have l1:=Ai6 k
 have l2:=Ai6 (k+n)
 omega
theorem Aje{k dd:Int}(h1:1≤dd)(h0:22800≤k)(h2:k<26400):VDate (kY k) (kM k) (min dd (kL k)):=by
 have:=Ai6 k
 refine⟨by unfold kY;omega,by unfold kY;omega,(kM_bd k).1,(kM_bd k).2,by omega,?_⟩
 show min dd (kL k)≤kL k
 omega
noncomputable def dK(d:Int):Int:=12*(Ai3 d).1+(Ai3 d).2.1-1
noncomputable def dD(d:Int):Int:=(Ai3 d).2.2
theorem dK_ok{d:Int}(h0:-25567≤d)(h1:d≤84005):kDay (dK d) (dD d)=d∧22800≤dK d∧dK d<26400∧1≤dD d∧dD d≤31:=by
 obtain⟨⟨a1,a2,a3,a4,a5,a6⟩,hd⟩:=Ai5 h0 h1
 obtain⟨e1,e2⟩:=k_of (y:=(Ai3 d).1) a3 a4
 have hl:=(Aid (leapB (Ai3 d).1) (Ai3 d).2.1).2
 refine⟨?_,by unfold dK;omega,by unfold dK;omega,a5,by unfold dD;omega⟩
 unfold dK dD
 rw[Ai7]
 unfold kL
 rw[e1,e2,Int.min_eq_left a6]
 exact hd
theorem dK_eq{y:Int}{m:Nat}{dd d:Int}(h:VDate y m dd)(hd:dayOf y m dd=d):dK d=12*y+m-1∧dD d=dd:=by
 unfold dK dD
 rw[Ai4 h hd]
 exact⟨rfl,rfl⟩
noncomputable def addM(d n:Int):Option Int:=if (-4800≤n∧n≤4800)∧22800≤dK d+n∧dK d+n<26400 then some (kDay (dK d+n) (dD d)) else none
theorem Ajf{d n x:Int}(h:addM d n=some x):x=kDay (dK d+n) (dD d)∧-4800≤n∧n≤4800∧22800≤dK d+n∧dK d+n<26400:=by
 unfold addM at h
 split at h
 case isTrue hc=>injection h with h;exact⟨h.symm,hc.1.1,hc.1.2,hc.2.1,hc.2.2⟩
 case isFalse=>cases h
noncomputable def cutAt(a b mo:Int)(j:Nat):Option Int:=match addM b (-(j*mo)) with
 | some d=>if a<d then some d else none
 | none=>none
noncomputable def cutsF(a b mo:Int):Nat→Nat→List Int
 | 0,_=>[]
 | f+1,j=>match cutAt a b mo j with
   | some d=>d::cutsF a b mo f (j+1)
   | none=>[]
noncomputable def cuts(a b mo:Int):List Int:=cutsF a b mo 4801 1
theorem Ajg{a b mo d:Int}{j:Nat}(h:cutAt a b mo j=some d):addM b (-(j*mo))=some d∧a<d:=by
 unfold cutAt at h
 split at h
 ·rename_i x hx
  split at h
  ·injection h with h;subst h;exact⟨hx,by assumption⟩
  ·cases h
 ·cases h
theorem Ajh{a b mo d:Int}{j:Nat}(h:addM b (-(j*mo))=some d)(hl:a<d):cutAt a b mo j=some d:=by
 unfold cutAt;rw[h];exact if_pos hl
theorem Aji{a b mo:Int}{j:Nat}(h:∀d,addM b (-(j*mo))=some d→d≤a):cutAt a b mo j=none:=by
 unfold cutAt
 split
 ·rename_i x hx
  exact if_neg (Int.not_lt.2 (h x hx))
 ·rfl
theorem Ajj(a b mo:Int):∀(f j i:Nat) (d:Int),(cutsF a b mo f j)[i]?=some d→cutAt a b mo (j+i)=some d
 | 0,_,_,_,h=>by simp[cutsF] at h
 | f + 1, j, i, d, h => by
   unfold cutsF at h
   split at h
   ·rename_i x hx
    cases i with
    | zero=>simp at h;subst h;exact hx
    | succ i =>
      have:=Ajj a b mo f (j+1) i d (by simpa using h)
      rwa [show j+(i+1)=j+1+i from by omega]
   ·simp at h
theorem Ajk(a b mo:Int):∀(f j:Nat),(cutsF a b mo f j).length<f→cutAt a b mo (j+(cutsF a b mo f j).length)=none
 | 0,_,h=>absurd h (Nat.not_lt_zero _)
 | f+1,j,h=>by
   unfold cutsF at h ⊢
   split at h
   ·rename_i x hx
    rw[List.length_cons] at h ⊢
    have:=Ajk a b mo f (j+1) (by omega)
    rwa [show j+((cutsF a b mo f (j+1)).length+1)=j+1+(cutsF a b mo f (j+1)).length from by omega]
   ·rename_i hx
    exact hx
theorem Ajm{a b mo d:Int}{i:Nat}(h:(cuts a b mo)[i]?=some d):addM b (-(((i+1:Nat):Int)*mo))=some d∧a<d:=by
 have:=Ajj a b mo 4801 1 i d h
 rw[Nat.add_comm 1 i] at this
 exact Ajg this
theorem Ajn{a b mo:Int}(hmo:1≤mo):(cuts a b mo).length≤4800:=by
 rcases Nat.lt_or_ge 4800 (cuts a b mo).length with h|h
 ·obtain⟨d,hd⟩:∃d,(cuts a b mo)[4800]?=some d:=⟨_,List.getElem?_eq_getElem h⟩
  have h1:=(Ajf (Ajm hd).1).2.1
  have:(4801:Int)*1≤4801*mo:=Int.mul_le_mul_of_nonneg_left hmo (by decide)
  rw[show (((4800+1:Nat)):Int)=4801 from rfl] at h1
  omega
 ·exact h
theorem Ajp{a b mo:Int}(hmo:1≤mo):cutAt a b mo ((cuts a b mo).length+1)=none:=by
 have:=Ajk a b mo 4801 1 (by have:=Ajn (a:=a) (b:=b) hmo;unfold cuts at this;omega)
 rwa [Nat.add_comm 1] at this
theorem Ajq{a b mo:Int}(hmo:1≤mo){i:Nat}(h:i≤(cuts a b mo).length):(cuts a b mo)[i]?=cutAt a b mo (i+1):=by
 rcases Nat.lt_or_ge i (cuts a b mo).length with h1|h1
 ·obtain⟨d,hd⟩:∃d,(cuts a b mo)[i]?=some d:=⟨_,List.getElem?_eq_getElem h1⟩
  obtain⟨g1,g2⟩:=Ajm hd
  rw[hd,Ajh g1 g2]
 ·have e:i=(cuts a b mo).length:=by omega
  rw[e,Ajp hmo]
  exact List.getElem?_eq_none (Nat.le_refl _)
theorem Ajr{a b mo:Int}(hmo:1≤mo)(h0:-25567≤b)(h1:b≤84005){i j:Nat}{x y:Int}(hij:i<j)(hx:(cuts a b mo)[i]?=some x)(hy:(cuts a b mo)[j]?=some y):y<x:=by
 obtain⟨ex,_⟩:=Ajf (Ajm hx).1
 obtain⟨ey,_⟩:=Ajf (Ajm hy).1
 obtain⟨_,_,_,hd,_⟩:=dK_ok h0 h1
 rw[ex,ey]
 refine Ajc hd ?_
 have:((i+1:Nat):Int)*mo<((j+1:Nat):Int)*mo:=Int.mul_lt_mul_of_pos_right (by omega) (by omega)
 omega
theorem Ajs{a b mo:Int}(hmo:1≤mo)(h0:-25567≤b)(h1:b≤84005){x:Int}(hx:x∈cuts a b mo):a<x∧x<b:=by
 obtain⟨i,hi⟩:=List.getElem?_of_mem hx
 obtain⟨g1,g2⟩:=Ajm hi
 refine⟨g2,?_⟩
 obtain⟨ex,_⟩:=Ajf g1
 obtain⟨eb,_,_,hd,_⟩:=dK_ok h0 h1
 rw[ex]
 conv=>rhs;rw[←eb]
 refine Ajc hd ?_
 have:(1:Int)*1≤((i+1:Nat):Int)*mo:=Int.mul_le_mul (by omega) hmo (by omega) (by omega)
 omega
theorem Ajt{a b mo:Int}(hmo:1≤mo)(h0:-25567≤b)(h1:b≤84005)(hs:b-a≤372*mo):(cuts a b mo).length≤14:=by
 rcases Nat.lt_or_ge 14 (cuts a b mo).length with h|h
 ·obtain⟨d,hd⟩:∃d,(cuts a b mo)[14]?=some d:=⟨_,List.getElem?_eq_getElem h⟩
  obtain⟨g1,g2⟩:=Ajm hd
  obtain⟨ex,_⟩:=Ajf g1
  obtain⟨eb,_,_,hdd,_⟩:=dK_ok h0 h1
  have hg:=(Ajd (k:=dK b+-(((14+1:Nat):Int)*mo)) hdd (15*mo).toNat).1
  rw[show dK b+-(((14+1:Nat):Int)*mo)+((15*mo).toNat:Int)=dK b from by omega,eb,←ex] at hg
  omega
 ·exact h
theorem Aju{a b mo:Int}(hmo:1≤mo)(hm2:mo≤12)(ha:-25567≤a)(h0:-25567≤b)(h1:b≤84005)(hs:12462*mo≤b-a):400≤(cuts a b mo).length:=by
 rcases Nat.lt_or_ge (cuts a b mo).length 400 with h|h
 ·have he:=Ajp (a:=a) (b:=b) hmo
  obtain⟨eb,hk0,hk1,hdd,hd31⟩:=dK_ok h0 h1
  obtain⟨ea,ak0,ak1,add',_⟩:=dK_ok ha (by omega:a≤84005)
  obtain⟨L,hL⟩:∃L,(cuts a b mo).length+1=L:=⟨_,rfl⟩
  rw[hL] at he
  have hLm:(L:Int)*mo≤400*mo:=Int.mul_le_mul_of_nonneg_right (by omega) (by omega)
  have hL0:0≤(L:Int)*mo:=Int.mul_nonneg (by omega) (by omega)
  have hg:=(Ajd (k:=dK b+-((L:Int)*mo)) hdd ((L:Int)*mo).toNat).2
  rw[show dK b+-((L:Int)*mo)+(((L:Int)*mo).toNat:Int)=dK b from by omega,eb] at hg
  have hlt:a<kDay (dK b+-((L:Int)*mo)) (dD b):=by omega
  have hk:dK a≤dK b+-((L:Int)*mo):=by
   rcases Int.lt_or_le (dK b+-((L:Int)*mo)) (dK a) with h2|h2
   ·have c1:=Ajb (k:=dK b+-((L:Int)*mo)) hdd
    have c2:=Ajb (k:=dK a) add'
    have c3:=Aja h2
    omega
   ·exact h2
  have hs:addM b (-((L:Int)*mo))=some (kDay (dK b+-((L:Int)*mo)) (dD b)):=by
   unfold addM
   rw[if_pos ⟨⟨by omega,by omega⟩,by omega,by omega⟩]
  rw[Ajh hs hlt] at he
  cases he
 ·exact h
def pairs:List Int→List (Int×Int)
 | a::b::r=>(a,b)::pairs (b::r)
 | _=>[]
theorem pairs_len:∀l:List Int,(pairs l).length=l.length-1
 | []=>rfl
 | [_]=>rfl
 | a::b::r=>by
   rw[pairs,List.length_cons,pairs_len (b::r)]
   rfl
theorem pairs_get:∀(l:List Int) (i:Nat),(pairs l)[i]?=(match l[i]?,l[i+1]? with|some a,some b=>some (a,b)|_,_=>none)
 | [],i=>by simp[pairs]
 | [a],i=>by cases i<;>simp[pairs]
 | a :: b :: r, i => by
   cases i with
   | zero=>simp[pairs]
   | succ i =>
     rw[pairs,List.getElem?_cons_succ,pairs_get (b::r) i]
     rfl
noncomputable def ends(a b mo:Int):List Int:=a::((cuts a b mo).reverse++[b])
noncomputable def pers(a b mo:Int):List (Int×Int):=pairs (ends a b mo)
theorem Ajv(a b mo:Int):(pers a b mo).length=(cuts a b mo).length+1:=by
 unfold pers ends
 rw[pairs_len,List.length_cons,List.length_append,List.length_reverse]
 rfl
theorem Ajw{a b mo:Int}(hmo:1≤mo)(h0:-25567≤b)(h1:b≤84005)(hab:a<b):(ends a b mo).Pairwise (·<·):=by
 unfold ends
 rw[List.pairwise_cons,List.pairwise_append]
 refine⟨fun x hx=>?_,?_,List.pairwise_singleton _ _,fun x hx y hy=>?_⟩
 ·rw[List.mem_append,List.mem_reverse,List.mem_singleton] at hx
  rcases hx with hx|rfl
  ·exact (Ajs hmo h0 h1 hx).1
  ·exact hab
 ·rw[List.pairwise_reverse,List.pairwise_iff_getElem]
  intro i j hi hj hij
  exact Ajr hmo h0 h1 hij (List.getElem?_eq_getElem hi) (List.getElem?_eq_getElem hj)
 ·rw[List.mem_reverse] at hx
  rw[List.mem_singleton] at hy
  subst hy
  exact (Ajs hmo h0 h1 hx).2
end Tr
namespace Go.Proofs.YtcnmoobojdopgaaGreatDoor
open Go.RowKit Tr Go.Shelf
def addV(o:Option Int):Value:=match o with
 | some x=>.tuple #[.int .i64 x,.int .i64 0]
 | none=>.tuple #[.int .i64 0,.int .i64 13]
theorem Ajx(x:Int):addV (some x)=.tuple #[.int .i64 x,.int .i64 0]:=rfl
theorem addV_none:addV none=.tuple #[.int .i64 0,.int .i64 13]:=rfl
theorem addM_eq{d n K y dd:Int}{m:Nat}(h:VDate y m dd)(hd:dayOf y m dd=d)(h0:-4800≤n)(h1:n≤4800)(hK:12*y+(m:Int)-1+n=K):
 addM d n=if 22800≤K∧K<26400 then some (kDay K dd) else none:=by
 obtain⟨eK,eD⟩:=dK_eq h hd
 have e:dK d+n=K:=by rw[eK];omega
 unfold addM
 rw[e,eD]
 by_cases hc:22800≤K∧K<26400
 ·rw[if_pos ⟨⟨h0,h1⟩,hc⟩,if_pos hc]
 ·rw[if_neg (fun x=>hc x.2),if_neg hc]
theorem Ajy(d n:Int)(hd:okDay d)(h0:-4800≤n)(h1:n≤4800)(w:World):
 Calls Tryz.prog 218 #[.int .i64 d,.int .i64 n] w fun e w'=>e=.returned (addV (addM d n))∧Below w.heap.size w w':=by
 have HP:=Lib.hid (Ais d hd w)
 have HLN:=Lib.hid (fun (K:Int) (h0:22800≤K) (h1:K<26400) W=>Aik (kY K) (kM K) (by unfold kY;omega) (by unfold kY;omega) (kM_bd K).1 (kM_bd K).2 W)
 have HOF:=Lib.hid (fun (K dd:Int) (hv:VDate (kY K) (kM K) (min dd (kL K))) W=>Aip (kY K) (kM K) (min dd (kL K)) hv W)
 have c1:decide (n < -4800)=false:=decide_eq_false (by omega)
 have c2:decide (4800<n)=false:=decide_eq_false (by omega)
 have c3:decide (n > 4800)=false:=decide_eq_false (by omega)
 go_enter Tryz.func218,Tryz.ntmps218
 go_wp2_with fail
 refine HP.out.mono ?_
 rintro e w1 ⟨y,m,dd,rfl,hv,hdy,hB1⟩
 obtain⟨K,hK⟩:∃K,12*y+(m:Int)-1+n=K:=⟨_,rfl⟩
 have HE:=Lib.hid (addM_eq hv hdy h0 h1 hK)
 obtain⟨v1,v2,v3,v4,v5,v6⟩:=hv
 have hkp:18000≤K:=by omega
 have hku:K≤40000:=by omega
 have hq:K.tdiv 12=kY K:=by rw[Int.tdiv_eq_ediv_of_nonneg (by omega)];rfl
 have hr:K % 12+1=(kM K:Int):=by unfold kM;omega
 have hy0:1500≤kY K:=by unfold kY;omega
 have hy9:kY K≤3400:=by unfold kY;omega
 by_cases hc:22800≤K∧K<26400
 ·have hy1:decide (kY K<1900)=false:=decide_eq_false (by unfold kY;omega)
  have hy2:decide (2199<kY K)=false:=decide_eq_false (by unfold kY;omega)
  have hy3:decide (kY K > 2199)=false:=decide_eq_false (by unfold kY;omega)
  have HV:=Lib.hid (Aje (k:=K) v5 hc.1 hc.2)
  have HD:=Lib.hid (Ai7 K dd)
  have HLL:=Lib.hid (HLN.out K hc.1 hc.2)
  have HO:=Lib.hid (HOF.out K dd HV.out)
  rw[if_pos hc] at HE
  clear hc HOF HLN HV
  go_wp2_with fail
  refine (HLL.out _).mono ?_
  rintro e w2 ⟨rfl,hB2⟩
  go_wp2_with fail
  refine (HO.out _).mono ?_
  rintro e w3 ⟨rfl,hB3⟩
  go_wp2_with fail
  go_ret2
  have b2:=hB1.trans (hB2.mono hB1.size)
  exact⟨by rw[HE.out,HD.out];rfl,b2.trans (hB3.mono b2.size)⟩
 ·have hx:decide (kY K<1900)=true∨(decide (kY K<1900)=false∧decide (kY K > 2199)=true):=by
   rcases Int.lt_or_le K 22800 with h|h
   ·exact .inl (decide_eq_true (by unfold kY;omega))
   ·exact .inr ⟨decide_eq_false (by unfold kY;omega),decide_eq_true (by unfold kY;omega)⟩
  rw[if_neg hc] at HE
  clear hc HOF HLN
  rcases hx with hx|⟨hx,hx2⟩
  all_goals (go_wp2_with fail;go_ret2;exact⟨by rw[HE.out];rfl,hB1⟩)
theorem sChk_ok(mo:Int)(h0:1≤mo)(h1:mo≤4800)(w:World):
 Calls Tryz.prog 152 #[.bool true,.int .i64 mo,.int .i64 1] w fun e w'=>e=.returned (.int .i64 0)∧w=w':=by
 have c1:decide (mo<1)=false:=decide_eq_false (by omega)
 have c2:decide (4800<mo)=false:=decide_eq_false (by omega)
 clear h0 h1
 go_enter Tryz.func152,Tryz.ntmps152
 go_wp2_with fail
 go_ret
 exact⟨rfl,rfl⟩
theorem Ajz(d:Int)(hd:okDay d)(w:World):Calls Tryz.prog 216 #[.int .i64 d] w fun e w'=>e=.returned (.bool false)∧w=w':=by
 have c1:decide (d < -25567)=false:=decide_eq_false (by unfold okDay at hd;omega)
 have c2:decide (84005<d)=false:=decide_eq_false (by unfold okDay at hd;omega)
 clear hd
 go_enter Tryz.func216,Tryz.ntmps216
 go_wp2_with fail
 go_ret
 exact⟨rfl,rfl⟩
theorem Aj0(g:Nat)(a b:Int)(c:Nat)(ha:okDay a)(hb:okDay b)(w:World)(ca:w.cell? ⟨g,0,none⟩=some (.int .i64 a))(cb:w.cell? ⟨g,1,none⟩=some (.int .i64 b)):
 Calls Tryz.prog 262 #[.slice (some ⟨g,0,none⟩) 2 c,.func (.func 216) #[] #[]] w fun e w'=>e=.returned (.int .i64 (-1))∧w=w':=by
 have HA:=Lib.hid (fun W=>Ajz a ha W)
 have HB:=Lib.hid (fun W=>Ajz b hb W)
 clear ha hb
 go_enter Tryz.func262,Tryz.ntmps262
 go_wp2_with fail
 go_loop [8] (fun v=>∃k:Nat,v=.int .i64 (k:Int)∧k≤2) (fun v=>2-(intOf v).toNat)
 case atStart=>exact⟨0,rfl,by omega⟩
 case round =>
  obtain⟨k,rfl,hk⟩:=hrel
  obtain rfl|rfl|rfl:k=0∨k=1∨k=2:=by omega
  ·rw[show ((0:Nat):Int)=0 from rfl]
   go_wp2_with fail
   refine (HA.out _).mono ?_
   rintro e w1 ⟨rfl,rfl⟩
   go_wp2_with fail
   go_round
   case rel=>exact⟨1,rfl,by omega⟩
   case measure=>simp[intOf]
  ·rw[show ((1:Nat):Int)=1 from rfl]
   go_wp2_with fail
   refine (HB.out _).mono ?_
   rintro e w1 ⟨rfl,rfl⟩
   go_wp2_with fail
   go_round
   case rel=>exact⟨2,rfl,by omega⟩
   case measure=>simp[intOf]
  ·rw[show ((2:Nat):Int)=2 from rfl]
   go_wp2_with fail
   go_ret
   exact⟨rfl,rfl⟩
theorem Aj1(g:Nat)(a b:Int)(c:Nat)(ha:okDay a)(hb:okDay b)(w:World)(ca:w.cell? ⟨g,0,none⟩=some (.int .i64 a))(cb:w.cell? ⟨g,1,none⟩=some (.int .i64 b)):
 Calls Tryz.prog 153 #[.slice (some ⟨g,0,none⟩) 2 c] w fun e w'=>e=.returned (.bool true)∧w=w':=by
 have HC:∀W:World,W=w→Calls Tryz.prog 215 #[.slice (some ⟨g,0,none⟩) 2 c,.func (.func 216) #[] #[]] W fun e w'=>e=.returned (.bool false)∧W=w':=by
  intro W hW
  have HI:=Lib.hid (Aj0 g a b c ha hb w ca cb)
  subst hW
  clear ha hb ca cb
  go_enter Tryz.func215,Tryz.ntmps215
  go_wp2_with fail
  refine HI.out.mono ?_
  rintro e w1 ⟨rfl,rfl⟩
  go_wp2_with fail
  go_ret
  exact⟨rfl,rfl⟩
 have H:=Lib.hid (HC w rfl)
 clear HC ha hb ca cb
 go_enter Tryz.func153,Tryz.ntmps153
 go_wp2_with fail
 refine H.out.mono ?_
 rintro e w1 ⟨rfl,rfl⟩
 go_wp2_with fail
 go_ret
 exact⟨rfl,rfl⟩
theorem Aj2(a b mo:Int)(w:World):
 Calls Tryz.prog 154 #[.agg #[.int .i64 a,.int .i64 b],.int .i64 mo,.int .i64 1] w fun e w'=>e=.returned (.func (.func 217) #[] #[.pointer (some ⟨w.heap.size,0,none⟩),.pointer (some ⟨w.heap.size+2,0,none⟩),.pointer (some ⟨w.heap.size+1,0,none⟩)]) ∧
  w'=((w.alloc (.cells #[.int .i64 a,.int .i64 b] 60)).alloc (.cells #[.int .i64 mo] 3)).alloc (.cells #[.int .i64 1] 3):=by
 go_enter Tryz.func154,Tryz.ntmps154
 go_wp2_with fail
 go_ret
 exact⟨rfl,rfl⟩
end Go.Proofs.YtcnmoobojdopgaaGreatDoor
namespace Tr
def d30(c:Int)(y:Int)(m:Nat)(d:Int)(z:Int)(n:Nat)(e:Int):Int :=
 360*(z-y)+30*((n:Int)-m)+(if c=4∨min d 30=30 then min e 30 else e)-min d 30
noncomputable def Aj3(c a b:Int):Int:=d30 c (Ai3 a).1 (Ai3 a).2.1 (Ai3 a).2.2 (Ai3 b).1 (Ai3 b).2.1 (Ai3 b).2.2
theorem Aj4{c a b:Int}{y z:Int}{m n:Nat}{d e:Int}(h:VDate y m d)(ha:dayOf y m d=a)(k:VDate z n e)(hb:dayOf z n e=b):Aj3 c a b=d30 c y m d z n e:=by
 unfold Aj3
 rw[Ai4 h ha,Ai4 k hb]
theorem Aj5{y:Int}{m:Nat}{d:Int}(h:VDate y m d)(hl:dayOf y m d<84005):
 (VDate y m (d+1)∧dayOf y m (d+1)=dayOf y m d+1)∨(d=lenB (leapB y) m∧m<12∧VDate y (m+1) 1∧dayOf y (m+1) 1=dayOf y m d+1)∨(d=31∧m=12∧VDate (y+1) 1 1∧dayOf (y+1) 1 1=dayOf y m d+1):=by
 obtain⟨h1,h2,h3,h4,h5,h6⟩:=h
 rcases Int.lt_or_le d (lenB (leapB y) m) with hd|hd
 ·exact .inl ⟨⟨h1,h2,h3,h4,by omega,by omega⟩,by unfold dayOf;omega⟩
 ·have hc:=Aiz (leapB y) h3
  rcases Nat.lt_or_ge m 12 with hm|hm
  ·exact .inr (.inl ⟨by omega,hm,⟨h1,h2,by omega,by omega,by omega,by have:=(Aid (leapB y) (m+1)).1;omega⟩,by unfold dayOf;rw[show m+1-1=m from rfl,hc];omega⟩)
  ·have h12:m=12:=by omega
   subst h12
   have hb:=Aib y
   have c12:=cum12 (leapB y)
   have hl12:lenB (leapB y) 12=31:=by unfold lenB;rw[if_neg (by omega),if_neg (by omega)]
   have e:dayOf y 12 d+1=-25567+bg (y+1):=by unfold dayOf;rw[hb,←c12,hc];omega
   have hy:y+1≤2199:=by
    rcases Int.lt_or_le y 2199 with hy|hy
    ·omega
    ·have e2:y=2199:=by omega
     have h9:bg 2200=109573:=by decide
     rw[show y+1=2200 from by omega,h9] at e
     omega
   refine .inr (.inr ⟨by omega,rfl,⟨by omega,hy,by omega,by omega,by omega,by have:=(Aid (leapB (y+1)) 1).1;omega⟩,?_⟩)
   rw[e]
   unfold dayOf
   rw[show cumB (leapB (y+1)) (1-1)=0 from rfl]
   omega
theorem Aj6{c y z:Int}{m n:Nat}{d e:Int}(h:VDate y m d)(k:VDate z n e)(hl:dayOf z n e<84005):∃(z':Int) (n':Nat) (e':Int),VDate z' n' e'∧dayOf z' n' e'=dayOf z n e+1∧d30 c y m d z n e≤d30 c y m d z' n' e':=by
 rcases Aj5 k hl with⟨h1,h2⟩|⟨h0,h3,h1,h2⟩|⟨h0,h3,h1,h2⟩
 ·refine⟨_,_,_,h1,h2,?_⟩
  unfold d30
  split<;>omega
 ·have hl2:=Aid (leapB z) n
  refine⟨_,_,_,h1,h2,?_⟩
  unfold d30
  have h4:e≤31:=by omega
  split<;>omega
 ·refine⟨_,_,_,h1,h2,?_⟩
  unfold d30
  subst h0 h3
  split<;>omega
theorem Aj7(c a b:Int)(ha:-25567≤a)(ha2:a≤84005)(hb:-25567≤b)(n:Nat):b+n≤84005→Aj3 c a b≤Aj3 c a (b+n):=by
 induction n with
 | zero=>intro _;rw[show b+((0:Nat):Int)=b from by omega];exact Int.le_refl _
 | succ n ih =>
   intro hn
   refine Int.le_trans (ih (by omega)) ?_
   obtain⟨y,m,d,hv,hd⟩:=Ai2 ha ha2
   obtain⟨z,k,e,hw,he⟩:=Ai2 (d:=b+n) (by omega) (by omega)
   obtain⟨z',k',e',hw',he',hle⟩:=Aj6 (c:=c) hv hw (by omega)
   rw[Aj4 hv hd hw he,Aj4 hv hd hw' (by rw[he',he];omega:dayOf z' k' e'=b+((n+1:Nat):Int))]
   exact hle
theorem Aj8{c a b b':Int}(ha:-25567≤a)(ha2:a≤84005)(hb:-25567≤b)(h:b≤b')(hb2:b'≤84005):Aj3 c a b≤Aj3 c a b':=by
 have:=Aj7 c a b ha ha2 hb (b'-b).toNat (by omega)
 rwa [show b+((b'-b).toNat:Int)=b' from by omega] at this
theorem Aj9{c a:Int}(ha:-25567≤a)(ha2:a≤84005):Aj3 c a a=0:=by
 obtain⟨y,m,d,hv,hd⟩:=Ai2 ha ha2
 rw[Aj4 hv hd hv hd]
 unfold d30
 split<;>omega
theorem Aka{c a b:Int}(ha:-25567≤a)(ha2:a≤84005)(hb:-25567≤b)(hb2:b≤84005):(Aj3 c a b).natAbs≤200000:=by
 obtain⟨y,m,d,⟨a1,a2,a3,a4,a5,a6⟩,hd⟩:=Ai2 ha ha2
 obtain⟨z,k,e,⟨b1,b2,b3,b4,b5,b6⟩,he⟩:=Ai2 hb hb2
 have l1:=Aid (leapB y) m
 have l2:=Aid (leapB z) k
 rw[Aj4 ⟨a1,a2,a3,a4,a5,a6⟩ hd ⟨b1,b2,b3,b4,b5,b6⟩ he]
 unfold d30
 split<;>omega
noncomputable def yrs(d:Int):Rat:=((Ai3 d).1:Rat)+((d+25567-bg (Ai3 d).1:Int):Rat) / (ylen (leapB (Ai3 d).1):Rat)
theorem Akb(lp:Bool):0<ylen lp∧365≤ylen lp∧ylen lp≤366:=by unfold ylen;cases lp<;>decide
theorem yrs_eq{y:Int}{m:Nat}{dd d:Int}(h:VDate y m dd)(hd:dayOf y m dd=d):yrs d=(y:Rat)+((d+25567-bg y:Int):Rat) / (ylen (leapB y):Rat):=by
 unfold yrs
 rw[Ai4 h hd]
theorem Akc{y d:Int}(h0:1900≤y)(h1:y≤2199)(h2:bg y≤d+25567)(h3:d+25567<bg (y+1)):yrs d=(y:Rat)+((d+25567-bg y:Int):Rat) / (ylen (leapB y):Rat):=by
 have b0:=Aif h0
 have b1:=Aif (x:=y+1) (y:=2200) (by omega)
 have c1:bg 1900=0:=by decide
 have c2:bg 2200=109573:=by decide
 obtain⟨z,n,e,hv,he⟩:=Ai2 (d:=d) (by omega) (by omega)
 have hi:=Aie hv
 rw[he] at hi
 have hz:z=y:=by
  rcases Int.lt_trichotomy z y with h|h|h
  ·have:=Aif (x:=z+1) (y:=y) (by omega);omega
  ·exact h
  ·have:=Aif (x:=y+1) (y:=z) (by omega);omega
 rw[←hz]
 exact yrs_eq hv he
theorem Akd{y d:Int}(h0:1900≤y)(h1:y≤2199)(h2:bg y≤d+25567)(h3:d+25567<bg (y+1)):(y:Rat)≤yrs d∧yrs d<(y:Rat)+1:=by
 rw[Akc h0 h1 h2 h3]
 have hl:=Akb (leapB y)
 rw[Aib] at h3
 have hp:(0:Rat)<(ylen (leapB y):Rat):=Rat.intCast_pos.2 hl.1
 have e1:(0:Rat)≤((d+25567-bg y:Int):Rat) / (ylen (leapB y):Rat):=by
  rw[Rat.div_def]
  exact Rat.mul_nonneg (Rat.intCast_nonneg.2 (by omega)) (Rat.le_of_lt (Rat.inv_pos.2 hp))
 have e2:((d+25567-bg y:Int):Rat) / (ylen (leapB y):Rat)<1:=by
  rw[Rat.div_lt_iff hp,Rat.one_mul]
  exact Rat.intCast_lt_intCast.2 (by omega)
 constructor<;>grind
theorem Ake{d:Int}(h0:-25567≤d)(h1:d≤84005):∃y:Int,1900≤y∧y≤2199∧bg y≤d+25567∧d+25567<bg (y+1):=by
 obtain⟨y,m,dd,hv,hd⟩:=Ai2 h0 h1
 have hi:=Aie hv
 rw[hd] at hi
 exact⟨y,hv.1,hv.2.1,hi.1,hi.2⟩
theorem Akf{a b:Int}(h0:-25567≤a)(h:a≤b)(h1:b≤84005):yrs a≤yrs b:=by
 obtain⟨y,y0,y1,y2,y3⟩:=Ake h0 (by omega)
 obtain⟨z,z0,z1,z2,z3⟩:=Ake (d:=b) (by omega) h1
 rcases Int.lt_trichotomy y z with hc|hc|hc
 ·have e1:=(Akd y0 y1 y2 y3).2
  have e2:=(Akd z0 z1 z2 z3).1
  have e3:(y:Rat)+1≤(z:Rat):=by
   have:((y+1:Int):Rat)≤(z:Rat):=Rat.intCast_le_intCast.2 (by omega)
   rwa [Rat.intCast_add] at this
  grind
 ·subst hc
  rw[Akc y0 y1 y2 y3,Akc z0 z1 z2 z3]
  have hl:=Akb (leapB y)
  have hp:(0:Rat)<(ylen (leapB y):Rat):=Rat.intCast_pos.2 hl.1
  have e:((a+25567-bg y:Int):Rat) / (ylen (leapB y):Rat)≤((b+25567-bg y:Int):Rat) / (ylen (leapB y):Rat):=by
   rw[Rat.div_def,Rat.div_def]
   exact Rat.mul_le_mul_of_nonneg_right (Rat.intCast_le_intCast.2 (by omega)) (Rat.le_of_lt (Rat.inv_pos.2 hp))
  grind
 ·have:=Aif (x:=z+1) (y:=y) (by omega)
  omega
theorem Akg{y a e:Int}(h0:1900≤y)(h1:y≤2199)(h2:bg y≤a+25567)(hae:a≤e)(h3:a+25567<bg (y+1))(h4:e+25567≤bg (y+1))(h5:e≤84005):yrs e=yrs a+((e-a:Int):Rat) / (ylen (leapB y):Rat):=by
 have hl:=Akb (leapB y)
 have hp:(ylen (leapB y):Rat)≠0:=by
  have:(0:Rat)<(ylen (leapB y):Rat):=Rat.intCast_pos.2 hl.1
  grind
 rw[Akc h0 h1 h2 h3]
 rcases Int.lt_or_le (e+25567) (bg (y+1)) with hc|hc
 ·rw[Akc h0 h1 (by omega) hc]
  have e1:((e+25567-bg y:Int):Rat)=((a+25567-bg y:Int):Rat)+((e-a:Int):Rat):=by rw[←Rat.intCast_add];congr 1;omega
  rw[e1,Rat.div_def,Rat.div_def,Rat.div_def]
  grind
 ·have c2:bg 2200=109573:=by decide
  have hy:y+1≤2199:=by
   rcases Int.lt_or_le y 2199 with h|h
   ·omega
   ·rw[show y+1=2200 from by omega,c2] at hc;omega
  have hb2:=Aib (y+1)
  have hl2:=Akb (leapB (y+1))
  rw[Akc (y:=y+1) (by omega) hy (by omega) (by omega)]
  have e0:e+25567-bg (y+1)=0:=by omega
  have e1:((a+25567-bg y:Int):Rat)+((e-a:Int):Rat)=(ylen (leapB y):Rat):=by
   rw[←Rat.intCast_add];congr 1
   have:=Aib y
   omega
  have e2:((a+25567-bg y:Int):Rat) / (ylen (leapB y):Rat)+((e-a:Int):Rat) / (ylen (leapB y):Rat)=1:=by
   rw[Rat.div_def,Rat.div_def,←Rat.add_mul,e1]
   exact Rat.mul_inv_cancel _ hp
  rw[e0,Rat.intCast_add]
  have e3:((0:Int):Rat) / (ylen (leapB (y+1)):Rat)=0:=by rw[Rat.div_def];exact Rat.zero_mul _
  rw[e3]
  have e4:((1:Int):Rat)=1:=rfl
  grind
noncomputable def dcF(c a b:Int):Rat :=
 if c=5 then yrs b-yrs a
 else if c=2 then ((b-a:Int):Rat) / 365
 else if c=1 then ((b-a:Int):Rat) / 360
 else ((Aj3 c a b:Int):Rat) / 360
end Tr
namespace Go.Proofs.YtcnmoobojdopgaaGreatDoor
theorem Akh(q:Rat):2*(rnd q*q.den-q.num).natAbs≤q.den:=by
 have hp:(0:Int)<q.den:=by have:=q.den_pos;omega
 have h1:=Int.emod_nonneg q.num (b:=(q.den:Int)) (by omega)
 have h2:=Int.emod_lt_of_pos q.num hp
 have h3:=Int.emod_add_mul_ediv q.num q.den
 have h4:(q.num / q.den+1)*(q.den:Int)=q.den*(q.num / q.den)+q.den:=by
  rw[Int.add_mul,Int.one_mul,Int.mul_comm]
 have h5:(q.num / q.den)*(q.den:Int)=q.den*(q.num / q.den):=Int.mul_comm _ _
 unfold rnd
 split
 ·rw[h4];omega
 ·rw[h5];omega
end Go.Proofs.YtcnmoobojdopgaaGreatDoor
