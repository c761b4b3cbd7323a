/-
  The walk of instrument.bond: 0 exactly where valid. (Printed by gen_ins9b.py.)
-/
import Derived.Test.YtcnmoobojdopgaaGreatDoorT21
import Derived.Deep.RegionWith
set_option linter.unusedVariables false
set_option linter.unusedSimpArgs false
set_option maxHeartbeats 16000000
set_option maxRecDepth 100000
namespace Go.Proofs.YtcnmoobojdopgaaGreatDoor
open Go.RowKit Tr Go.Shelf
theorem bond_d(i:Inst)(hs:i.sized)(h1:0<vl i.fn)(h2:0≤vl i.cn)(h3:i.months∈monthsL)(h4:¬ 1≤i.count)(w:World):
 Calls Tryz.prog 212 #[i.enc] w fun e w'=>e=.returned (.int .i64 2)∧Below w.heap.size w w':=by
 obtain⟨W0,hW0,hB0,hz,hk⟩:=ibox i w
 obtain⟨W1,hW1⟩:∃W1,W0.alloc (.cells #[.int .i64 1,.int .i64 2,.int .i64 3,.int .i64 4,.int .i64 6,.int .i64 12] 262)=W1:=⟨_,rfl⟩
 have hB1:Below w.heap.size w W1:=by rw[←hW1];exact hB0.alloc (by omega) _
 have hk1:W1.heap[w.heap.size]?=some (.cells i.cells 27):=by rw[←hW1];exact (Below.heap_alloc _ _ _ (by omega)).trans hk
 have hkm:W1.heap[w.heap.size+1]?=some (.cells #[.int .i64 1,.int .i64 2,.int .i64 3,.int .i64 4,.int .i64 6,.int .i64 12] 262):=by
  rw[←hW1,←hz];exact Aaz W0 _
 have c6:=Aaa hk1 6
 have c7:=Aaa hk1 7
 have c8:=Aaa hk1 8
 have c9:=Aaa hk1 9
 have c10:=Aaa hk1 10
 have c11:=Aaa hk1 11
 have c12:=Aaa hk1 12
 have c13:=Aaa hk1 13
 have c14:=Aaa hk1 14
 simp at c6 c7 c8 c9 c10 c11 c12 c13 c14
 have HB1:=Aac hB1
 have HKM:=Aac hkm
 obtain⟨z1,z2,z3,z4,z5,z6,z7,z8,z9⟩:=hs
 have hsz:W0.heap.size=w.heap.size+1:=hz
 have q1:decide (cmpI (vl i.fn) 0≤0)=false:=Aay (by rw[Adc];omega)
 have q2:decide (cmpI (vl i.cn) 0<0)=false:=Aay (by rw[cmpI_lt];omega)
 have H3:Hid ((monthsL.take 6).contains i.months=true):=by rw[Hid,List.contains_iff_mem];exact h3
 have q3:decide (i.count<1)=true:=Aax (by omega)
 clear hk hB0 hz hk1 hkm hB1 h1 h2 h3 h4
 unfold Inst.enc Inst.cells at *
 go_enter Tryz.func212,Tryz.ntmps212
 go_wp2_with fail
 first
 | go_region_with (first
    | (go_at_call_of 260 [Value.agg #[Value.string i.fn,Value.string i.fd]];refine (Ame i.fn i.fd (by omega) W1.drew).mono ?_;rintro e w1 ⟨rfl,b1⟩;have d6:=keepc c6 b1;have d7:=keepc c7 b1;have d8:=keepc c8 b1;have d9:=keepc c9 b1;have d10:=keepc c10 b1;have d11:=keepc c11 b1;have d12:=keepc c12 b1;have d13:=keepc c13 b1;have d14:=keepc c14 b1;have HB2:=Aac (HB1.out.drew.trans (b1.mono HB1.out.size));have HKM1:=Aac ((b1.block (w.heap.size+1) (Aab.1 HKM.out).1).trans HKM.out);clear b1)
    | (go_at_call_of 260 [Value.agg #[Value.string i.cn,Value.string i.cd]];refine (Ame i.cn i.cd (by omega) w1).mono ?_;rintro e w2 ⟨rfl,b2⟩;have g6:=keepc d6 b2;have g7:=keepc d7 b2;have g8:=keepc d8 b2;have g9:=keepc d9 b2;have g10:=keepc d10 b2;have g11:=keepc d11 b2;have g12:=keepc d12 b2;have g13:=keepc d13 b2;have g14:=keepc d14 b2;have HB3:=Aac (HB2.out.trans (b2.mono HB2.out.size));have HKM2:=Aac ((b2.block (w.heap.size+1) (Aab.1 HKM1.out).1).trans HKM1.out);clear b2)
    | (go_at_call 261;refine (Tryz.slices_Contains_int (w.heap.size+1) 0 6 6 monthsL i.months w2 (by decide) (by decide) (fun j hj=>by rw[Aaa HKM2.out];match j,hj with|0,_=>rfl|1,_=>rfl|2,_=>rfl|3,_=>rfl|4,_=>rfl|5,_=>rfl)).mono ?_;rintro e w3 ⟨rfl,rfl⟩;rw[show (monthsL.take 6).contains i.months=true from H3.out]))
 | fail "the region fell"
 all_goals
  go_wp2_with fail
  go_ret
  exact⟨rfl,HB3.out⟩
theorem bond_e(i:Inst)(hs:i.sized)(h1:0<vl i.fn)(h2:0≤vl i.cn)(h3:i.months∈monthsL)(h4:1≤i.count)(h5:¬i.count≤5)(w:World):
 Calls Tryz.prog 212 #[i.enc] w fun e w'=>e=.returned (.int .i64 2)∧Below w.heap.size w w':=by
 obtain⟨W0,hW0,hB0,hz,hk⟩:=ibox i w
 obtain⟨W1,hW1⟩:∃W1,W0.alloc (.cells #[.int .i64 1,.int .i64 2,.int .i64 3,.int .i64 4,.int .i64 6,.int .i64 12] 262)=W1:=⟨_,rfl⟩
 have hB1:Below w.heap.size w W1:=by rw[←hW1];exact hB0.alloc (by omega) _
 have hk1:W1.heap[w.heap.size]?=some (.cells i.cells 27):=by rw[←hW1];exact (Below.heap_alloc _ _ _ (by omega)).trans hk
 have hkm:W1.heap[w.heap.size+1]?=some (.cells #[.int .i64 1,.int .i64 2,.int .i64 3,.int .i64 4,.int .i64 6,.int .i64 12] 262):=by
  rw[←hW1,←hz];exact Aaz W0 _
 have c6:=Aaa hk1 6
 have c7:=Aaa hk1 7
 have c8:=Aaa hk1 8
 have c9:=Aaa hk1 9
 have c10:=Aaa hk1 10
 have c11:=Aaa hk1 11
 have c12:=Aaa hk1 12
 have c13:=Aaa hk1 13
 have c14:=Aaa hk1 14
 simp at c6 c7 c8 c9 c10 c11 c12 c13 c14
 have HB1:=Aac hB1
 have HKM:=Aac hkm
 obtain⟨z1,z2,z3,z4,z5,z6,z7,z8,z9⟩:=hs
 have hsz:W0.heap.size=w.heap.size+1:=hz
 have q1:decide (cmpI (vl i.fn) 0≤0)=false:=Aay (by rw[Adc];omega)
 have q2:decide (cmpI (vl i.cn) 0<0)=false:=Aay (by rw[cmpI_lt];omega)
 have H3:Hid ((monthsL.take 6).contains i.months=true):=by rw[Hid,List.contains_iff_mem];exact h3
 have q3:decide (i.count<1)=false:=Aay (by omega)
 have q4:decide (5<i.count)=true:=Aax (by omega)
 clear hk hB0 hz hk1 hkm hB1 h1 h2 h3 h4 h5
 unfold Inst.enc Inst.cells at *
 go_enter Tryz.func212,Tryz.ntmps212
 go_wp2_with fail
 first
 | go_region_with (first
    | (go_at_call_of 260 [Value.agg #[Value.string i.fn,Value.string i.fd]];refine (Ame i.fn i.fd (by omega) W1.drew).mono ?_;rintro e w1 ⟨rfl,b1⟩;have d6:=keepc c6 b1;have d7:=keepc c7 b1;have d8:=keepc c8 b1;have d9:=keepc c9 b1;have d10:=keepc c10 b1;have d11:=keepc c11 b1;have d12:=keepc c12 b1;have d13:=keepc c13 b1;have d14:=keepc c14 b1;have HB2:=Aac (HB1.out.drew.trans (b1.mono HB1.out.size));have HKM1:=Aac ((b1.block (w.heap.size+1) (Aab.1 HKM.out).1).trans HKM.out);clear b1)
    | (go_at_call_of 260 [Value.agg #[Value.string i.cn,Value.string i.cd]];refine (Ame i.cn i.cd (by omega) w1).mono ?_;rintro e w2 ⟨rfl,b2⟩;have g6:=keepc d6 b2;have g7:=keepc d7 b2;have g8:=keepc d8 b2;have g9:=keepc d9 b2;have g10:=keepc d10 b2;have g11:=keepc d11 b2;have g12:=keepc d12 b2;have g13:=keepc d13 b2;have g14:=keepc d14 b2;have HB3:=Aac (HB2.out.trans (b2.mono HB2.out.size));have HKM2:=Aac ((b2.block (w.heap.size+1) (Aab.1 HKM1.out).1).trans HKM1.out);clear b2)
    | (go_at_call 261;refine (Tryz.slices_Contains_int (w.heap.size+1) 0 6 6 monthsL i.months w2 (by decide) (by decide) (fun j hj=>by rw[Aaa HKM2.out];match j,hj with|0,_=>rfl|1,_=>rfl|2,_=>rfl|3,_=>rfl|4,_=>rfl|5,_=>rfl)).mono ?_;rintro e w3 ⟨rfl,rfl⟩;rw[show (monthsL.take 6).contains i.months=true from H3.out]))
 | fail "the region fell"
 all_goals
  go_wp2_with fail
  go_ret
  exact⟨rfl,HB3.out⟩
theorem bond_f(i:Inst)(hs:i.sized)(h1:0<vl i.fn)(h2:0≤vl i.cn)(h3:i.months∈monthsL)(h4:1≤i.count)(h5:i.count≤5)(h6:i.other≠⟨#[]⟩)(w:World):
 Calls Tryz.prog 212 #[i.enc] w fun e w'=>e=.returned (.int .i64 1)∧Below w.heap.size w w':=by
 obtain⟨W0,hW0,hB0,hz,hk⟩:=ibox i w
 obtain⟨W1,hW1⟩:∃W1,W0.alloc (.cells #[.int .i64 1,.int .i64 2,.int .i64 3,.int .i64 4,.int .i64 6,.int .i64 12] 262)=W1:=⟨_,rfl⟩
 have hB1:Below w.heap.size w W1:=by rw[←hW1];exact hB0.alloc (by omega) _
 have hk1:W1.heap[w.heap.size]?=some (.cells i.cells 27):=by rw[←hW1];exact (Below.heap_alloc _ _ _ (by omega)).trans hk
 have hkm:W1.heap[w.heap.size+1]?=some (.cells #[.int .i64 1,.int .i64 2,.int .i64 3,.int .i64 4,.int .i64 6,.int .i64 12] 262):=by
  rw[←hW1,←hz];exact Aaz W0 _
 have c6:=Aaa hk1 6
 have c7:=Aaa hk1 7
 have c8:=Aaa hk1 8
 have c9:=Aaa hk1 9
 have c10:=Aaa hk1 10
 have c11:=Aaa hk1 11
 have c12:=Aaa hk1 12
 have c13:=Aaa hk1 13
 have c14:=Aaa hk1 14
 simp at c6 c7 c8 c9 c10 c11 c12 c13 c14
 have HB1:=Aac hB1
 have HKM:=Aac hkm
 obtain⟨z1,z2,z3,z4,z5,z6,z7,z8,z9⟩:=hs
 have hsz:W0.heap.size=w.heap.size+1:=hz
 have q1:decide (cmpI (vl i.fn) 0≤0)=false:=Aay (by rw[Adc];omega)
 have q2:decide (cmpI (vl i.cn) 0<0)=false:=Aay (by rw[cmpI_lt];omega)
 have H3:Hid ((monthsL.take 6).contains i.months=true):=by rw[Hid,List.contains_iff_mem];exact h3
 have q3:decide (i.count<1)=false:=Aay (by omega)
 have q4:decide (5<i.count)=false:=Aay (by omega)
 have hoe:(i.other.toList==[])=false:=by rw[Amm,Aay h6]
 clear hk hB0 hz hk1 hkm hB1 h1 h2 h3 h4 h5 h6
 unfold Inst.enc Inst.cells at *
 go_enter Tryz.func212,Tryz.ntmps212
 go_wp2_with fail
 first
 | go_region_with (first
    | (go_at_call_of 260 [Value.agg #[Value.string i.fn,Value.string i.fd]];refine (Ame i.fn i.fd (by omega) W1.drew).mono ?_;rintro e w1 ⟨rfl,b1⟩;have d6:=keepc c6 b1;have d7:=keepc c7 b1;have d8:=keepc c8 b1;have d9:=keepc c9 b1;have d10:=keepc c10 b1;have d11:=keepc c11 b1;have d12:=keepc c12 b1;have d13:=keepc c13 b1;have d14:=keepc c14 b1;have HB2:=Aac (HB1.out.drew.trans (b1.mono HB1.out.size));have HKM1:=Aac ((b1.block (w.heap.size+1) (Aab.1 HKM.out).1).trans HKM.out);clear b1)
    | (go_at_call_of 260 [Value.agg #[Value.string i.cn,Value.string i.cd]];refine (Ame i.cn i.cd (by omega) w1).mono ?_;rintro e w2 ⟨rfl,b2⟩;have g6:=keepc d6 b2;have g7:=keepc d7 b2;have g8:=keepc d8 b2;have g9:=keepc d9 b2;have g10:=keepc d10 b2;have g11:=keepc d11 b2;have g12:=keepc d12 b2;have g13:=keepc d13 b2;have g14:=keepc d14 b2;have HB3:=Aac (HB2.out.trans (b2.mono HB2.out.size));have HKM2:=Aac ((b2.block (w.heap.size+1) (Aab.1 HKM1.out).1).trans HKM1.out);clear b2)
    | (go_at_call 261;refine (Tryz.slices_Contains_int (w.heap.size+1) 0 6 6 monthsL i.months w2 (by decide) (by decide) (fun j hj=>by rw[Aaa HKM2.out];match j,hj with|0,_=>rfl|1,_=>rfl|2,_=>rfl|3,_=>rfl|4,_=>rfl|5,_=>rfl)).mono ?_;rintro e w3 ⟨rfl,rfl⟩;rw[show (monthsL.take 6).contains i.months=true from H3.out]))
 | fail "the region fell"
 all_goals
  go_wp2_with fail
  go_ret
  exact⟨rfl,HB3.out⟩
theorem bond_g(i:Inst)(hs:i.sized)(h1:0<vl i.fn)(h2:0≤vl i.cn)(h3:i.months∈monthsL)(h4:1≤i.count)(h5:i.count≤5)(h6:i.other=⟨#[]⟩)(h7:vl i.sn≠0)(w:World):
 Calls Tryz.prog 212 #[i.enc] w fun e w'=>e=.returned (.int .i64 1)∧Below w.heap.size w w':=by
 obtain⟨W0,hW0,hB0,hz,hk⟩:=ibox i w
 obtain⟨W1,hW1⟩:∃W1,W0.alloc (.cells #[.int .i64 1,.int .i64 2,.int .i64 3,.int .i64 4,.int .i64 6,.int .i64 12] 262)=W1:=⟨_,rfl⟩
 have hB1:Below w.heap.size w W1:=by rw[←hW1];exact hB0.alloc (by omega) _
 have hk1:W1.heap[w.heap.size]?=some (.cells i.cells 27):=by rw[←hW1];exact (Below.heap_alloc _ _ _ (by omega)).trans hk
 have hkm:W1.heap[w.heap.size+1]?=some (.cells #[.int .i64 1,.int .i64 2,.int .i64 3,.int .i64 4,.int .i64 6,.int .i64 12] 262):=by
  rw[←hW1,←hz];exact Aaz W0 _
 have c6:=Aaa hk1 6
 have c7:=Aaa hk1 7
 have c8:=Aaa hk1 8
 have c9:=Aaa hk1 9
 have c10:=Aaa hk1 10
 have c11:=Aaa hk1 11
 have c12:=Aaa hk1 12
 have c13:=Aaa hk1 13
 have c14:=Aaa hk1 14
 simp at c6 c7 c8 c9 c10 c11 c12 c13 c14
 have HB1:=Aac hB1
 have HKM:=Aac hkm
 obtain⟨z1,z2,z3,z4,z5,z6,z7,z8,z9⟩:=hs
 have hsz:W0.heap.size=w.heap.size+1:=hz
 have q1:decide (cmpI (vl i.fn) 0≤0)=false:=Aay (by rw[Adc];omega)
 have q2:decide (cmpI (vl i.cn) 0<0)=false:=Aay (by rw[cmpI_lt];omega)
 have H3:Hid ((monthsL.take 6).contains i.months=true):=by rw[Hid,List.contains_iff_mem];exact h3
 have q3:decide (i.count<1)=false:=Aay (by omega)
 have q4:decide (5<i.count)=false:=Aay (by omega)
 have hoe:(i.other.toList==[])=true:=by rw[Amm,Aax h6]
 have q5:(cmpI (vl i.sn) 0==0)=false:=Aaj.2 (fun e=>h7 (cmpI_eq.1 e))
 have q5':(cmpI (vl i.sn) 0 != 0)=true:=by rw[bne,q5];rfl
 clear hk hB0 hz hk1 hkm hB1 h1 h2 h3 h4 h5 h6 h7
 unfold Inst.enc Inst.cells at *
 go_enter Tryz.func212,Tryz.ntmps212
 go_wp2_with fail
 first
 | go_region_with (first
    | (go_at_call_of 260 [Value.agg #[Value.string i.fn,Value.string i.fd]];refine (Ame i.fn i.fd (by omega) W1.drew).mono ?_;rintro e w1 ⟨rfl,b1⟩;have d6:=keepc c6 b1;have d7:=keepc c7 b1;have d8:=keepc c8 b1;have d9:=keepc c9 b1;have d10:=keepc c10 b1;have d11:=keepc c11 b1;have d12:=keepc c12 b1;have d13:=keepc c13 b1;have d14:=keepc c14 b1;have HB2:=Aac (HB1.out.drew.trans (b1.mono HB1.out.size));have HKM1:=Aac ((b1.block (w.heap.size+1) (Aab.1 HKM.out).1).trans HKM.out);clear b1)
    | (go_at_call_of 260 [Value.agg #[Value.string i.cn,Value.string i.cd]];refine (Ame i.cn i.cd (by omega) w1).mono ?_;rintro e w2 ⟨rfl,b2⟩;have g6:=keepc d6 b2;have g7:=keepc d7 b2;have g8:=keepc d8 b2;have g9:=keepc d9 b2;have g10:=keepc d10 b2;have g11:=keepc d11 b2;have g12:=keepc d12 b2;have g13:=keepc d13 b2;have g14:=keepc d14 b2;have HB3:=Aac (HB2.out.trans (b2.mono HB2.out.size));have HKM2:=Aac ((b2.block (w.heap.size+1) (Aab.1 HKM1.out).1).trans HKM1.out);clear b2)
    | (go_at_call 261;refine (Tryz.slices_Contains_int (w.heap.size+1) 0 6 6 monthsL i.months w2 (by decide) (by decide) (fun j hj=>by rw[Aaa HKM2.out];match j,hj with|0,_=>rfl|1,_=>rfl|2,_=>rfl|3,_=>rfl|4,_=>rfl|5,_=>rfl)).mono ?_;rintro e w3 ⟨rfl,rfl⟩;rw[show (monthsL.take 6).contains i.months=true from H3.out]))
 | fail "the region fell"
 all_goals
  go_wp2_with fail
  refine (Ame i.sn i.sd (by omega) w3).mono ?_
  rintro e w4 ⟨rfl,b4⟩
  go_wp2_with fail
  go_ret
  exact⟨rfl,HB3.out.trans (b4.mono HB3.out.size)⟩
theorem Ary{P:Program}{f:FuncId}{args:Array Value}{w:World}{n:Int}{Q:Prop}(hn:n≠0)(hQ:¬Q)(h:Calls P f args w fun e w'=>e=.returned (.int .i64 n)∧Below w.heap.size w w'):Calls P f args w (ChkPost w Q) :=
 h.mono (by rintro e w' ⟨rfl,hb⟩;exact ChkPost.bad hn hQ hb)
theorem Arz{P:Program}{f:FuncId}{args:Array Value}{w:World}{Q:Prop}(hQ:Q)(h:Calls P f args w fun e w'=>e=.returned (.int .i64 0)∧Below w.heap.size w w'):Calls P f args w (ChkPost w Q) :=
 h.mono (by rintro e w' ⟨rfl,hb⟩;exact ChkPost.good hQ hb)
theorem Ar0(i:Inst)(hs:i.sized)(w:World):Calls Tryz.prog 212 #[i.enc] w (ChkPost w (Amq i)):=by
 by_cases h1:0<vl i.fn
 case neg=>exact Ary (by decide) (fun h=>h1 h.1) (bond_a i hs h1 w)
 by_cases h2:0≤vl i.cn
 case neg=>exact Ary (by decide) (fun h=>h2 h.2.1) (bond_b i hs h1 h2 w)
 by_cases h3:i.months∈monthsL
 case neg=>exact Ary (by decide) (fun h=>h3 h.2.2.1) (bond_c i hs h1 h2 h3 w)
 by_cases h4:1≤i.count
 case neg=>exact Ary (by decide) (fun h=>h4 h.2.2.2.1) (bond_d i hs h1 h2 h3 h4 w)
 by_cases h5:i.count≤5
 case neg=>exact Ary (by decide) (fun h=>h5 h.2.2.2.2.1) (bond_e i hs h1 h2 h3 h4 h5 w)
 by_cases h6:i.other=⟨#[]⟩
 case neg=>exact Ary (by decide) (fun h=>h6 h.2.2.2.2.2.1) (bond_f i hs h1 h2 h3 h4 h5 h6 w)
 by_cases h7:vl i.sn=0
 case neg=>exact Ary (by decide) (fun h=>h7 h.2.2.2.2.2.2) (bond_g i hs h1 h2 h3 h4 h5 h6 h7 w)
 exact Arz ⟨h1,h2,h3,h4,h5,h6,h7⟩ (Amr i hs ⟨h1,h2,h3,h4,h5,h6,h7⟩ w)
def endOk(i:Inst)(ends:Bool):Prop:=(i.matures=0∧ends=false)∨(i.matures≠0∧okDay i.matures∧i.issued<i.matures)
structure ChkAll(i:Inst)(ends:Bool)(P:Prop):Prop where
 id:Ak4 i.id=true
 kind:1≤i.kind∧i.kind≤5
 cur:Ak5 i.cur=true
 places:0≤i.places∧i.places≤12
 issued:okDay i.issued
 matures:endOk i ends
 n1:Amj i.fn i.fd=0
 n2:Amj i.cn i.cd=0
 n3:Amj i.sn i.sd=0
 own:P
theorem Ar1(i:Inst)(hs:i.sized)(hkd:¬(1≤i.kind∧i.kind≤5))(w:World)(ht:Tabs w):Calls Tryz.prog 83 #[i.enc] w (ChkPost w i.ok):=by
 obtain⟨W0,hW0,hB0,hz,hk⟩:=ibox i w
 obtain⟨c0,c1,c2,c3,c4,c5,c6,c7,c8,c9,c10,c11,c12,c13,c14⟩:=Acq hk
 have HB:=Aac hB0
 have HK:Hid (InstBox W0 w.heap.size i):=hk
 obtain⟨z1,z2,z3,z4,z5,z6,z7,z8,z9⟩:=hs
 have HT:=Aac ht
 have S1:=Aac (fun W=>Ak6 i.id (by omega) W)
 have S2:=Aac (fun W=>Amb i.cur (by omega) W)
 have S3:=Aac (fun W=>Amc i.issued W)
 have S4:=Aac (fun W=>Amc i.matures W)
 have N1:=Aac (fun W hW=>Amk i.fn i.fd (by omega) (by omega) W hW)
 have N2:=Aac (fun W hW=>Amk i.cn i.cd (by omega) (by omega) W hW)
 have N3:=Aac (fun W hW=>Amk i.sn i.sd (by omega) (by omega) W hW)
 clear hk hB0 hz z1 z2 z3 z4 z5 z6 z7 z8 z9 ht
 have HKD:=Aac hkd
 clear hkd
 unfold Inst.enc Inst.cells at *
 go_enter Tryz.func83,Tryz.ntmps83
 go_wp2_with fail
 refine (S1.out W0).mono ?_
 rintro e w1 ⟨rfl,b1⟩
 have hk1:=HK.out.below b1
 replace HB:=Aac (HB.out.trans (b1.mono HB.out.size))
 clear c0 c1 c2 c3 c4 c5 c6 c7 c8 c9 c10 c11 c12 c13 c14
 obtain⟨c0,c1,c2,c3,c4,c5,c6,c7,c8,c9,c10,c11,c12,c13,c14⟩:=Acq hk1
 replace HK:=Aac hk1
 clear b1 hk1 S1 hW0
 by_cases h1:Ak4 i.id=true
 case neg =>
  rw[Bool.not_eq_true] at h1
  rw[h1]
  have H:=Aac h1
  clear h1
  go_wp2_with fail
  go_ret
  exact ChkPost.bad (by decide) (fun h=>by have:=h.id;rw[H.out] at this;cases this) HB.out
 rw[h1]
 have Hh1:=Aac h1
 clear h1
 by_cases h2:i.kind<1
 ·have t2:decide (i.kind<1)=true:=Aax h2
  have H:=Aac h2
  clear h2
  go_wp2_with fail
  go_ret
  exact ChkPost.bad (by decide) (fun h=>HKD.out h.kind) HB.out
 have t2:decide (i.kind<1)=false:=Aay h2
 have t3:decide (5<i.kind)=true:=Aax (by have:=HKD.out;omega)
 clear h2
 go_wp2_with fail
 go_ret
 exact ChkPost.bad (by decide) (fun h=>HKD.out h.kind) HB.out
def LoopN(i:Inst)(k:Nat):Prop:=(1≤k→Amj i.fn i.fd=0)∧(2≤k→Amj i.cn i.cd=0)∧(3≤k→Amj i.sn i.sd=0)
theorem Ar2(i:Inst)(hs:i.sized)(ends:Bool)(f:Nat)(P:Prop)(hen:∀args w,(callFunc f args).run Tryz.prog w=.ok (.enter f args) w)
 (hix:∀w,Sem.run Tryz.prog (Instr.index 180 (Value.agg ruleCells) (.int .i64 i.kind)) w=.ok (.agg #[.bool ends,.func (.func f) #[] #[]]) w)
 (hf:∀W,Calls Tryz.prog f #[i.enc] W (ChkPost W P)) (hkd:1≤i.kind∧i.kind≤5) (w:World) (ht:Tabs w) :
 Calls Tryz.prog 83 #[i.enc] w (ChkPost w (ChkAll i ends P)):=by
 obtain⟨W0,hW0,hB0,hz,hk⟩:=ibox i w
 obtain⟨c0,c1,c2,c3,c4,c5,c6,c7,c8,c9,c10,c11,c12,c13,c14⟩:=Acq hk
 have HB:=Aac hB0
 have HK:Hid (InstBox W0 w.heap.size i):=hk
 obtain⟨z1,z2,z3,z4,z5,z6,z7,z8,z9⟩:=hs
 have HT:=Aac ht
 have S1:=Aac (fun W=>Ak6 i.id (by omega) W)
 have S2:=Aac (fun W=>Amb i.cur (by omega) W)
 have S3:=Aac (fun W=>Amc i.issued W)
 have S4:=Aac (fun W=>Amc i.matures W)
 have N1:=Aac (fun W hW=>Amk i.fn i.fd (by omega) (by omega) W hW)
 have N2:=Aac (fun W hW=>Amk i.cn i.cd (by omega) (by omega) W hW)
 have N3:=Aac (fun W hW=>Amk i.sn i.sd (by omega) (by omega) W hW)
 clear hk hB0 hz z1 z2 z3 z4 z5 z6 z7 z8 z9 ht
 have HF:=Aac hf
 have HKD:=Aac hkd
 have q1:decide (i.kind<1)=false:=Aay (by omega)
 have q2:decide (5<i.kind)=false:=Aay (by omega)
 clear hf hkd
 unfold Inst.enc Inst.cells at *
 go_enter Tryz.func83,Tryz.ntmps83
 go_wp2_with fail
 refine (S1.out W0).mono ?_
 rintro e w2 ⟨rfl,b1⟩
 have hk1:=HK.out.below b1
 replace HB:=Aac (HB.out.trans (b1.mono HB.out.size))
 clear c0 c1 c2 c3 c4 c5 c6 c7 c8 c9 c10 c11 c12 c13 c14
 obtain⟨c0,c1,c2,c3,c4,c5,c6,c7,c8,c9,c10,c11,c12,c13,c14⟩:=Acq hk1
 replace HK:=Aac hk1
 clear b1 hk1 S1 hW0
 by_cases h1:Ak4 i.id=true
 case neg =>
  rw[Bool.not_eq_true] at h1
  rw[h1]
  have H:=Aac h1
  clear h1
  go_wp2_with fail
  go_ret
  exact ChkPost.bad (by decide) (fun h=>by have:=h.id;rw[H.out] at this;cases this) HB.out
 rw[h1]
 have Hh1:=Aac h1
 clear h1
 go_wp2_with fail
 refine (S2.out _).mono ?_
 rintro e w3 ⟨rfl,b1⟩
 have hk1:=HK.out.below b1
 replace HB:=Aac (HB.out.trans (b1.mono HB.out.size))
 clear c0 c1 c2 c3 c4 c5 c6 c7 c8 c9 c10 c11 c12 c13 c14
 obtain⟨c0,c1,c2,c3,c4,c5,c6,c7,c8,c9,c10,c11,c12,c13,c14⟩:=Acq hk1
 replace HK:=Aac hk1
 clear b1 hk1 S2
 by_cases h2:Ak5 i.cur=true
 case neg =>
  rw[Bool.not_eq_true] at h2
  rw[h2]
  have H:=Aac h2
  clear h2
  go_wp2_with fail
  go_ret
  exact ChkPost.bad (by decide) (fun h=>by have:=h.cur;rw[H.out] at this;cases this) HB.out
 rw[h2]
 have Hh2:=Aac h2
 clear h2
 by_cases h3:i.places<0
 ·have t3:decide (i.places<0)=true:=Aax h3
  have H:=Aac h3
  clear h3
  go_wp2_with fail
  go_ret
  exact ChkPost.bad (by decide) (fun h=>by have:=h.places;have:=H.out;omega) HB.out
 by_cases h4:12<i.places
 ·have t3:decide (i.places<0)=false:=Aay h3
  have t4:decide (12<i.places)=true:=Aax h4
  have H:=Aac h4
  clear h3 h4
  go_wp2_with fail
  go_ret
  exact ChkPost.bad (by decide) (fun h=>by have:=h.places;have:=H.out;omega) HB.out
 have q3:decide (i.places<0)=false:=Aay h3
 have q4:decide (12<i.places)=false:=Aay h4
 have Hh3:=Aac (show 0≤i.places∧i.places≤12 by omega)
 clear h3 h4
 go_wp2_with fail
 refine (S3.out _).mono ?_
 rintro e w3 ⟨rfl,rfl⟩
 clear S3
 by_cases h5:okDay i.issued
 case neg =>
  rw[Aay h5]
  have H:=Aac h5
  clear h5
  go_wp2_with fail
  go_ret
  exact ChkPost.bad (by decide) (fun h=>H.out h.issued) HB.out
 rw[Aax h5]
 have Hh5:=Aac h5
 clear h5
 have HB2:=HB
 have HK2:=HK
 go_wp2_with fail
 go_cut [3] (fun v3 wx=>∃(B:Nat) (wr:World),v3=.pointer (some ⟨B,0,none⟩)∧RuleBox wr B ends f∧InstBox wr w.heap.size i∧Below w.heap.size w wr∧wr=wx)
 case first =>
  have hl3:w.heap.size<w3.heap.size:=Afs c1
  have ka:(w3.drew.alloc (.cells #[.bool false,.nilFunc] 179)).cell? ⟨w.heap.size,1,none⟩=some (.int .i64 i.kind):=by
   rw[Aaa (HK2.out.below ((Below.refl _ w3).drew.alloc (Aad _) _))];rfl
  go_region_with (go_at_call 150;refine (Amt _).mono ?_;rintro e w4 ⟨rfl,b4⟩;have kk:InstBox w4 w.heap.size i:=(by first|exact (show InstBox w3.drew _ _ from HK2.out).below b4|exact (HK2.out.below ((Below.refl _ w3).drew.alloc (Aad _) _)).below b4);have k1:w4.cell? ⟨w.heap.size,1,none⟩=some (.int .i64 i.kind):=(by rw[Aaa kk];rfl);have k2:(w4.alloc (.cells #[.bool false,.nilFunc] 179)).cell? ⟨w.heap.size,1,none⟩=some (.int .i64 i.kind):=(by rw[Aaa (kk.below ((Below.refl _ w4).alloc (Aad _) _))];rfl);have nb:(w4.alloc (.cells #[.bool false,.nilFunc] 179)).heap[w4.heap.size]?=some (.cells #[.bool false,.nilFunc] 179 (0,0)):=Aaz w4 _;have n0:=Aaa nb 0;have n1:=Aaa nb 1;have n2:=Aaf nb 0;have n3:=Aaf nb 1;simp at n0 n1 n2 n3;have NB:=Aac nb;clear nb;try (have rb:w4.heap[w3.heap.size]?=some (.cells #[.bool false,.nilFunc] 179 (0,0)):=(b4.block w3.heap.size (by simp)).trans (Aaz w3.drew _);have r0:=Aaa rb 0;have r1:=Aaa rb 1;have r2:=Aaf rb 0;have r3:=Aaf rb 1;simp at r0 r1 r2 r3;have RB:=Aac rb;clear rb);have KK:=Aac kk;have B4:=Aac b4;clear kk b4)
  all_goals (first|go_wp2_with fail|skip)
  all_goals go_meet
  all_goals first
   | (refine⟨w4.heap.size,_,rfl,Aaz w4 _,(show InstBox w4 w.heap.size i from by first|exact KK.out|assumption).below ((Below.refl _ w4).alloc (Aad _) _),?_,rfl⟩
      have q:=HB2.out.drew.trans ((show Below w3.drew.heap.size w3.drew w4 from by first|exact B4.out|assumption).mono HB2.out.size)
      exact q.alloc q.size _)
   | (refine⟨w3.heap.size,_,rfl,set2 RB.out _ _,(Below.heap_setCell _ _ _ _ (by simp;omega)).trans ((Below.heap_setCell _ _ _ _ (by simp;omega)).trans KK.out),?_,rfl⟩
      have q0:=HB2.out.drew.alloc HB2.out.size (Obj.cells #[.bool false,.nilFunc] 179)
      have q:=q0.trans (B4.out.mono (by have:=HB2.out.size;simp;omega))
      exact (q.setCell (p:=⟨w3.heap.size,0,none⟩) (by simp;have:=HB2.out.size;omega) _).setCell (p:=⟨w3.heap.size,1,none⟩) (by simp;have:=HB2.out.size;omega) _)
 case rest =>
  obtain⟨B,wr,rfl,hRB,hIB,hBB,rfl⟩:=hcut
  obtain⟨d0,d1,d2,d3,d4,d5,d6,d7,d8,d9,d10,d11,d12,d13,d14⟩:=Acq hIB
  have r0:=Aaa hRB 0
  have r1:=Aaa hRB 1
  simp at r0 r1
  have HRB:=Aac hRB
  have HIB:=Aac hIB
  have HBB:=Aac hBB
  clear hRB hIB hBB HB HK HB2 HK2
  clear c0 c1 c2 c3 c4 c5 c6 c7 c8 c9 c10 c11 c12 c13 c14
  go_upto_region 12 with fail
  obtain⟨bad,HM⟩:∃bad:Bool,Hid ((bad=true∧¬endOk i ends)∨(bad=false∧endOk i ends)):=by
   by_cases h:endOk i ends
   ·exact⟨false,.inr ⟨rfl,h⟩⟩
   ·exact⟨true,.inl ⟨rfl,h⟩⟩
  go_cut [68] (fun v wx=>v=.bool bad∧wr=wx)
  case first =>
   have hgood:endOk i ends→bad=false:=fun e=>HM.out.elim (fun h=>absurd e h.2) (fun h=>h.1)
   have hbad:¬endOk i ends→bad=true:=fun e=>HM.out.elim (fun h=>h.1) (fun h=>absurd h.2 e)
   clear HM
   unfold endOk at hgood hbad
   by_cases m0:i.matures=0
   ·rw[m0] at d5
    cases ends
    ·have hm:=hgood (.inl ⟨m0,rfl⟩)
     subst hm
     clear hgood hbad
     clear m0
     go_wp2_with fail
     go_meet
     exact⟨rfl,rfl⟩
    ·have hm:=hbad (by rintro (h|h);exact absurd h.2 (by decide);exact h.1 m0)
     subst hm
     clear hgood hbad
     clear m0
     go_wp2_with fail
     go_meet
     exact⟨rfl,rfl⟩
   ·have t1:(i.matures==0)=false:=Aaj.2 m0
    have t1':(i.matures != 0)=true:=by rw[bne,t1];rfl
    by_cases m1:okDay i.matures
    ·by_cases m2:i.matures≤i.issued
     ·have t2:decide (i.matures≤i.issued)=true:=Aax m2
      have hm:=hbad (by rintro (h|h);exact m0 h.1;have:=h.2.2;omega)
      subst hm
      clear hgood hbad
      clear m0 m2
      go_wp2_with fail
      refine (S4.out _).mono ?_
      rintro e w5 ⟨rfl,rfl⟩
      rw[Aax m1]
      go_wp2_with fail
      go_meet
      exact⟨rfl,rfl⟩
     ·have t2:decide (i.matures≤i.issued)=false:=Aay m2
      have hm:=hgood (.inr ⟨m0,m1,by omega⟩)
      subst hm
      clear hgood hbad
      clear m0 m2
      go_wp2_with fail
      refine (S4.out _).mono ?_
      rintro e w5 ⟨rfl,rfl⟩
      rw[Aax m1]
      go_wp2_with fail
      go_meet
      exact⟨rfl,rfl⟩
    ·have hm:=hbad (by rintro (h|h);exact m0 h.1;exact m1 h.2.1)
     subst hm
     clear hgood hbad
     clear m0
     go_wp2_with fail
     refine (S4.out _).mono ?_
     rintro e w5 ⟨rfl,rfl⟩
     rw[Aay m1]
     go_wp2_with fail
     go_meet
     exact⟨rfl,rfl⟩
  case rest =>
   obtain⟨rfl,rfl⟩:=hcut
   cases bad
   case true =>
    go_wp2_with fail
    go_ret
    exact ChkPost.bad (by decide) (fun h=>HM.out.elim (fun x=>x.2 h.matures) (fun x=>Bool.noConfusion x.1)) HBB.out
   have HE:Hid (endOk i ends):=HM.out.elim (fun x=>Bool.noConfusion x.1) (fun x=>x.2)
   clear HM
   obtain⟨W5,hW5⟩:∃W5,wr.alloc (.cells (Amu i) 25)=W5:=⟨_,rfl⟩
   have kS:NsBox W5 wr.heap.size i:=by rw[←hW5];exact Aaz wr _
   have b5:Below wr.heap.size wr W5:=by rw[←hW5];exact (Below.refl _ wr).alloc (Aad _) _
   have hsz:w.heap.size≤wr.heap.size:=HBB.out.size
   have HS5:Hid (LoopS w wr.heap.size B ends f i W5):=⟨kS,HRB.out.below b5,HIB.out.below b5,HBB.out.trans (b5.mono hsz)⟩
   clear kS b5 S4 HRB HIB HBB
   clear r0 r1
   clear d0 d1 d2 d3 d4 d5 d10 d11 d12
   unfold Amu at hW5
   go_wp2_with fail
   go_loopw [77] (fun v wx=>∃k:Nat,v=.int .i64 (k:Int)∧k≤3∧LoopN i k∧LoopS w wr.heap.size B ends f i wx) (fun v _=>3-(intOf v).toNat)
   case atStart=>exact⟨0,rfl,by omega,⟨fun h=>by omega,fun h=>by omega,fun h=>by omega⟩,HS5.out⟩
   case round =>
    obtain⟨k,rfl,hk3,hLN,hL⟩:=hrel
    clear HS5 hW5
    have n0:=Aaa hL.ns 0
    have n1:=Aaa hL.ns 1
    have n2:=Aaa hL.ns 2
    have n3:=Aaa hL.ns 3
    have n4:=Aaa hL.ns 4
    have n5:=Aaa hL.ns 5
    simp at n0 n1 n2 n3 n4 n5
    have HL:=Aac hL
    have HLN:=Aac hLN
    clear hLN
    rcases (show k=0∨k=1∨k=2∨k=3 from by omega) with rfl|rfl|rfl|rfl
    ·clear hL
     go_wp2_with fail
     refine (N1.out _ (HT.out.below (HL.out.be.trans (((Below.refl _ _).alloc (Aad _) _).mono HL.out.be.size)))).mono ?_
     rintro e w6 ⟨rfl,b6⟩
     have HL6:=Aac ((HL.out.below ((Below.refl _ _).alloc (Aad _) _)).below b6)
     clear b6
     by_cases hn:Amj i.fn i.fd=0
     case neg =>
      have tn:(Amj i.fn i.fd==0)=false:=Aaj.2 hn
      have tn':(Amj i.fn i.fd != 0)=true:=by rw[bne,tn];rfl
      have H:=Aac hn
      clear hn
      go_wp2_with fail
      go_ret
      exact ChkPost.bad H.out (fun h=>H.out h.n1) HL6.out.be
     have HN:=Aac hn
     rw[hn]
     clear hn
     go_wp2_with fail
     go_roundw
     case rel=>exact⟨1,rfl,by omega,⟨fun _=>HN.out,fun h=>by omega,fun h=>by omega⟩,HL6.out⟩
     case measure=>simp[intOf]
    ·clear hL
     go_wp2_with fail
     refine (N2.out _ (HT.out.below (HL.out.be.trans (((Below.refl _ _).alloc (Aad _) _).mono HL.out.be.size)))).mono ?_
     rintro e w6 ⟨rfl,b6⟩
     have HL6:=Aac ((HL.out.below ((Below.refl _ _).alloc (Aad _) _)).below b6)
     clear b6
     by_cases hn:Amj i.cn i.cd=0
     case neg =>
      have tn:(Amj i.cn i.cd==0)=false:=Aaj.2 hn
      have tn':(Amj i.cn i.cd != 0)=true:=by rw[bne,tn];rfl
      have H:=Aac hn
      clear hn
      go_wp2_with fail
      go_ret
      exact ChkPost.bad H.out (fun h=>H.out h.n2) HL6.out.be
     have HN:=Aac hn
     rw[hn]
     clear hn
     go_wp2_with fail
     go_roundw
     case rel=>exact⟨2,rfl,by omega,⟨fun _=>HLN.out.1 (by omega),fun _=>HN.out,fun h=>by omega⟩,HL6.out⟩
     case measure=>simp[intOf]
    ·clear hL
     go_wp2_with fail
     refine (N3.out _ (HT.out.below (HL.out.be.trans (((Below.refl _ _).alloc (Aad _) _).mono HL.out.be.size)))).mono ?_
     rintro e w6 ⟨rfl,b6⟩
     have HL6:=Aac ((HL.out.below ((Below.refl _ _).alloc (Aad _) _)).below b6)
     clear b6
     by_cases hn:Amj i.sn i.sd=0
     case neg =>
      have tn:(Amj i.sn i.sd==0)=false:=Aaj.2 hn
      have tn':(Amj i.sn i.sd != 0)=true:=by rw[bne,tn];rfl
      have H:=Aac hn
      clear hn
      go_wp2_with fail
      go_ret
      exact ChkPost.bad H.out (fun h=>H.out h.n3) HL6.out.be
     have HN:=Aac hn
     rw[hn]
     clear hn
     go_wp2_with fail
     go_roundw
     case rel=>exact⟨3,rfl,by omega,⟨fun _=>HLN.out.1 (by omega),fun _=>HLN.out.2.1 (by omega),fun _=>HN.out⟩,HL6.out⟩
     case measure=>simp[intOf]
    ·have r0:=Aaa hL.rb 0
     have r1:=Aaa hL.rb 1
     simp at r0 r1
     obtain⟨d0,d1,d2,d3,d4,d5,d6,d7,d8,d9,d10,d11,d12,d13,d14⟩:=Acq hL.ib
     clear hL
     go_wp2_with fail
     refine (HF.out _).mono ?_
     rintro e w7 ⟨n,rfl,hn,b7⟩
     have HN:=Aac hn
     clear hn
     go_wp2_with fail
     go_ret
     exact⟨n,rfl,HN.out.trans ⟨fun p=>⟨Hh1.out,HKD.out,Hh2.out,Hh3.out,Hh5.out,HE.out,HLN.out.1 (by omega),HLN.out.2.1 (by omega),HLN.out.2.2 (by omega),p⟩,fun h=>h.own⟩,HL.out.be.trans (b7.mono HL.out.be.size)⟩
theorem ChkPost.iff{w:World}{P Q:Prop}{e:Ending}{w':World}(h:ChkPost w P e w')(hq:P↔Q):ChkPost w Q e w':=by
 obtain⟨n,h1,h2,h3⟩:=h
 exact⟨n,h1,h2.trans hq,h3⟩
theorem ChkAll.plain{i:Inst}(h2:i.kind≠2)(h5:i.kind≠5):ChkAll i false (Amn i)↔i.ok :=
 ⟨fun h=>⟨h.id,h.kind,h.cur,h.places,h.issued,h.matures.imp (fun x=>⟨x.1,h2,h5⟩) (fun x=>x),h.n1,h.n2,h.n3,fun _ _=>h.own,fun e=>absurd e h2,fun e=>absurd e h5⟩,
  fun h=>⟨h.id,h.kind,h.cur,h.places,h.issued,h.matures.imp (fun x=>⟨x.1,rfl⟩) (fun x=>x),h.n1,h.n2,h.n3,h.plain h2 h5⟩⟩
theorem ChkAll.bond{i:Inst}(h2:i.kind=2):ChkAll i true (Amq i)↔i.ok :=
 ⟨fun h=>⟨h.id,h.kind,h.cur,h.places,h.issued,.inr (h.matures.resolve_left (fun x=>Bool.noConfusion x.2)),h.n1,h.n2,h.n3,fun e=>absurd h2 e,fun _=>h.own,fun e=>by omega⟩,
  fun h=>⟨h.id,h.kind,h.cur,h.places,h.issued,.inr (h.matures.resolve_left (fun x=>x.2.1 h2)),h.n1,h.n2,h.n3,h.bond h2⟩⟩
theorem ChkAll.fwd{i:Inst}(h5:i.kind=5):ChkAll i true (fwdOk i)↔i.ok :=
 ⟨fun h=>⟨h.id,h.kind,h.cur,h.places,h.issued,.inr (h.matures.resolve_left (fun x=>Bool.noConfusion x.2)),h.n1,h.n2,h.n3,fun _ e=>absurd h5 e,fun e=>by omega,fun _=>h.own⟩,
  fun h=>⟨h.id,h.kind,h.cur,h.places,h.issued,.inr (h.matures.resolve_left (fun x=>x.2.2 h5)),h.n1,h.n2,h.n3,h.fwd h5⟩⟩
theorem Ar3(i:Inst)(hs:i.sized)(w:World)(ht:Tabs w):Calls Tryz.prog 83 #[i.enc] w (ChkPost w i.ok):=by
 by_cases hk:1≤i.kind∧i.kind≤5
 case neg=>exact Ar1 i hs hk w ht
 rcases (show i.kind=1∨i.kind=2∨i.kind=3∨i.kind=4∨i.kind=5 from by omega) with hi|hi|hi|hi|hi
 ·exact (Ar2 i hs false 211 _ (enters_of Tryz.func211 (by kernel_rfl) rfl) (Amw 1 _ _ (fun _=>by kernel_rfl) i hi) (fun W=>Arw i hs W) hk w ht).mono (fun _ _ h=>h.iff (ChkAll.plain (by omega) (by omega)))
 ·exact (Ar2 i hs true 212 _ (enters_of Tryz.func212 (by kernel_rfl) rfl) (Amw 2 _ _ (fun _=>by kernel_rfl) i hi) (fun W=>Ar0 i hs W) hk w ht).mono (fun _ _ h=>h.iff (ChkAll.bond hi))
 ·exact (Ar2 i hs false 211 _ (enters_of Tryz.func211 (by kernel_rfl) rfl) (Amw 3 _ _ (fun _=>by kernel_rfl) i hi) (fun W=>Arw i hs W) hk w ht).mono (fun _ _ h=>h.iff (ChkAll.plain (by omega) (by omega)))
 ·exact (Ar2 i hs false 211 _ (enters_of Tryz.func211 (by kernel_rfl) rfl) (Amw 4 _ _ (fun _=>by kernel_rfl) i hi) (fun W=>Arw i hs W) hk w ht).mono (fun _ _ h=>h.iff (ChkAll.plain (by omega) (by omega)))
 ·exact (Ar2 i hs true 213 _ (enters_of Tryz.func213 (by kernel_rfl) rfl) (Amw 5 _ _ (fun _=>by kernel_rfl) i hi) (fun W=>Arx i hs W) hk w ht).mono (fun _ _ h=>h.iff (ChkAll.fwd hi))
theorem Ar4(n₀:Nat)(i:Inst)(A:Option Addr)(ls:List SLot)(c:Nat)(hc:ls.length≤c)(d:Int)(h:AOk i ls d)(w:World)(hR:RdB n₀ w A ls)(hn:n₀≤w.heap.size)(ht:Tabs w):
 Calls Tryz.prog 22 #[i.enc,.slice A ls.length c,.int .i64 d] w fun e w'=>e=.returned (.tuple #[.string (I (rnd (qsum ((ownL ls i.id).map fun l=>Apv i l.1 d)))),.int .i64 0])∧Below w.heap.size w w':=by
 obtain⟨W0,hW0,hB0,hz,hk⟩:=ibox i w
 obtain⟨c0,c1,c2,c3,c4,c5,c6,c7,c8,c9,c10,c11,c12,c13,c14⟩:=Acq hk
 have HT:=hI ht
 have HB0:=hI hB0
 have HK0:Hid (InstBox W0 w.heap.size i):=hk
 have HC1:=hI (Aqm n₀ i A ls c hc d h W0 (hR.below (hB0.mono hn)) (Aap hn hB0.size) (ht.below hB0))
 have HS:=hI (fun (W:World) bl bi bd (hb:Below w.heap.size w W) (k0:Boxed W bl 45 (.slice A ls.length c)) (k1:InstBox W bi i) (k2:Boxed W bd 22 (.int .i64 d))=>Aqk n₀ bl bi bd A ls c i d W h.len h.ex h.opn k0 k1 k2 (hR.below (hb.mono hn)) (Aap hn hb.size) (ht.below hb))
 have hbd:BdQ (qsum ((ownL ls i.id).map fun l=>Apv i l.1 d)) (100*(qB+1)+1):=by
  have e:((ownL ls i.id).map fun l=>Apv i l.1 d)=((ownL ls i.id).attach.map (fun l=>(⟨Apv i l.1.1 d,Aqd i l.1.1 d h.ex l.1.2 (h.opn _ (List.mem_filter.1 l.2).1)⟩:SQ))).map Subtype.val:=by
   rw[List.map_map]
   conv=>lhs;rw[←List.attach_map_subtype_val (ownL ls i.id),List.map_map]
   rfl
  rw[e]
  refine (Aqi _).mono ?_
  rw[Aar,List.length_attach]
  have:(ownL ls i.id).length≤99:=Aap (List.length_filter_le _ _) h.len
  have:=Nat.mul_le_mul_right (qB+1) (show (ownL ls i.id).length≤100 by omega)
  omega
 have HR:=hI (fun W hW=>Aps hbd (by unfold qB;omega) W hW)
 generalize qsum ((ownL ls i.id).map fun l=>Apv i l.1 d)=rq at HS HR ⊢
 clear hbd h hR ht hB0 hk hz
 unfold Inst.enc Inst.cells at *
 go_enter Tryz.func22,Tryz.ntmps22
 go_wp2_with fail
 refine HC1.out.mono ?_
 rintro e w1 ⟨rfl,b1⟩
 have HB1:=hI (HB0.out.trans (b1.mono HB0.out.size))
 have hk1:=HK0.out.below b1
 clear c0 c1 c2 c3 c4 c5 c6 c7 c8 c9 c10 c11 c12 c13 c14
 obtain⟨c0,c1,c2,c3,c4,c5,c6,c7,c8,c9,c10,c11,c12,c13,c14⟩:=Acq hk1
 have HK1:=hI hk1
 clear b1 hk1 HB0 HK0 HC1 hW0
 have HAM:=hI (Aqg i A ls.length c d w1)
 unfold Inst.enc Inst.cells at HAM
 go_wp2_with fail
 refine HAM.out.mono ?_
 rintro e w2 ⟨rfl,hw2⟩
 obtain⟨W2,hW2,hb2,hs2,k0,k1,k2⟩:=box3 w1 (.cells i.cells 27) (.cells #[.slice A ls.length c] 45) (.cells #[.int .i64 d] 22)
 unfold Inst.cells at hW2
 obtain rfl:W2=w2:=by rw[hW2,hw2]
 have HB2:=hI (HB1.out.trans (hb2.mono HB1.out.size))
 have HSS:=hI (HS.out W2 _ _ _ HB2.out k1 k0 k2)
 clear c0 c1 c2 c3 c4 c5 c6 c7 c8 c9 c10 c11 c12 c13 c14
 clear hw2 hW2 hb2 hs2 k0 k1 k2 HS HAM
 rw[fenc_z0] at HSS
 go_wp2_with fail
 refine HSS.out.mono ?_
 rintro e w3 ⟨rfl,b3⟩
 have HB3:=hI (HB2.out.trans (b3.mono HB2.out.size))
 clear b3 HSS HB2
 go_wp2_with fail
 refine (HR.out _ (HT.out.below HB3.out)).mono ?_
 rintro e w4 ⟨rfl,b4⟩
 have B4:=HB3.out.trans (b4.mono HB3.out.size)
 clear b4
 go_wp2_with fail
 go_ret2
 exact⟨rfl,B4⟩
theorem Ar5(n₀:Nat)(i:Inst)(A:Option Addr)(ls:List SLot)(c:Nat)(hc:ls.length≤c)(d:Int)(h:AOk i ls d)(w:World)(hR:RdB n₀ w A ls)(hn:n₀≤w.heap.size)(ht:Tabs w)(z1:(I (rnd (qsum ((ownL ls i.id).map fun l=>Apv i l.1 d)))).size≤4000000):
 Calls Tryz.prog 24 #[i.enc,.slice A ls.length c,.int .i64 d] w fun e w'=>e=.returned (.tuple #[.string (I (sumBy costOf (ownL ls i.id)+rnd (qsum ((ownL ls i.id).map fun l=>Apv i l.1 d)))),.int .i64 0])∧Below w.heap.size w w':=by
 obtain⟨W0,hW0,hB0,hz,hk⟩:=ibox i w
 obtain⟨c0,c1,c2,c3,c4,c5,c6,c7,c8,c9,c10,c11,c12,c13,c14⟩:=Acq hk
 have HT:=hI ht
 have HB0:=hI hB0
 have HK0:Hid (InstBox W0 w.heap.size i):=hk
 have HC1:=hI (Ar4 n₀ i A ls c hc d h W0 (hR.below (hB0.mono hn)) (Aap hn hB0.size) (ht.below hB0))
 have HC2:=hI (fun W (hb:Below w.heap.size w W)=>lTotal_any n₀ A ls c i.id W (by have:=h.len;omega) (hR.below (hb.mono hn)) (Aap hn hb.size) (ht.below hb))
 obtain⟨K,hK⟩:∃K,K=1000:=⟨_,rfl⟩
 have zc:=sumBy_size (cost_lt hK) (ownL ls i.id) (by have:(ownL ls i.id).length≤99:=Aap (List.length_filter_le _ _) h.len;omega)
 have zc':(I (sumBy costOf (ownL ls i.id))).size≤4000000:=by omega
 have HAD:=hI (fun W hW=>Agg (I (sumBy costOf (ownL ls i.id))) (I (rnd (qsum ((ownL ls i.id).map fun l=>Apv i l.1 d)))) W (by omega) (by omega) hW)
 rw[vl_I,vl_I] at HAD
 generalize sumBy costOf (ownL ls i.id)=sc at *
 generalize sumBy qtyOf (ownL ls i.id)=sq at *
 generalize rnd (qsum ((ownL ls i.id).map fun l=>Apv i l.1 d))=rq at *
 clear h hR ht hB0 hk hz zc hK
 unfold Inst.enc Inst.cells at *
 go_enter Tryz.func24,Tryz.ntmps24
 go_wp2_with fail
 refine HC1.out.mono ?_
 rintro e w1 ⟨rfl,b1⟩
 have HB1:=hI (HB0.out.trans (b1.mono HB0.out.size))
 have hk1:=HK0.out.below b1
 clear c0 c1 c2 c3 c4 c5 c6 c7 c8 c9 c10 c11 c12 c13 c14
 have c0:=Aaa hk1 0
 simp at c0
 clear b1 hk1 HB0 HK0 HC1 hW0
 go_wp2_with fail
 refine (HC2.out _ HB1.out).mono ?_
 rintro e w2 ⟨rfl,b2⟩
 have HB2:=hI (HB1.out.trans (b2.mono HB1.out.size))
 clear b2 HB1 c0
 go_wp2_with fail
 refine (HAD.out _ (HT.out.below HB2.out)).mono ?_
 rintro e w3 ⟨rfl,b3⟩
 have B3:=HB2.out.trans (b3.mono HB2.out.size)
 clear b3
 go_wp2_with fail
 go_ret2
 exact⟨rfl,B3⟩
theorem Ar6(A:Option Addr)(ls:List Lot)(c:Nat)(hcap:ls.length≤c)(hlm:ls.length≤9223372036854775807)(hti:∀l∈ls,l.tiny)(w:World)(hR:RdL w A ls):
 Calls Tryz.prog 76 #[.slice A ls.length c] w fun e w'=>e=.returned (.int .i64 (lall ls))∧Below w.heap.size w w':=by
 have HR:=hI hR
 have HTI:=hI hti
 clear hR hti
 by_cases hgr:1000<ls.length
 ·have t0:decide ((1000:Int)<(ls.length:Int))=true:=Aax (by omega)
  have HG:=hI (Aqt hgr)
  clear hgr
  go_enter Tryz.func76,Tryz.ntmps76
  go_wp2_with fail
  go_ret
  exact⟨by rw[HG.out];rfl,Below.refl _ _⟩
 have hlen:ls.length≤1000:=by omega
 have t0:decide ((1000:Int)<(ls.length:Int))=false:=Aay (by omega)
 clear hgr
 go_enter Tryz.func76,Tryz.ntmps76
 go_wp2_with fail
 go_loopw [3,4,5,6,24] (fun v _ _ _ _ wr=>∃k:Nat,v=.int .i64 (k:Int)∧k≤ls.length∧lallF (ls.take k) (ls.drop k)=lall ls∧Below w.heap.size w wr) (fun v _ _ _ _ _=>ls.length-(intOf v).toNat)
 case atStart=>exact⟨0,rfl,by omega,Aqr hlen,Below.refl _ _⟩
 case round =>
  obtain⟨k,rfl,hk,hg,hb⟩:=hrel
  have HG:=hI hg
  have HB:=hI hb
  clear hg hb
  rcases Aam k ls.length with hlt|hge
  ·obtain⟨l,hl⟩:∃l,ls[k]?=some l:=⟨_,Aae hlt⟩
   have HR2:=hI HR.out
   obtain⟨ad,rfl,had,hcell⟩:=HR.out (by intro e;rw[e] at hlt;cases hlt)
   have hcx:decide ((k:Int)<(ls.length:Int))=true:=by simp;omega
   have HCE:=hI (hcell k l hl)
   have HAD:=hI had
   obtain⟨c0,c1,c2,c3,c4,c5,c6⟩:=(hcell k l hl).below HB.out (by rw[Acj];exact had)
   have HSN:=hI (Aqn hl)
   have hlt1:=HTI.out l (Aas hl)
   have HAT:=hI (Aqq hlen HG.out hl)
   have HC:=hI (fun W=>Ape l hlt1 W)
   clear hcell hl hlt1 had
   go_wp2_with fail
   refine (HC.out _).mono ?_
   rintro e w1 ⟨rfl,b1⟩
   obtain⟨n,hn⟩:∃n,lchk l=n:=⟨_,rfl⟩
   rw[hn]
   rw[hn] at HAT
   have HB1:=hI (HB.out.trans (b1.mono HB.out.size))
   clear b1 c0 c1 c2 c3 c4 c5 c6
   by_cases h0:n=0
   case neg =>
    have t1:(n==0)=false:=Aaj.2 h0
    have t2:(n != 0)=true:=by simp[bne,t1]
    have H0:=hI h0
    clear h0 hn
    go_wp2_with fail
    go_ret
    exact⟨by rw[HAT.out.1 H0.out];rfl,HB1.out⟩
   clear hn
   subst h0
   obtain⟨c0,c1,c2,c3,c4,c5,c6⟩:=HCE.out.below HB1.out (by rw[Acj];exact HAD.out)
   have HF:=hI (fun n=>Ahc (Anx (some ad) ls k c (by omega) (by omega) l.id (w1.drewN n) ((HR2.out.below HB1.out).drewN n)))
   have HFF:=hI (findR_false (ls.take k) l.id 0)
   have HFT:=hI (fun (h:∀x∈ls.take k,x.id≠l.id)=>congrArg Prod.snd (Anv h 0))
   clear HC
   go_wp2_with fail
   generalize findR (ls.take k) l.id 0=fr at HF HFF HFT
   obtain⟨fn,fb⟩:=fr
   go_quiet ((go_at_call 140;exact HF.out _))
   cases fb
   ·have HNE:=hI (HFF.out rfl)
    go_wp2_with fail
    go_roundw
    case rel =>
     exact⟨k+1,by go_num,by omega,HAT.out.2.2 (by trivial) (fun h=>by obtain⟨x,hx,e⟩:=List.mem_map.1 h;exact HNE.out x hx e),Acp HB1.out _⟩
    case measure=>simp[intOf];omega
   ·go_wp2_with fail
    go_ret
    refine⟨?_,Acp HB1.out _⟩
    rw[HAT.out.2.1 (by trivial) (Classical.byContradiction (fun hn=>by
     have:=HFT.out (fun x hx e=>hn (List.mem_map.2 ⟨x,hx,e⟩))
     cases this))]
    rfl
  ·have hcx:decide ((k:Int)<(ls.length:Int))=false:=by simp;omega
   have hkm:k=ls.length:=by omega
   subst hkm
   go_wp2_with fail
   go_ret
   exact⟨by rw[Aqs HG.out];rfl,HB.out⟩
abbrev TP(w:World)(p:Rat)(W:World):Prop:=BX w [(w.heap.size,fobj p),(w.heap.size+1,fz)] W
theorem TP.calls{w:World}{p:Rat}{f:Nat}{args:Array Value}{v:Value}(h:∀W,Calls Tryz.prog f args W fun e w'=>e=.returned v∧Below W.heap.size W w'):
 ∀W,TP w p W→Calls Tryz.prog f args W fun e wn=>e=.returned v∧TP w p wn∧(wn.cell? ⟨w.heap.size,0,none⟩=some (.string (I p.num))∧wn.cell? ⟨w.heap.size,1,none⟩=some (.string (dn p)))∧wn.cell? ⟨w.heap.size+1,0,none⟩=some (.string ⟨#[]⟩)∧wn.cell? ⟨w.heap.size+1,1,none⟩=some (.string ⟨#[]⟩)∧wn.frozen? ⟨w.heap.size+1,0,none⟩=false∧wn.frozen? ⟨w.heap.size+1,1,none⟩=false:=by
 intro W hW
 refine (h W).mono ?_
 rintro e wn ⟨rfl,bn⟩
 have hn:=hW.below bn
 exact⟨rfl,hn,⟨Aaa (hn.get 0 rfl) 0,Aaa (hn.get 0 rfl) 1⟩,Aaa (hn.get 1 rfl) 0,Aaa (hn.get 1 rfl) 1,Aaf (hn.get 1 rfl) 0,Aaf (hn.get 1 rfl) 1⟩
theorem Ar7{p:Rat}{k:Nat}(h:BdQ p k)(a:ByteArray)(ha:a.size+1≤k)(hk:k≤20000)(w:World):Calls Tryz.prog 69 #[fenc p,.string a] w fun e w'=>e=.returned (fenc (p*(vl a:Rat)))∧Below w.heap.size w w':=by
 have ba:BdQ (vl a:Rat) k:=BdQ.int (Aah (vl_lt _) (Ac8 (by omega))) (by omega)
 have C1:=fun W=>Aq0 a (by omega) W
 have C2:=fun W=>Aq1 h ba hk W
 have HC1:=Aac (TP.calls (w:=w) (p:=p) C1)
 have HC2:=Aac (TP.calls (w:=w) (p:=p) C2)
 obtain⟨rn,hrn⟩:∃rn:Rat,((vl a:Int):Rat)=rn:=⟨_,rfl⟩
 obtain⟨rq,hrq⟩:∃rq,p*rn=rq:=⟨_,rfl⟩
 rw[hrn] at HC1 HC2 ⊢
 rw[hrq] at HC2 ⊢
 have ha':a.size≤20000:=by omega
 clear h hk C1 C2 hrn hrq ha ba
 obtain⟨W0,hW0,hb0,hs0,k0,k1⟩:=box2 w (.cells #[.string (I p.num),.string (dn p)] 25) (.cells #[.string ⟨#[]⟩,.string ⟨#[]⟩] 25)
 have hg0:TP w p W0:=⟨hb0,fun x hx=>by
  rcases List.mem_cons.1 hx with rfl|hx
  ·exact k0
  ·rcases List.mem_cons.1 hx with rfl|hx
   ·exact k1
   ·cases hx⟩
 have b0:=Aaa k0 0
 have b1:=Aaa k0 1
 simp at b0 b1
 clear hb0 k0 k1 hs0
 unfold fenc at HC1 HC2 ⊢
 go_enter Tryz.func69,Tryz.ntmps69
 go_wp2_with fail
 rw[←hW0]
 clear hW0
 have hg:TP w p W0.drew:=hg0.below (Below.refl _ _).drew
 clear hg0
 go_region_held3 (fun W=>W.cell? ⟨w.heap.size,0,none⟩=some (.string (I p.num))∧W.cell? ⟨w.heap.size,1,none⟩=some (.string (dn p)))
  (((try dsimp only);refine⟨?_,?_⟩<;>first|assumption|(go_simp;done)))
  (first
    | (go_at_call 124;refine (HC1.out _ hg).mono ?_;clear hg b0 b1;rintro e wn ⟨rfl,hg,⟨b0,b1⟩,m0,m1,f0,f1⟩)
    | (go_at_call 123;refine (HC2.out _ hg).mono ?_;clear hg b0 b1;rintro e wn ⟨rfl,hg,⟨b0,b1⟩,m0,m1,f0,f1⟩))
 go_wp2_with fail
 have k2:=Go.Proofs.YtcnmoobojdopgaaGreatDoor.set2 (hg.get 1 rfl) (.string (I rq.num)) (.string (dn rq))
 have j0:=Aaa k2 0
 have j1:=Aaa k2 1
 simp at j0 j1
 refine bodyPost_ret (v:=.agg #[.string (I rq.num),.string (dn rq)]) (by simp[results,Tryz.results69,go_sem,j0,j1]) rfl ?_
 exact⟨rfl,Ah0 (by omega) hg.1 _ _⟩
theorem Ar8{p:Rat}{k:Nat}(h:BdQ p k)(hk1:1≤k)(hk:k≤9000)(w:World):Calls Tryz.prog 68 #[fenc p] w fun e w'=>e=.returned (.string (I (rnd p)))∧Below w.heap.size w w':=by
 obtain⟨W0,hW0⟩:∃W0,w.alloc (fobj p)=W0:=⟨_,rfl⟩
 have HB:Hid (Below w.heap.size w W0):=by rw[Hid,←hW0];exact (Below.refl _ w).alloc (Aad _) _
 have k0:W0.heap[w.heap.size]?=some (fobj p):=by rw[←hW0];exact Aaz w _
 have b0:=Aaa k0 0
 have b1:=Aaa k0 1
 simp at b0 b1
 have H:=fun W=>Arf h hk1 hk W
 unfold fenc at H ⊢
 replace H:=Aac H
 clear h hk1 hk k0
 go_enter Tryz.func68,Tryz.ntmps68
 go_wp2_with fail
 try rw[hW0]
 refine (H.out _).mono ?_
 rintro e w1 ⟨rfl,b1'⟩
 replace HB:=Aac (HB.out.trans (b1'.mono HB.out.size))
 clear b1' b0 b1
 go_wp2_with fail
 go_ret
 exact⟨rfl,HB.out⟩
theorem Ar9(d:Int)(w:World):Calls Tryz.prog 119 #[.int .i64 d] w fun e w'=>e=.returned (.bool (decide (okDay d)))∧w=w':=by
 by_cases h:okDay d
 ·rw[Aax h]
  unfold okDay at h
  have c1:decide (d≥-25567)=true:=Aax (by omega)
  have c2:decide (d≤84005)=true:=Aax (by omega)
  go_enter Tryz.func119,Tryz.ntmps119
  go_wp2_with fail
  all_goals first|(exfalso;omega)|(go_ret;exact⟨rfl,rfl⟩)
 ·rw[Aay h]
  unfold okDay at h
  by_cases h1:-25567≤d
  ·have c1:decide (d≥-25567)=true:=Aax (by omega)
   have c2:decide (d≤84005)=false:=Aay (by omega)
   go_enter Tryz.func119,Tryz.ntmps119
   go_wp2_with fail
   all_goals first|(exfalso;omega)|(go_ret;exact⟨rfl,rfl⟩)
  ·have c1:decide (d≥-25567)=false:=Aay (by omega)
   go_enter Tryz.func119,Tryz.ntmps119
   go_wp2_with fail
   all_goals first|(exfalso;omega)|(go_ret;exact⟨rfl,rfl⟩)
theorem Asa(i:Inst)(l:Lot)(d:Int)(h:i.kind≠2∨d<l.opn)(w:World):
 Calls Tryz.prog 73 #[i.enc,l.enc,.int .i64 d] w fun e w'=>e=.returned (fenc (Apv i l d))∧Below w.heap.size w w':=by
 have HQ:Hid (Apv i l d=0):=by unfold Apv;rw[Hid,if_pos h]
 rw[HQ.out]
 have hG:=EG.start w i l
 obtain⟨W0,hW0⟩:∃W0,((w.alloc (.cells i.cells 27)).alloc (.cells l.cells 63)).alloc (.cells #[.string ⟨#[]⟩,.string ⟨#[]⟩] 25)=W0:=⟨_,rfl⟩
 rw[hW0] at hG
 have c1:=Aaa hG.ib 1
 have o3:=Aaa hG.lb 3
 have r0:=Aaa hG.rb 0
 have r1:=Aaa hG.rb 1
 have f0:=Aaf hG.rb 0
 have f1:=Aaf hG.rb 1
 simp at c1 o3 r0 r1 f0 f1
 have HG:=Aac hG
 clear hG
 unfold Inst.enc Inst.cells Lot.enc Lot.cells at *
 by_cases hk:i.kind=2
 ·have t1:(i.kind != 2)=false:=by simp[hk]
  have t2:decide (d<l.opn)=true:=Aax (h.resolve_left (fun x=>x hk))
  clear h hk
  go_enter Tryz.func73,Tryz.ntmps73
  go_wp2_with fail
  have hd:=HG.out.done 0
  rw[show I (0:Rat).num=⟨#[]⟩ from rfl,show dn 0=⟨#[]⟩ from rfl] at hd
  generalize (W0.setCell ⟨w.heap.size+1+1,0,none⟩ (.string ⟨#[]⟩)).setCell ⟨w.heap.size+1+1,1,none⟩ (.string ⟨#[]⟩)=W9 at hd ⊢
  have m0:=Aaa hd.1 0
  have m1:=Aaa hd.1 1
  simp at m0 m1
  exact bodyPost_ret (v:=.agg #[.string ⟨#[]⟩,.string ⟨#[]⟩]) (by simp[results,Tryz.results73,go_sem,m0,m1]) rfl ⟨rfl,hd.2⟩
 ·have t1:(i.kind != 2)=true:=by simp[hk]
  clear h hk
  go_enter Tryz.func73,Tryz.ntmps73
  go_wp2_with fail
  have hd:=HG.out.done 0
  rw[show I (0:Rat).num=⟨#[]⟩ from rfl,show dn 0=⟨#[]⟩ from rfl] at hd
  generalize (W0.setCell ⟨w.heap.size+1+1,0,none⟩ (.string ⟨#[]⟩)).setCell ⟨w.heap.size+1+1,1,none⟩ (.string ⟨#[]⟩)=W9 at hd ⊢
  have m0:=Aaa hd.1 0
  have m1:=Aaa hd.1 1
  simp at m0 m1
  exact bodyPost_ret (v:=.agg #[.string ⟨#[]⟩,.string ⟨#[]⟩]) (by simp[results,Tryz.results73,go_sem,m0,m1]) rfl ⟨rfl,hd.2⟩
theorem Asb(i:Inst)(l:Lot)(d:Int)(hk:i.kind=2)(ho:l.opn≤d)(s1:i.fn.size≤1000)(s2:i.fd.size≤1000)(s3:l.qty.size≤1000)(s4:l.cost.size≤1000)
 (hcq:CanQ i.fn i.fd) (e1:okDay d) (e2:okDay l.opn) (e3:okDay i.matures) (w:World) (ht:Tabs w) :
 Calls Tryz.prog 73 #[i.enc,l.enc,.int .i64 d] w fun e w'=>e=.returned (fenc (Apv i l d))∧Below w.heap.size w w':=by
 have HQ:Hid (Apv i l d=if i.matures≤d then allQ i l else allQ i l*(((d-l.opn:Int):Rat) / ((i.matures-l.opn:Int):Rat))):=by unfold Apv;rw[Hid,if_neg (by omega)]
 have HT:=Aac ht
 obtain⟨K,hK⟩:∃K,K=1002:=⟨_,rfl⟩
 have bf:BdQ (fv i.fn i.fd) K:=fv_bd _ _ (by omega) (by omega)
 have bq:BdQ (vl l.qty:Rat) K:=BdQ.int (Aah (vl_lt _) (Ac8 (by omega))) (by omega)
 have bc:BdQ (vl l.cost:Rat) K:=BdQ.int (Aah (vl_lt _) (Ac8 (by omega))) (by omega)
 have bm:=bf.mul bq
 have ba:BdQ (allQ i l) (K+K+K+1):=bm.sub bc
 have HA:Hid (allQ i l=fv i.fn i.fd*(vl l.qty:Rat)-(vl l.cost:Rat)):=rfl
 have C2:=fun W (_:Tabs W)=>Ar7 bf l.qty (by omega) (by omega) W
 rw[show fenc (fv i.fn i.fd)=.agg #[.string i.fn,.string i.fd] from by unfold fenc;rw[←hcq.1,←hcq.2]] at C2
 have C3:=fun W (_:Tabs W)=>Aq0 l.cost (by omega) W
 have C4:=fun W (_:Tabs W)=>Aq3 (k:=K+K) bm (bc.mono (by omega)) (by omega) W
 rw[←HA.out] at C4
 generalize (vl l.qty:Rat)=rq at C2 C4 bm bq
 generalize (vl l.cost:Rat)=rc at C3 C4 bc
 generalize fv i.fn i.fd*rq=rm at C2 C4 bm
 generalize allQ i l=ra at C4 ba HQ
 have hG:=EG.start w i l
 obtain⟨W0,hW0⟩:∃W0,((w.alloc (.cells i.cells 27)).alloc (.cells l.cells 63)).alloc (.cells #[.string ⟨#[]⟩,.string ⟨#[]⟩] 25)=W0:=⟨_,rfl⟩
 rw[hW0] at hG
 have HC2:=Aac (EG.calls (i:=i) (l:=l) ht C2)
 have HC3:=Aac (EG.calls (i:=i) (l:=l) ht C3)
 have HC4:=Aac (EG.calls (i:=i) (l:=l) ht C4)
 have HG:=Aac hG
 have c1:=Aaa hG.ib 1
 have c5:=Aaa hG.ib 5
 have c6:=Aaa hG.ib 6
 have c7:=Aaa hG.ib 7
 have o3:=Aaa hG.lb 3
 have o4:=Aaa hG.lb 4
 have o5:=Aaa hG.lb 5
 simp at c1 c5 c6 c7 o3 o4 o5
 have t1:(i.kind != 2)=false:=by simp[hk]
 have t2:decide (d<l.opn)=false:=Aay (by omega)
 have HKK:=Aac hK
 have HBM:=Aac (And.intro bm ba)
 clear hG C2 C3 C4 hk ht bf bq bc bm ba HA hK hcq
 unfold Inst.enc Inst.cells Lot.enc Lot.cells at *
 unfold fenc at HC2 HC3 HC4
 go_enter Tryz.func73,Tryz.ntmps73
 go_wp2_with fail
 go_cut [7] (fun v7 wx=>∃(B:Nat) (wr:World),v7=.pointer (some ⟨B,0,none⟩)∧w.heap.size+1+1<B∧FBox wr B ra∧EG w i l wr∧wr=wx)
 case first =>
  have hg:EG w i l W0.drew:=HG.out.below (Below.refl _ _).drew
  have ne1:=HG.out.ne1
  have ne2:=HG.out.ne2
  have lt1:=HG.out.lt
  clear c1 c5 o3 HG
  go_region_held3 (fun W=>W.cell? ⟨w.heap.size,6,none⟩=some (.string i.fn)∧W.cell? ⟨w.heap.size,7,none⟩=some (.string i.fd)∧W.cell? ⟨w.heap.size+1,4,none⟩=some (.string l.qty)∧W.cell? ⟨w.heap.size+1,5,none⟩=some (.string l.cost))
   (((try dsimp only);refine⟨?_,?_,?_,?_⟩<;>first|assumption|(simp[*,World.cell?_alloc_some,World.cell?_setCell_far];done)|(go_simp;done)))
   (first
     | (go_at_call_of 124 [Value.string l.cost];refine (HC3.out _ ?_).mono ?_;(first|exact hg|exact hg.below ((Below.refl _ _).alloc (Aad _) _));clear hg c6 c7 o4 o5;rintro e wn ⟨rfl,hg,bn,c6,c7,o4,o5⟩;have ne1:=hg.ne1;have ne2:=hg.ne2;have lt1:=hg.lt;(first|(have nb:=(bn.block _ (Aab.1 nb).1).trans nb;have n0:=Aaa nb 0;have n1:=Aaa nb 1;have n2:=Aaf nb 0;have n3:=Aaf nb 1;simp at n0 n1 n2 n3)|(have nb:=(bn.block _ (by simp)).trans (Aaz _ _);have n0:=Aaa nb 0;have n1:=Aaa nb 1;have n2:=Aaf nb 0;have n3:=Aaf nb 1;simp at n0 n1 n2 n3)|skip);clear bn)
     | (go_at_call_of 69 [Value.agg #[Value.string i.fn,Value.string i.fd],Value.string l.qty];refine (HC2.out _ ?_).mono ?_;(first|exact hg|exact hg.below ((Below.refl _ _).alloc (Aad _) _));clear hg c6 c7 o4 o5;rintro e wn ⟨rfl,hg,bn,c6,c7,o4,o5⟩;have ne1:=hg.ne1;have ne2:=hg.ne2;have lt1:=hg.lt;(first|(have nb:=(bn.block _ (Aab.1 nb).1).trans nb;have n0:=Aaa nb 0;have n1:=Aaa nb 1;have n2:=Aaf nb 0;have n3:=Aaf nb 1;simp at n0 n1 n2 n3)|(have nb:=(bn.block _ (by simp)).trans (Aaz _ _);have n0:=Aaa nb 0;have n1:=Aaa nb 1;have n2:=Aaf nb 0;have n3:=Aaf nb 1;simp at n0 n1 n2 n3)|skip);clear bn)
     | (go_at_call_of 130 [Value.agg #[Value.string (I rm.num),Value.string (dn rm)],Value.agg #[Value.string (I rc.num),Value.string (dn rc)]];refine (HC4.out _ ?_).mono ?_;(first|exact hg|exact hg.below ((Below.refl _ _).alloc (Aad _) _));clear hg c6 c7 o4 o5;rintro e wn ⟨rfl,hg,bn,c6,c7,o4,o5⟩;have ne1:=hg.ne1;have ne2:=hg.ne2;have lt1:=hg.lt;(first|(have nb:=(bn.block _ (Aab.1 nb).1).trans nb;have n0:=Aaa nb 0;have n1:=Aaa nb 1;have n2:=Aaf nb 0;have n3:=Aaf nb 1;simp at n0 n1 n2 n3)|(have nb:=(bn.block _ (by simp)).trans (Aaz _ _);have n0:=Aaa nb 0;have n1:=Aaa nb 1;have n2:=Aaf nb 0;have n3:=Aaf nb 1;simp at n0 n1 n2 n3)|skip);clear bn))
  all_goals (first|go_wp2_with fail|skip)
  all_goals go_meet
  all_goals first
   | exact⟨_,_,rfl,lt1,Aaz _ _,hg.below ((Below.refl _ _).alloc (Aad _) _),rfl⟩
   | (refine⟨_,_,rfl,?_,set2 nb _ _,hg.set2 ?_ _ _,rfl⟩<;>assumption)
 case rest =>
  obtain⟨B,wr,rfl,hBB,hF,hG,rfl⟩:=hcut
  clear c1 c5 c6 c7 o3 o4 o5 HG hW0 HC2 HC3 HC4
  have c5:wr.cell? ⟨w.heap.size,5,none⟩=some (.int .i64 i.matures):=Aaa hG.ib 5
  have o3:wr.cell? ⟨w.heap.size+1,3,none⟩=some (.int .i64 l.opn):=Aaa hG.lb 3
  have b0:=Aaa hF 0
  have b1:=Aaa hF 1
  have r0:=Aaa hG.rb 0
  have r1:=Aaa hG.rb 1
  have f0:=Aaf hG.rb 0
  have f1:=Aaf hG.rb 1
  simp at b0 b1 r0 r1 f0 f1
  have hg:EF w i l B ra wr:=⟨hG,hF,hBB⟩
  clear hG hF
  by_cases hm:i.matures≤d
  ·have t3:decide (i.matures≤d)=true:=Aax hm
   have HQ2:Hid (Apv i l d=ra):=by rw[Hid,HQ.out,if_pos hm]
   clear hm HQ
   go_wp2_with fail
   have hd:=hg.eg.done ra
   generalize (wr.setCell ⟨w.heap.size+1+1,0,none⟩ (.string (I ra.num))).setCell ⟨w.heap.size+1+1,1,none⟩ (.string (dn ra))=W9 at hd ⊢
   have m0:=Aaa hd.1 0
   have m1:=Aaa hd.1 1
   simp at m0 m1
   refine bodyPost_ret (v:=.agg #[.string (I ra.num),.string (dn ra)]) (by simp[results,Tryz.results73,go_sem,m0,m1]) rfl ⟨?_,hd.2⟩
   rw[HQ2.out];rfl
  ·have t3:decide (i.matures≤d)=false:=Aay hm
   unfold okDay at e1 e2 e3
   have HQ2:Hid (Apv i l d=ra*(((d-l.opn:Int):Rat) / ((i.matures-l.opn:Int):Rat))):=by rw[Hid,HQ.out,if_neg hm]
   obtain⟨x,hx⟩:∃x,x=d-l.opn:=⟨_,rfl⟩
   obtain⟨y,hy⟩:∃y,y=i.matures-l.opn:=⟨_,rfl⟩
   have wx:IntKind.i64.wrap (d-l.opn)=x:=by rw[hx];exact IntWalk.i64_in _ (by omega)
   have wy:IntKind.i64.wrap (i.matures-l.opn)=y:=by rw[hy];exact IntWalk.i64_in _ (by omega)
   have x0:0≤x∧x<1000000:=by omega
   have y0:0<y∧y<1000000:=by omega
   rw[←hx,←hy] at HQ2
   have D1:=fun W (_:Tabs W)=>(Ad5 x (by omega) W).mono (fun e w' (h:e=.returned (.string (I x))∧W=w')=>(⟨h.1,by rw[←h.2];exact Below.refl _ _⟩:e=.returned (.string (I x))∧Below W.heap.size W w'))
   have D2:=fun W (_:Tabs W)=>(Ad5 y (by omega) W).mono (fun e w' (h:e=.returned (.string (I y))∧W=w')=>(⟨h.1,by rw[←h.2];exact Below.refl _ _⟩:e=.returned (.string (I y))∧Below W.heap.size W w'))
   have D3:=fun W (_:Tabs W)=>Aq6 (x:=x) (y:=y) (a:=7) (by omega) (by omega) (by omega) (by omega) W
   have bp:BdQ (Rat.divInt x y) 7:=BdQ.div (by omega) (by omega) (by omega)
   have D4:=fun W (_:Tabs W)=>Aq1 (k:=K+K+K+1) HBM.out.2 (bp.mono (by have:=HKK.out;omega)) (by have:=HKK.out;omega) W
   rw[←Rat.divInt_eq_div] at HQ2
   generalize Rat.divInt x y=rp at *
   generalize ra*rp=rz at *
   unfold fenc at D3 D4
   have HD1:=Aac (EF.calls (i:=i) (l:=l) (B:=B) (q:=ra) HT.out D1)
   have HD2:=Aac (EF.calls (i:=i) (l:=l) (B:=B) (q:=ra) HT.out D2)
   have HD3:=Aac (EF.calls (i:=i) (l:=l) (B:=B) (q:=ra) HT.out D3)
   have HD4:=Aac (EF.calls (i:=i) (l:=l) (B:=B) (q:=ra) HT.out D4)
   clear hx hy D1 D2 D3 D4 bp e1 e2 e3 hm HQ x0 y0 ho
   go_wp2_with fail
   go_cut [8] (fun v8 wx=>∃(B2:Nat) (wr:World),v8=.pointer (some ⟨B2,0,none⟩)∧FBox wr B2 rp∧EF w i l B ra wr∧wr=wx)
   case first =>
    have ne1:=hg.ne1
    have ne2:=hg.ne2
    have lt1:=hg.blt
    replace hg:EF w i l B ra wr.drew:=hg.below (Below.refl _ _).drew
    clear b0 b1 r0 r1 f0 f1
    go_region_held3 (fun W=>W.cell? ⟨w.heap.size,5,none⟩=some (.int .i64 i.matures)∧W.cell? ⟨w.heap.size+1,3,none⟩=some (.int .i64 l.opn))
     (((try dsimp only);refine⟨?_,?_⟩<;>first|assumption|(simp[*,World.cell?_alloc_some,World.cell?_setCell_far];done)|(go_simp;done)))
     (first
       | (go_at_call_of 132 [Value.int IntKind.i64 x];refine (HD1.out _ ?_).mono ?_;(first|exact hg|exact hg.below ((Below.refl _ _).alloc (Aad _) _));clear hg c5 o3;rintro e wn ⟨rfl,hg,bn,c5,o3⟩;have ne1:=hg.ne1;have ne2:=hg.ne2;have lt1:=hg.blt;(first|(have nb:=(bn.block _ (Aab.1 nb).1).trans nb;have n0:=Aaa nb 0;have n1:=Aaa nb 1;have n2:=Aaf nb 0;have n3:=Aaf nb 1;simp at n0 n1 n2 n3)|(have nb:=(bn.block _ (by simp)).trans (Aaz _ _);have n0:=Aaa nb 0;have n1:=Aaa nb 1;have n2:=Aaf nb 0;have n3:=Aaf nb 1;simp at n0 n1 n2 n3)|skip);clear bn)
       | (go_at_call_of 132 [Value.int IntKind.i64 y];refine (HD2.out _ ?_).mono ?_;(first|exact hg|exact hg.below ((Below.refl _ _).alloc (Aad _) _));clear hg c5 o3;rintro e wn ⟨rfl,hg,bn,c5,o3⟩;have ne1:=hg.ne1;have ne2:=hg.ne2;have lt1:=hg.blt;(first|(have nb:=(bn.block _ (Aab.1 nb).1).trans nb;have n0:=Aaa nb 0;have n1:=Aaa nb 1;have n2:=Aaf nb 0;have n3:=Aaf nb 1;simp at n0 n1 n2 n3)|(have nb:=(bn.block _ (by simp)).trans (Aaz _ _);have n0:=Aaa nb 0;have n1:=Aaa nb 1;have n2:=Aaf nb 0;have n3:=Aaf nb 1;simp at n0 n1 n2 n3)|skip);clear bn)
       | (go_at_call_of 131 [Value.string (I x),Value.string (I y)];refine (HD3.out _ ?_).mono ?_;(first|exact hg|exact hg.below ((Below.refl _ _).alloc (Aad _) _));clear hg c5 o3;rintro e wn ⟨rfl,hg,bn,c5,o3⟩;have ne1:=hg.ne1;have ne2:=hg.ne2;have lt1:=hg.blt;(first|(have nb:=(bn.block _ (Aab.1 nb).1).trans nb;have n0:=Aaa nb 0;have n1:=Aaa nb 1;have n2:=Aaf nb 0;have n3:=Aaf nb 1;simp at n0 n1 n2 n3)|(have nb:=(bn.block _ (by simp)).trans (Aaz _ _);have n0:=Aaa nb 0;have n1:=Aaa nb 1;have n2:=Aaf nb 0;have n3:=Aaf nb 1;simp at n0 n1 n2 n3)|skip);clear bn))
    all_goals (first|go_wp2_with fail|skip)
    all_goals go_meet
    all_goals first
     | exact⟨_,_,rfl,Aaz _ _,hg.below ((Below.refl _ _).alloc (Aad _) _),rfl⟩
     | (refine⟨_,_,rfl,set2 nb _ _,hg.set2 ?_ _ _,rfl⟩;assumption)
   case rest =>
    obtain⟨B2,wq,rfl,hF2,hG2,rfl⟩:=hcut
    clear b0 b1 r0 r1 f0 f1 c5 o3
    have b0:=Aaa hG2.fb 0
    have b1:=Aaa hG2.fb 1
    have p0:=Aaa hF2 0
    have p1:=Aaa hF2 1
    simp at b0 b1 p0 p1
    have HG2:=Aac hG2
    clear hG2 hF2 hg
    go_wp2_with fail
    refine (HD4.out _ HG2.out).mono ?_
    rintro e w7 ⟨rfl,hg,_,_⟩
    have r0:=Aaa hg.eg.rb 0
    have r1:=Aaa hg.eg.rb 1
    have f0:=Aaf hg.eg.rb 0
    have f1:=Aaf hg.eg.rb 1
    simp at r0 r1 f0 f1
    have HG:=Aac hg
    clear hg
    go_wp2_with fail
    have hd:=HG.out.eg.done rz
    generalize (w7.setCell ⟨w.heap.size+1+1,0,none⟩ (.string (I rz.num))).setCell ⟨w.heap.size+1+1,1,none⟩ (.string (dn rz))=W9 at hd ⊢
    have m0:=Aaa hd.1 0
    have m1:=Aaa hd.1 1
    simp at m0 m1
    refine bodyPost_ret (v:=.agg #[.string (I rz.num),.string (dn rz)]) (by simp[results,Tryz.results73,go_sem,m0,m1]) rfl ⟨?_,hd.2⟩
    rw[HQ2.out];rfl
theorem Asc(i:Inst)(l:Lot)(d:Int)(s1:i.fn.size≤1000)(s2:i.fd.size≤1000)(hcq:CanQ i.fn i.fd)(hd:okDay d)(hmt:i.kind=2→okDay i.matures)(hs:l.sized)(ho:okDay l.opn)(w:World)(ht:Tabs w):
 Calls Tryz.prog 73 #[i.enc,l.enc,.int .i64 d] w fun e w'=>e=.returned (fenc (Apv i l d))∧Below w.heap.size w w':=by
 by_cases hz:i.kind≠2∨d<l.opn
 ·exact Asa i l d hz w
 ·have hk:i.kind=2:=by
   rcases Decidable.em (i.kind=2) with e|e
   ·exact e
   ·exact absurd (.inl e) hz
  exact Asb i l d hk (by omega) s1 s2 hs.2.2.1 hs.2.2.2.1 hcq hd ho (hmt hk) w ht
def ith(ds:List Int)(k:Nat):Int:=ds.getD k 0
def RdD(w:World)(A:Option Addr)(ds:List Int):Prop :=
 ds≠[]→∃ad:Addr,A=some ad∧ad.block<w.heap.size∧∀j,j<ds.length→w.cell? (ad.add j)=some (.int .i64 (ith ds j))
theorem RdD.below{w w':World}{A:Option Addr}{ds:List Int}(h:RdD w A ds)(hb:Below w.heap.size w w'):RdD w' A ds:=by
 intro hl
 obtain⟨ad,rfl,h1,h2⟩:=h hl
 exact⟨ad,rfl,Aah h1 hb.size,fun j hj=>(hb.cell (by rw[Acj];exact h1)).trans (h2 j hj)⟩
theorem ith_mem{ds:List Int}{k:Nat}(h:k<ds.length):ith ds k∈ds:=by
 unfold ith;rw[Aau,Aae h];exact List.getElem_mem h
structure BOk(i:Inst)(l:Lot):Prop where
 small:i.small
 ok:i.ok
 sized:l.sized
 lok:l.ok
 inst:l.inst=i.id
theorem ilbox(i:Inst)(l:Lot)(w:World):∃W0,(w.alloc (.cells i.cells 27)).alloc (.cells l.cells 63)=W0∧Below w.heap.size w W0∧InstBox W0 w.heap.size i∧LotBox W0 (w.heap.size+1) l:=by
 obtain⟨W0,hW0,hB,hz,k0,k1⟩:=box2 w (.cells i.cells 27) (.cells l.cells 63)
 exact⟨W0,hW0.symm,hB,k0,k1⟩
theorem Asd(i:Inst)(l:Lot)(A:Option Addr)(ds:List Int)(c:Nat)(hl:ds.length≤1000000)(h:BOk i l)(hd:∀d∈ds,okDay d)(w:World)(hR:RdD w A ds)(ht:Tabs w):
 Calls Tryz.prog 114 #[i.enc,l.enc,.slice A ds.length c] w fun e w'=>e=.returned (.int .i64 0)∧Below w.heap.size w w':=by
 obtain⟨W0,hW0,hB0,k0,k1⟩:=ilbox i l w
 obtain⟨c0,c1,c2,c3,c4,c5,c6,c7,c8,c9,c10,c11,c12,c13,c14⟩:=Acq k0
 obtain⟨o0,o1,o2,o3,o4,o5,o6⟩:=Acr k1
 have HT:=hI ht
 have HB0:=hI hB0
 have HK0:=hI k0
 have HK1:=hI k1
 have HC1:=hI (Amx i h.small.sized h.ok W0 (ht.below hB0))
 have HC2:=hI (fun W hW=>Anc l h.sized h.lok W hW)
 have HR:=hI (fun W (hb:Below w.heap.size w W)=>hR.below hb)
 have HD:=hI hd
 have HV:=hI (fun (k:Nat) (hk:k<ds.length) (W:World)=>Apt (ith ds k) W)
 have heq:=Aph l.inst i.id
 rw[Aax h.inst] at heq
 clear h hR ht hB0 k0 k1 hd
 unfold Inst.enc Inst.cells Lot.enc Lot.cells at *
 go_enter Tryz.func114,Tryz.ntmps114
 go_wp2_with fail
 refine HC1.out.mono ?_
 rintro e w1 ⟨rfl,b1⟩
 have HB1:=hI (HB0.out.trans (b1.mono HB0.out.size))
 have g0:=HK0.out.below b1
 have g1:=HK1.out.below b1
 clear c0 c1 c2 c3 c4 c5 c6 c7 c8 c9 c10 c11 c12 c13 c14
 clear o0 o1 o2 o3 o4 o5 o6
 obtain⟨o0,o1,o2,o3,o4,o5,o6⟩:=Acr g1
 have HG0:=hI g0
 have HG1:=hI g1
 clear b1 g0 g1 HK0 HK1 HB0 HC1 hW0
 go_wp2_with fail
 refine (HC2.out _ (HT.out.below HB1.out)).mono ?_
 rintro e w2 ⟨rfl,b2⟩
 have HB2:=hI (HB1.out.trans (b2.mono HB1.out.size))
 have g0:=HG0.out.below b2
 have g1:=HG1.out.below b2
 clear o0 o1 o2 o3 o4 o5 o6
 have c0:=Aaa g0 0
 have o1:=Aaa g1 1
 simp at c0 o1
 clear b2 g0 g1 HG0 HG1 HB1 HC2
 go_wp2_with fail
 go_loopw [24] (fun v wr=>∃k:Nat,v=.int .i64 (k:Int)∧k≤ds.length∧w2=wr) (fun v _=>ds.length-(intOf v).toNat)
 case atStart=>exact⟨0,rfl,by omega,rfl⟩
 case round =>
  obtain⟨k,rfl,hk,rfl⟩:=hrel
  clear c0 o1
  rcases Aam k ds.length with hlt|hge
  ·obtain⟨ad,rfl,had,hcell⟩:=HR.out w2 HB2.out (by intro e;rw[e] at hlt;cases hlt)
   have hcx:decide ((k:Int)<(ds.length:Int))=true:=by simp;omega
   have ck:=hcell k hlt
   have HVK:=hI (HV.out k hlt)
   rw[Aax (HD.out _ (ith_mem hlt))] at HVK
   clear hcell
   go_wp2_with fail
   refine (HVK.out _).mono ?_
   rintro e w3 ⟨rfl,rfl⟩
   go_wp2_with fail
   go_roundw
   case rel=>exact⟨k+1,by go_num,by omega,by trivial⟩
   case measure=>simp[intOf];omega
  ·have hcx:decide ((k:Int)<(ds.length:Int))=false:=by simp;omega
   go_wp2_with fail
   go_ret
   exact⟨rfl,HB2.out⟩
theorem Ase(i:Inst)(l:Lot)(d:Int)(h:BOk i l)(hd:okDay d)(w:World)(ht:Tabs w):
 Calls Tryz.prog 58 #[i.enc,l.enc,.int .i64 d] w fun e w'=>e=.returned (.tuple #[.string (I (rnd (Apv i l d))),.int .i64 0])∧Below w.heap.size w w':=by
 obtain⟨W0,hW0,hB0,k0,k1⟩:=ilbox i l w
 obtain⟨c0,c1,c2,c3,c4,c5,c6,c7,c8,c9,c10,c11,c12,c13,c14⟩:=Acq k0
 obtain⟨o0,o1,o2,o3,o4,o5,o6⟩:=Acr k1
 have HT:=hI ht
 obtain⟨W1,hW1⟩:∃W1,W0.alloc (.cells #[.int .i64 d] 22)=W1:=⟨_,rfl⟩
 have b1:Below W0.heap.size W0 W1:=by rw[←hW1];exact (Below.refl _ W0).alloc (Aad _) _
 have k2:W1.heap[W0.heap.size]?=some (.cells #[.int .i64 d] 22):=by rw[←hW1];exact Aaz W0 _
 have hR:RdD W1 (some ⟨W0.heap.size,0,none⟩) [d]:=fun _=>⟨_,rfl,(Aab.1 k2).1,fun j hj=>by
  have:j=0:=by simp at hj;omega
  subst this
  have:=Aaa k2 0
  simp at this
  exact this⟩
 have B1:=hB0.trans (b1.mono hB0.size)
 have HC1:=hI (Asd i l (some ⟨W0.heap.size,0,none⟩) [d] 1 (by simp) h (fun x hx=>by simp at hx;subst hx;exact hd) W1 hR (ht.below B1))
 have hex:ExOk i d:=⟨h.small.fn,h.small.fd,hd,h.ok.mt⟩
 have HEX:=hI (fun W hW=>Aqc i l d hex h.sized h.lok.opn W hW)
 have HRD:=hI (fun W hW=>Aps (Aqd i l d hex h.sized h.lok.opn) (by unfold qB;omega) W hW)
 have HK0:=hI (k0.below b1)
 have HK1:=hI (k1.below b1)
 have HB1:=hI B1
 generalize Apv i l d=rq at *
 clear h hR ht hB0 b1 k0 k1 k2 B1 hex hd
 unfold Inst.enc Inst.cells Lot.enc Lot.cells at *
 go_enter Tryz.func58,Tryz.ntmps58
 go_wp2_with fail
 refine HC1.out.mono ?_
 rintro e w1 ⟨rfl,b1⟩
 have HB2:=hI (HB1.out.trans (b1.mono HB1.out.size))
 have g0:=HK0.out.below b1
 have g1:=HK1.out.below b1
 clear c0 c1 c2 c3 c4 c5 c6 c7 c8 c9 c10 c11 c12 c13 c14
 clear o0 o1 o2 o3 o4 o5 o6
 obtain⟨c0,c1,c2,c3,c4,c5,c6,c7,c8,c9,c10,c11,c12,c13,c14⟩:=Acq g0
 obtain⟨o0,o1,o2,o3,o4,o5,o6⟩:=Acr g1
 clear b1 g0 g1 HK0 HK1 HB1 HC1 hW0 hW1
 go_wp2_with fail
 refine (HEX.out _ (HT.out.below HB2.out)).mono ?_
 rintro e w2 ⟨rfl,b2⟩
 have HB3:=hI (HB2.out.trans (b2.mono HB2.out.size))
 clear b2 HB2
 clear c0 c1 c2 c3 c4 c5 c6 c7 c8 c9 c10 c11 c12 c13 c14
 clear o0 o1 o2 o3 o4 o5 o6
 go_wp2_with fail
 refine (HRD.out _ (HT.out.below HB3.out)).mono ?_
 rintro e w3 ⟨rfl,b3⟩
 have B4:=HB3.out.trans (b3.mono HB3.out.size)
 clear b3
 go_wp2_with fail
 go_ret2
 exact⟨rfl,B4⟩
abbrev effZero:Array Value:=#[.int .i64 0,.int .i64 0,.string ⟨#[]⟩,.string ⟨#[]⟩,.string ⟨#[]⟩,.string ⟨#[]⟩,.slice none 0 0]
theorem Asf{d:Int}(hd:okDay d)(w:World):∃(y:Int) (m:Nat) (dd:Int),VDate y m dd∧dayOf y m dd=d:=by
 obtain⟨e,w',fr,hR,_⟩:=Ajh d hd w []
 obtain⟨y,m,dd,_,hv,hd',_⟩:=hR
 exact⟨y,m,dd,hv,hd'⟩
theorem Asg{d:Int}(hd:okDay d)(w:World):(ptext d).size≤100:=by
 obtain⟨y,m,dd,hv,hd'⟩:=Asf hd w
 obtain⟨q,rfl⟩:∃q:Nat,dd=(q:Int):=⟨dd.toNat,by have:=hv.2.2.2.2.1;omega⟩
 rw[Ajn hv hd']
 have b1:=hv.1
 have b2:=hv.2.1
 have b3:=hv.2.2.2.1
 have b4:=hv.2.2.2.2.2
 have b5:=Ai4 (leapB y) m
 have hz2:=nDigits_size y (by omega) (by omega)
 have t2:∀k:Nat,k<100→(two k).length=2:=by
  intro k hk
  have:=Ajj hk
  unfold two;simp;omega
 have hm2:=t2 m (by omega)
 have hq2:=t2 q (by omega)
 unfold dtext
 rw[Ac5]
 simp only[Aan,Aaw,List.length_nil]
 omega
noncomputable def Ash(d:Int)(id:ByteArray):ByteArray:=⟨#[109,97,114,107,32]⟩++ptext d++⟨#[32]⟩++id
theorem set7{w:World}{b:Nat}{a0 a1 a2 a3 a4 a5 a6:Value}{t:TypeId}{m:Nat×Nat}(h:w.heap[b]?=some (.cells #[a0,a1,a2,a3,a4,a5,a6] t m))(x0 x1 x2 x3 x4 x5 x6:Value):
 (((((((w.setCell ⟨b,0,none⟩ x0).setCell ⟨b,1,none⟩ x1).setCell ⟨b,2,none⟩ x2).setCell ⟨b,3,none⟩ x3).setCell ⟨b,4,none⟩ x4).setCell ⟨b,5,none⟩ x5).setCell ⟨b,6,none⟩ x6).heap[b]?=some (.cells #[x0,x1,x2,x3,x4,x5,x6] t m):=by
 simp[World.setCell,Array.getElem?_modify,h]
theorem Asi{w W:World}{b:Nat}(hb:w.heap.size≤b)(h:Below w.heap.size w W)(x0 x1 x2 x3 x4 x5 x6:Value):
 Below w.heap.size w (((((((W.setCell ⟨b,0,none⟩ x0).setCell ⟨b,1,none⟩ x1).setCell ⟨b,2,none⟩ x2).setCell ⟨b,3,none⟩ x3).setCell ⟨b,4,none⟩ x4).setCell ⟨b,5,none⟩ x5).setCell ⟨b,6,none⟩ x6) :=
 (((((((h.setCell (p:=⟨b,0,none⟩) hb x0).setCell (p:=⟨b,1,none⟩) hb x1).setCell (p:=⟨b,2,none⟩) hb x2).setCell (p:=⟨b,3,none⟩) hb x3).setCell (p:=⟨b,4,none⟩) hb x4).setCell (p:=⟨b,5,none⟩) hb x5).setCell (p:=⟨b,6,none⟩) hb x6)
theorem far7{W:World}{b k:Nat}(hk:k≠b)(x0 x1 x2 x3 x4 x5 x6:Value):
 (((((((W.setCell ⟨b,0,none⟩ x0).setCell ⟨b,1,none⟩ x1).setCell ⟨b,2,none⟩ x2).setCell ⟨b,3,none⟩ x3).setCell ⟨b,4,none⟩ x4).setCell ⟨b,5,none⟩ x5).setCell ⟨b,6,none⟩ x6).heap[k]?=W.heap[k]?:=by
 simp[World.setCell,Array.getElem?_modify,Ne.symm hk]
def Asj(w:World)(kind d:Int)(i:Inst)(ch:ByteArray)(e:Ending)(w':World):Prop :=
 ∃B:Nat,e=.returned (.tuple #[.agg #[.int .i64 kind,.int .i64 d,.string (Ash d i.id),.string i.id,.string ⟨#[]⟩,.string i.cur,.slice (some ⟨B,0,none⟩) 1 1],.bool true,.int .i64 0])∧w'.heap[B]?=some (.cells #[.string ⟨#[97,109,111,117,110,116]⟩,.string ch] 106 (0,0))∧w.heap.size≤B∧Below w.heap.size w w'
theorem Ask{w W4:World}{B:Nat}{kind d:Int}{i:Inst}{ch:ByteArray}{a:Act}(h1:W4.heap[w.heap.size+1]?=some (.cells effZero 101 (0,0)))(hB:Below w.heap.size w W4)
 (hT:W4.heap[B]?=some (.cells #[.string ⟨#[97,109,111,117,110,116]⟩,.string ch] 106 (0,0))) (hl:w.heap.size+1<B) (hd:a.defers=[])
 (hr:∀W9:World,W9.cell? ⟨w.heap.size+1,0,none⟩=some (.int .i64 kind)→W9.cell? ⟨w.heap.size+1,1,none⟩=some (.int .i64 d)→W9.cell? ⟨w.heap.size+1,2,none⟩=some (.string (⟨#[109,97,114,107,32]⟩++ptext d++⟨#[32]⟩++i.id))→W9.cell? ⟨w.heap.size+1,3,none⟩=some (.string i.id)→W9.cell? ⟨w.heap.size+1,4,none⟩=some (.string ⟨#[]⟩)→W9.cell? ⟨w.heap.size+1,5,none⟩=some (.string i.cur)→W9.cell? ⟨w.heap.size+1,6,none⟩=some (.slice (some ⟨B,0,none⟩) 1 1) →
   (results Tryz.f60 a.tmps).run Tryz.prog W9=.ok (.tuple #[.agg #[.int .i64 kind,.int .i64 d,.string (⟨#[109,97,114,107,32]⟩++ptext d++⟨#[32]⟩++i.id),.string i.id,.string ⟨#[]⟩,.string i.cur,.slice (some ⟨B,0,none⟩) 1 1],.bool true,.int .i64 0]) W9) :
 bodyPost Tryz.prog Tryz.f60 (Asj w kind d i ch) .ret a (((((((W4.setCell ⟨w.heap.size+1,0,none⟩ (.int .i64 kind)).setCell ⟨w.heap.size+1,1,none⟩ (.int .i64 d)).setCell ⟨w.heap.size+1,2,none⟩ (.string (⟨#[109,97,114,107,32]⟩++ptext d++⟨#[32]⟩++i.id))).setCell ⟨w.heap.size+1,3,none⟩ (.string i.id)).setCell ⟨w.heap.size+1,4,none⟩ (.string ⟨#[]⟩)).setCell ⟨w.heap.size+1,5,none⟩ (.string i.cur)).setCell ⟨w.heap.size+1,6,none⟩ (.slice (some ⟨B,0,none⟩) 1 1)):=by
 have q7:=set7 h1 (.int .i64 kind) (.int .i64 d) (.string (⟨#[109,97,114,107,32]⟩++ptext d++⟨#[32]⟩++i.id)) (.string i.id) (.string ⟨#[]⟩) (.string i.cur) (.slice (some ⟨B,0,none⟩) 1 1)
 have q8:=Asi (b:=w.heap.size+1) (by omega) hB (.int .i64 kind) (.int .i64 d) (.string (⟨#[109,97,114,107,32]⟩++ptext d++⟨#[32]⟩++i.id)) (.string i.id) (.string ⟨#[]⟩) (.string i.cur) (.slice (some ⟨B,0,none⟩) 1 1)
 have q9:=(far7 (W:=W4) (b:=w.heap.size+1) (k:=B) (by omega) (.int .i64 kind) (.int .i64 d) (.string (⟨#[109,97,114,107,32]⟩++ptext d++⟨#[32]⟩++i.id)) (.string i.id) (.string ⟨#[]⟩) (.string i.cur) (.slice (some ⟨B,0,none⟩) 1 1)).trans hT
 generalize (((((((W4.setCell ⟨w.heap.size+1,0,none⟩ (.int .i64 kind)).setCell ⟨w.heap.size+1,1,none⟩ (.int .i64 d)).setCell ⟨w.heap.size+1,2,none⟩ (.string (⟨#[109,97,114,107,32]⟩++ptext d++⟨#[32]⟩++i.id))).setCell ⟨w.heap.size+1,3,none⟩ (.string i.id)).setCell ⟨w.heap.size+1,4,none⟩ (.string ⟨#[]⟩)).setCell ⟨w.heap.size+1,5,none⟩ (.string i.cur)).setCell ⟨w.heap.size+1,6,none⟩ (.slice (some ⟨B,0,none⟩) 1 1))=W9 at q7 q8 q9 ⊢
 have m0:=Aaa q7 0
 have m1:=Aaa q7 1
 have m2:=Aaa q7 2
 have m3:=Aaa q7 3
 have m4:=Aaa q7 4
 have m5:=Aaa q7 5
 have m6:=Aaa q7 6
 exact bodyPost_ret (hr W9 m0 m1 m2 m3 m4 m5 m6) hd ⟨B,rfl,q9,by omega,q8⟩
theorem Asm(kind:Int)(hk:kind=17∨kind=18∨kind=19)(d:Int)(hd:okDay d)(i:Inst)(hsm:i.small)(hok:i.ok)(ch:ByteArray)(hch:Can ch)(hcz:ch.size≤1000)(hne:ch≠⟨#[]⟩)(w:World)(ht:Tabs w):
 Calls Tryz.prog 60 #[.int .i64 kind,.int .i64 d,i.enc,.string ch] w (Asj w kind d i ch):=by
 have hne':=Amm ch
 rw[Aay hne] at hne'
 clear hne
 obtain⟨W0,hW0',hB0,hz,k0,k1⟩:=box2 w (.cells i.cells 27) (.cells effZero 101)
 have hW0:=hW0'.symm
 obtain⟨c0,c1,c2,c3,c4,c5,c6,c7,c8,c9,c10,c11,c12,c13,c14⟩:=Acq k0
 have HT:=hI ht
 have HB0:=hI hB0
 have HK0:Hid (InstBox W0 w.heap.size i):=k0
 have HK1:=hI k1
 have HC1:=hI (Amx i hsm.sized hok W0 (ht.below hB0))
 have HC2:=hI (fun W=>Agk ch W (by omega) hch)
 have HP:=hI (fun W hW=>Ajp d hd W hW)
 have hpz:=Asg hd w
 have hiz:=hsm.id
 have t1:(kind != 17&&kind != 18&&kind != 19)=false:=by rcases hk with rfl|rfl|rfl<;>rfl
 clear hW0' hz ht hB0 k0 k1 hsm hok hch hd
 unfold Inst.enc Inst.cells effZero at *
 rcases hk with rfl|rfl|rfl
 all_goals
  clear t1
  go_enter Tryz.func60,Tryz.ntmps60
  go_wp2_with fail
  refine HC1.out.mono ?_
  rintro e w1 ⟨rfl,b1⟩
  have HB1:=hI (HB0.out.trans (b1.mono HB0.out.size))
  have HG0:=hI (HK0.out.below b1)
  have HG1:=hI ((b1.block (w.heap.size+1) (Aab.1 HK1.out).1).trans HK1.out)
  clear b1 HK0 HK1 HB0 HC1 hW0
  clear c0 c1 c2 c3 c4 c5 c6 c7 c8 c9 c10 c11 c12 c13 c14
  go_wp2_with fail
  refine (HC2.out _).mono ?_
  rintro e w2 ⟨rfl,b2⟩
  have HB2:=hI (HB1.out.trans (b2.mono HB1.out.size))
  have HH0:=hI (HG0.out.below b2)
  have HH1:=hI ((b2.block (w.heap.size+1) (Aab.1 HG1.out).1).trans HG1.out)
  clear b2 HG0 HG1 HB1 HC2
  go_wp2_with fail
  refine (HP.out _ (HT.out.below HB2.out)).mono ?_
  rintro e w3 ⟨rfl,b3⟩
  have HB3:=hI (HB2.out.trans (b3.mono HB2.out.size))
  have g0:=HH0.out.below b3
  have g1:=(b3.block (w.heap.size+1) (Aab.1 HH1.out).1).trans HH1.out
  have HL0:=hI g0
  have HL1:=hI g1
  have hl3:w.heap.size+1<w3.heap.size:=(Aab.1 g1).1
  have c0:=Aaa g0 0
  have c2:=Aaa g0 2
  simp at c0 c2
  obtain⟨r0,r1,r2,r3,r4,r5,r6⟩:=Acr g1
  obtain⟨f0,f1,f2,f3,f4,f5,f6⟩:=Acs g1
  clear b3 HH0 HH1 HB2 g0 g1 HP
  obtain⟨W4,hW4⟩:∃W4,w3.alloc (.cells #[.string ⟨#[97,109,111,117,110,116]⟩,.string ch] 106)=W4:=⟨_,rfl⟩
  have b4:Below w3.heap.size w3 W4:=by rw[←hW4];exact (Below.refl _ w3).alloc (Aad _) _
  have HB4:=hI (HB3.out.trans (b4.mono HB3.out.size))
  have HT4:Hid (W4.heap[w3.heap.size]?=some (.cells #[.string ⟨#[97,109,111,117,110,116]⟩,.string ch] 106 (0,0))):=by rw[Hid,←hW4];exact Aaz w3 _
  have g1:=(b4.block (w.heap.size+1) (Aab.1 HL1.out).1).trans HL1.out
  clear r0 r1 r2 r3 r4 r5 r6 f0 f1 f2 f3 f4 f5 f6
  obtain⟨r0,r1,r2,r3,r4,r5,r6⟩:=Acr g1
  obtain⟨f0,f1,f2,f3,f4,f5,f6⟩:=Acs g1
  have HL4:=hI g1
  clear b4 g1 HL0 HL1 HB3
  go_wp2_with fail
  exact Ask HL4.out HB4.out HT4.out hl3 rfl (fun W9 m0 m1 m2 m3 m4 m5 m6=>by simp[results,Tryz.results60,go_sem,m0,m1,m2,m3,m4,m5,m6])
theorem Asn(y:Int)(m:Nat)(d:Int)(hv:VDate y m d)(w:World):
 Calls Tryz.prog 59 #[.int .i64 y,.int .i64 (m:Int),.int .i64 d] w fun e w'=>e=.returned (.int .i64 (dayOf y m d))∧Below w.heap.size w w':=by
 have HO:=hI (Aje y m d hv w)
 generalize dayOf y m d=z at *
 go_enter Tryz.func59,Tryz.ntmps59
 go_wp2_with fail
 refine HO.out.mono ?_
 rintro e w1 ⟨rfl,b1⟩
 go_wp2_with fail
 go_ret
 exact⟨rfl,b1⟩
theorem day_a(w:World):Calls Tryz.prog 59 #[.int .i64 2024,.int .i64 1,.int .i64 14] w fun e w'=>e=.returned (.int .i64 19736)∧Below w.heap.size w w':=Asn 2024 1 14 (by unfold VDate lenB leapB;decide) w
theorem day_b(w:World):Calls Tryz.prog 59 #[.int .i64 2025,.int .i64 1,.int .i64 14] w fun e w'=>e=.returned (.int .i64 20102)∧Below w.heap.size w w':=Asn 2025 1 14 (by unfold VDate lenB leapB;decide) w
theorem day_c(w:World):Calls Tryz.prog 59 #[.int .i64 2024,.int .i64 1,.int .i64 15] w fun e w'=>e=.returned (.int .i64 19737)∧Below w.heap.size w w':=Asn 2024 1 15 (by unfold VDate lenB leapB;decide) w
theorem day_d(w:World):Calls Tryz.prog 59 #[.int .i64 2024,.int .i64 3,.int .i64 28] w fun e w'=>e=.returned (.int .i64 19810)∧Below w.heap.size w w':=Asn 2024 3 28 (by unfold VDate lenB leapB;decide) w
def i0:Inst:=⟨⟨#[98]⟩,2,⟨#[85,83,68]⟩,0,19736,20102,⟨#[49,48,48,48]⟩,⟨#[]⟩,⟨#[]⟩,⟨#[]⟩,12,3,⟨#[]⟩,⟨#[]⟩,⟨#[]⟩⟩
def l0:Lot:=⟨⟨#[120,47,49]⟩,⟨#[98]⟩,19737,19737,⟨#[49,48]⟩,⟨#[57,56,48,48]⟩,⟨#[]⟩⟩
theorem v1000:vl ⟨#[49,48,48,48]⟩=1000:=by decide
theorem v10:vl ⟨#[49,48]⟩=10:=by decide
theorem v9800:vl ⟨#[57,56,48,48]⟩=9800:=by decide
theorem v0:vl ⟨#[]⟩=0:=by decide
theorem Asp{n:ByteArray}:fv n ⟨#[]⟩=(vl n:Rat):=by
 unfold fv dd
 rw[if_pos v0,show vl one1=1 from by decide]
 exact Aij _
theorem Asq{n:ByteArray}(h:Can n):CanQ n ⟨#[]⟩:=by
 unfold CanQ
 rw[Asp]
 refine⟨h.symm,?_⟩
 unfold dn
 rw[if_pos (show ((vl n:Int):Rat).den=1 from rfl)]
theorem Asr{n:ByteArray}(h:Can n)(hz:n.size≤40):Amj n ⟨#[]⟩=0:=by
 unfold Amj
 rw[if_neg (fun x=>x (Asq h)),if_neg]
 rintro (x|x)
 ·unfold ndig at x;split at x<;>omega
 ·rw[show ndig ⟨#[]⟩=0 from by decide] at x;omega
theorem i0_small:i0.small:=⟨by decide,by decide,by decide,by decide,by decide,by decide,by decide,by decide,by decide⟩
theorem i0_ok:i0.ok where
 id:=by decide
 kind:=by decide
 cur:=by decide
 places:=by decide
 issued:=by unfold okDay;decide
 matures:=.inr ⟨by decide,by unfold okDay;decide,by decide⟩
 n1:=Asr (by unfold Can;decide) (by decide)
 n2:=Asr (by unfold Can;decide) (by decide)
 n3:=Asr (by unfold Can;decide) (by decide)
 plain:=fun h=>absurd rfl h
 bond:=fun _=>⟨by decide,by decide,by decide,by decide,by decide,rfl,by decide⟩
 fwd:=fun h=>absurd h (by decide)
theorem l0_sized:l0.sized:=⟨by decide,by decide,by decide,by decide,by decide⟩
theorem l0_ok:l0.ok where
 id:=by kernel_rfl
 inst:=by decide
 acq:=by unfold okDay;decide
 opn:=by unfold okDay;decide
 ord:=by decide
 cq:=by unfold Can;decide
 cc:=by unfold Can;decide
 cu:=by unfold Can;decide
 pq:=by decide
 pc:=by decide
 us:=.inl rfl
theorem all0:allQ i0 l0=200:=by
 unfold allQ
 rw[show i0.fd=⟨#[]⟩ from rfl,Asp,show vl i0.fn=1000 from v1000,show vl l0.qty=10 from v10,show vl l0.cost=9800 from v9800]
 kernel_rfl
theorem ex0:Apv i0 l0 19810=40:=by
 unfold Apv
 rw[if_neg (by decide),if_neg (by decide),all0]
 kernel_rfl
theorem ex1:Apv i0 l0 20102=200:=by
 unfold Apv
 rw[if_neg (by decide),if_pos (by decide),all0]
theorem r40:I (rnd 40)=⟨#[52,48]⟩:=by rfl
theorem r200:I (rnd 200)=⟨#[50,48,48]⟩:=by rfl
theorem cause_bytes:(⟨#[109,97,114,107,32]⟩:ByteArray)++dtext 2024 3 28++⟨#[32]⟩++⟨#[98]⟩=⟨#[109,97,114,107,32,50,48,50,52,45,48,51,45,50,56,32,98]⟩:=by kernel_rfl
theorem cause0:Ash 19810 ⟨#[98]⟩=⟨#[109,97,114,107,32,50,48,50,52,45,48,51,45,50,56,32,98]⟩:=by
 have hv:VDate 2024 3 28:=by unfold VDate lenB leapB;decide
 have hp:ptext 19810=dtext 2024 3 28:=Ajn (y:=2024) (m:=3) (dd:=28) hv (by decide)
 unfold Ash
 rw[hp]
 exact cause_bytes
theorem Ass(B1 B2:Nat)(a b:ByteArray)(w:World)(h1:w.heap[B1]?=some (.cells #[.string a,.string b] 106 (0,0)))(h2:w.heap[B2]?=some (.cells #[.string a,.string b] 106 (0,0))):
 Calls Tryz.prog 61 #[.slice (some ⟨B1,0,none⟩) 1 1,.slice (some ⟨B2,0,none⟩) 1 1] w fun e w'=>e=.returned (.bool true)∧Below w.heap.size w w':=by
 have c0:=Aaa h1 0
 have c1:=Aaa h1 1
 have d0:=Aaa h2 0
 have d1:=Aaa h2 1
 simp at c0 c1 d0 d1
 clear h1 h2
 go_enter Tryz.func61,Tryz.ntmps61
 go_wp2_with fail
 refine wp_loop_rounds 2 ?_
 rw[rounds_succ]
 go_wp2_with fail
 go_quiet (fail)
 go_wp2_with fail
 rw[rounds_succ]
 go_wp2_with fail
 go_ret
 exact⟨rfl,Acp (Below.refl _ _) _⟩
abbrev instZero:Array Value:=#[.string ⟨#[]⟩,.int .i64 0,.string ⟨#[]⟩,.int .i64 0,.int .i64 0,.int .i64 0,.string ⟨#[]⟩,.string ⟨#[]⟩,.string ⟨#[]⟩,.string ⟨#[]⟩,.int .i64 0,.int .i64 0,.string ⟨#[]⟩,.string ⟨#[]⟩,.string ⟨#[]⟩]
abbrev lotZero:Array Value:=#[.string ⟨#[]⟩,.string ⟨#[]⟩,.int .i64 0,.int .i64 0,.string ⟨#[]⟩,.string ⟨#[]⟩,.string ⟨#[]⟩]
structure XG(w:World)(b:Nat)(W:World):Prop where
 r0:W.heap[w.heap.size]?=some (.cells instZero 27 (0,0))
 r1:W.heap[w.heap.size+1]?=some (.cells lotZero 63 (0,0))
 ib:W.heap[b]?=some (.cells #[.string ⟨#[98]⟩,.int .i64 2,.string ⟨#[85,83,68]⟩,.int .i64 0,.int .i64 19736,.int .i64 20102,.string ⟨#[49,48,48,48]⟩,.string ⟨#[]⟩,.string ⟨#[]⟩,.string ⟨#[]⟩,.int .i64 12,.int .i64 3,.string ⟨#[]⟩,.string ⟨#[]⟩,.string ⟨#[]⟩] 27 (0,0))
 be:Below w.heap.size w W
 lt:w.heap.size+1<b
theorem XG.below{w:World}{b:Nat}{W W':World}(h:XG w b W)(hb:Below W.heap.size W W'):XG w b W' :=
 ⟨(hb.block _ (Aab.1 h.r0).1).trans h.r0,(hb.block _ (Aab.1 h.r1).1).trans h.r1,(hb.block _ (Aab.1 h.ib).1).trans h.ib,h.be.trans (hb.mono h.be.size),h.lt⟩
def C15(b:Nat)(W:World):Prop:=W.cell? ⟨b,0,none⟩=some (.string ⟨#[98]⟩)∧W.cell? ⟨b,1,none⟩=some (.int .i64 2)∧W.cell? ⟨b,2,none⟩=some (.string ⟨#[85,83,68]⟩)∧W.cell? ⟨b,3,none⟩=some (.int .i64 0)∧W.cell? ⟨b,4,none⟩=some (.int .i64 19736)∧W.cell? ⟨b,5,none⟩=some (.int .i64 20102)∧W.cell? ⟨b,6,none⟩=some (.string ⟨#[49,48,48,48]⟩)∧W.cell? ⟨b,7,none⟩=some (.string ⟨#[]⟩)∧W.cell? ⟨b,8,none⟩=some (.string ⟨#[]⟩)∧W.cell? ⟨b,9,none⟩=some (.string ⟨#[]⟩)∧W.cell? ⟨b,10,none⟩=some (.int .i64 12)∧W.cell? ⟨b,11,none⟩=some (.int .i64 3)∧W.cell? ⟨b,12,none⟩=some (.string ⟨#[]⟩)∧W.cell? ⟨b,13,none⟩=some (.string ⟨#[]⟩)∧W.cell? ⟨b,14,none⟩=some (.string ⟨#[]⟩)
theorem XG.c15{w:World}{b:Nat}{W:World}(h:XG w b W):C15 b W:=⟨Aaa h.ib 0,Aaa h.ib 1,Aaa h.ib 2,Aaa h.ib 3,Aaa h.ib 4,Aaa h.ib 5,Aaa h.ib 6,Aaa h.ib 7,Aaa h.ib 8,Aaa h.ib 9,Aaa h.ib 10,Aaa h.ib 11,Aaa h.ib 12,Aaa h.ib 13,Aaa h.ib 14⟩
theorem day_g{w:World}{b:Nat}(W:World)(h:XG w b W):Calls Tryz.prog 59 #[.int .i64 2024,.int .i64 1,.int .i64 15] W fun e wn=>e=.returned (.int .i64 19737)∧XG w b wn∧C15 b wn:=by
 refine (day_c W).mono ?_
 rintro e wn ⟨rfl,bn⟩
 exact⟨rfl,h.below bn,(h.below bn).c15⟩
theorem Ast(w:World)(ht:Tabs w):Calls Tryz.prog 29 #[.string ⟨#[49,48,48,48]⟩] w fun e w'=>e=.returned (.agg #[.string ⟨#[49,48,48,48]⟩,.string ⟨#[]⟩])∧Below w.heap.size w w':=by
 have:=Aik ⟨#[49,48,48,48]⟩ w (by show 4≤_;omega) ht
 rw[v1000] at this
 exact this
structure X4(w:World)(W:World):Prop where
 r0:W.heap[w.heap.size]?=some (.cells #[.string ⟨#[98]⟩,.int .i64 2,.string ⟨#[85,83,68]⟩,.int .i64 0,.int .i64 19736,.int .i64 20102,.string ⟨#[49,48,48,48]⟩,.string ⟨#[]⟩,.string ⟨#[]⟩,.string ⟨#[]⟩,.int .i64 12,.int .i64 3,.string ⟨#[]⟩,.string ⟨#[]⟩,.string ⟨#[]⟩] 27 (0,0))
 r1:W.heap[w.heap.size+1]?=some (.cells lotZero 63 (0,0))
 be:Below w.heap.size w W
structure X5(w:World)(W:World):Prop where
 r0:W.heap[w.heap.size]?=some (.cells #[.string ⟨#[98]⟩,.int .i64 2,.string ⟨#[85,83,68]⟩,.int .i64 0,.int .i64 19736,.int .i64 20102,.string ⟨#[49,48,48,48]⟩,.string ⟨#[]⟩,.string ⟨#[]⟩,.string ⟨#[]⟩,.int .i64 12,.int .i64 3,.string ⟨#[]⟩,.string ⟨#[]⟩,.string ⟨#[]⟩] 27 (0,0))
 r1:W.heap[w.heap.size+1]?=some (.cells #[.string ⟨#[120,47,49]⟩,.string ⟨#[98]⟩,.int .i64 19737,.int .i64 19737,.string ⟨#[49,48]⟩,.string ⟨#[57,56,48,48]⟩,.string ⟨#[]⟩] 63 (0,0))
 be:Below w.heap.size w W
theorem put15{w:World}{b:Nat}{a0 a1 a2 a3 a4 a5 a6 a7 a8 a9 a10 a11 a12 a13 a14:Value}{t:TypeId}{m:Nat×Nat}(h:w.heap[b]?=some (.cells #[a0,a1,a2,a3,a4,a5,a6,a7,a8,a9,a10,a11,a12,a13,a14] t m))(x0 x1 x2 x3 x4 x5 x6 x7 x8 x9 x10 x11 x12 x13 x14:Value):
 (((((((((((((((w.setCell ⟨b,0,none⟩ x0).setCell ⟨b,1,none⟩ x1).setCell ⟨b,2,none⟩ x2).setCell ⟨b,3,none⟩ x3).setCell ⟨b,4,none⟩ x4).setCell ⟨b,5,none⟩ x5).setCell ⟨b,6,none⟩ x6).setCell ⟨b,7,none⟩ x7).setCell ⟨b,8,none⟩ x8).setCell ⟨b,9,none⟩ x9).setCell ⟨b,10,none⟩ x10).setCell ⟨b,11,none⟩ x11).setCell ⟨b,12,none⟩ x12).setCell ⟨b,13,none⟩ x13).setCell ⟨b,14,none⟩ x14).heap[b]?=some (.cells #[x0,x1,x2,x3,x4,x5,x6,x7,x8,x9,x10,x11,x12,x13,x14] t m):=by
 simp[World.setCell,Array.getElem?_modify,h]
theorem below15{w W:World}{b:Nat}(hb:w.heap.size≤b)(h:Below w.heap.size w W)(x0 x1 x2 x3 x4 x5 x6 x7 x8 x9 x10 x11 x12 x13 x14:Value):
 Below w.heap.size w (((((((((((((((W.setCell ⟨b,0,none⟩ x0).setCell ⟨b,1,none⟩ x1).setCell ⟨b,2,none⟩ x2).setCell ⟨b,3,none⟩ x3).setCell ⟨b,4,none⟩ x4).setCell ⟨b,5,none⟩ x5).setCell ⟨b,6,none⟩ x6).setCell ⟨b,7,none⟩ x7).setCell ⟨b,8,none⟩ x8).setCell ⟨b,9,none⟩ x9).setCell ⟨b,10,none⟩ x10).setCell ⟨b,11,none⟩ x11).setCell ⟨b,12,none⟩ x12).setCell ⟨b,13,none⟩ x13).setCell ⟨b,14,none⟩ x14) :=
 (((((((((((((((h.setCell (p:=⟨b,0,none⟩) hb x0).setCell (p:=⟨b,1,none⟩) hb x1).setCell (p:=⟨b,2,none⟩) hb x2).setCell (p:=⟨b,3,none⟩) hb x3).setCell (p:=⟨b,4,none⟩) hb x4).setCell (p:=⟨b,5,none⟩) hb x5).setCell (p:=⟨b,6,none⟩) hb x6).setCell (p:=⟨b,7,none⟩) hb x7).setCell (p:=⟨b,8,none⟩) hb x8).setCell (p:=⟨b,9,none⟩) hb x9).setCell (p:=⟨b,10,none⟩) hb x10).setCell (p:=⟨b,11,none⟩) hb x11).setCell (p:=⟨b,12,none⟩) hb x12).setCell (p:=⟨b,13,none⟩) hb x13).setCell (p:=⟨b,14,none⟩) hb x14)
theorem far15{W:World}{b k:Nat}(hk:k≠b)(x0 x1 x2 x3 x4 x5 x6 x7 x8 x9 x10 x11 x12 x13 x14:Value):
 (((((((((((((((W.setCell ⟨b,0,none⟩ x0).setCell ⟨b,1,none⟩ x1).setCell ⟨b,2,none⟩ x2).setCell ⟨b,3,none⟩ x3).setCell ⟨b,4,none⟩ x4).setCell ⟨b,5,none⟩ x5).setCell ⟨b,6,none⟩ x6).setCell ⟨b,7,none⟩ x7).setCell ⟨b,8,none⟩ x8).setCell ⟨b,9,none⟩ x9).setCell ⟨b,10,none⟩ x10).setCell ⟨b,11,none⟩ x11).setCell ⟨b,12,none⟩ x12).setCell ⟨b,13,none⟩ x13).setCell ⟨b,14,none⟩ x14).heap[k]?=W.heap[k]?:=by
 simp[World.setCell,Array.getElem?_modify,Ne.symm hk]
structure ExJ(w:World)(b:Nat)(L:Array Bool)(a:Act)(W:World):Prop where
 sz:L.size=6
 fr:∃s7 s8 s9 s10:Value,a={tmps:=#[.pointer (some ⟨w.heap.size,0,none⟩),.pointer (some ⟨w.heap.size+1,0,none⟩),.pointer (some ⟨b,0,none⟩),.int .i64 19736,.int .i64 20102,.agg #[.string ⟨#[49,48,48,48]⟩,.string ⟨#[]⟩],.agg #[.string ⟨#[98]⟩,.int .i64 2,.string ⟨#[85,83,68]⟩,.int .i64 0,.int .i64 19736,.int .i64 20102,.string ⟨#[49,48,48,48]⟩,.string ⟨#[]⟩,.string ⟨#[]⟩,.string ⟨#[]⟩,.int .i64 12,.int .i64 3,.string ⟨#[]⟩,.string ⟨#[]⟩,.string ⟨#[]⟩],s7,s8,s9,s10],defers:=[]}∧(L.getD 0 false=true→s7=.agg #[.string ⟨#[98]⟩,.int .i64 2,.string ⟨#[85,83,68]⟩,.int .i64 0,.int .i64 19736,.int .i64 20102,.string ⟨#[49,48,48,48]⟩,.string ⟨#[]⟩,.string ⟨#[]⟩,.string ⟨#[]⟩,.int .i64 12,.int .i64 3,.string ⟨#[]⟩,.string ⟨#[]⟩,.string ⟨#[]⟩])∧(L.getD 1 false=true→s8=.int .i64 19737)∧(L.getD 2 false=true→s9=.int .i64 19737)∧(L.getD 3 false=true→s10=.agg #[.string ⟨#[120,47,49]⟩,.string ⟨#[98]⟩,.int .i64 19737,.int .i64 19737,.string ⟨#[49,48]⟩,.string ⟨#[57,56,48,48]⟩,.string ⟨#[]⟩])
 d4:L.getD 4 false=true→L.getD 0 false=true∧L.getD 1 false=true∧L.getD 2 false=true
 d5:L.getD 5 false=true→L.getD 4 false=true
 d2:L.getD 2 false=true→L.getD 1 false=true
 wa:L.getD 4 false=false→XG w b W
 wb:L.getD 4 false=true→L.getD 5 false=false→X4 w W
 wc:L.getD 5 false=true→X5 w W
theorem Asu(w:World)(ht:Tabs w):Calls Tryz.prog 57 #[] w fun e w'=>e=.returned (.tuple #[i0.enc,l0.enc])∧Below w.heap.size w w':=by
 obtain⟨W0,hW0',hB0,hz,k0,k1⟩:=box2 w (.cells instZero 27) (.cells lotZero 63)
 have hW0:=hW0'.symm
 have HT:=hI ht
 have HB0:=hI hB0
 have HK0:=hI k0
 have HK1:=hI k1
 clear hW0' ht hB0 k0 k1 hz
 go_enter Tryz.func57,Tryz.ntmps57
 go_wp2_with fail
 refine (day_a _).mono ?_
 rintro e w1 ⟨rfl,b1⟩
 have HB1:=hI (HB0.out.trans (b1.mono HB0.out.size))
 have HA0:=hI ((b1.block _ (Aab.1 HK0.out).1).trans HK0.out)
 have HA1:=hI ((b1.block _ (Aab.1 HK1.out).1).trans HK1.out)
 clear b1 HB0 HK0 HK1 hW0
 go_wp2_with fail
 refine (day_b _).mono ?_
 rintro e w2 ⟨rfl,b2⟩
 have HB2:=hI (HB1.out.trans (b2.mono HB1.out.size))
 have HK0:=hI ((b2.block _ (Aab.1 HA0.out).1).trans HA0.out)
 have HK1:=hI ((b2.block _ (Aab.1 HA1.out).1).trans HA1.out)
 clear b2 HB1 HA0 HA1
 go_wp2_with fail
 refine (Ast _ (HT.out.below HB2.out)).mono ?_
 rintro e w3 ⟨rfl,b3⟩
 have HB3:=hI (HB2.out.trans (b3.mono HB2.out.size))
 have HA0:=hI ((b3.block _ (Aab.1 HK0.out).1).trans HK0.out)
 have HA1:=hI ((b3.block _ (Aab.1 HK1.out).1).trans HK1.out)
 have hl3:w.heap.size+1<w3.heap.size:=(Aab.1 HA1.out).1
 clear b3 HB2 HK0 HK1
 go_wp2_with fail
 obtain⟨W4,hW4⟩:∃W4,w3.alloc (.cells #[.string ⟨#[98]⟩,.int .i64 2,.string ⟨#[85,83,68]⟩,.int .i64 0,.int .i64 19736,.int .i64 20102,.string ⟨#[49,48,48,48]⟩,.string ⟨#[]⟩,.string ⟨#[]⟩,.string ⟨#[]⟩,.int .i64 12,.int .i64 3,.string ⟨#[]⟩,.string ⟨#[]⟩,.string ⟨#[]⟩] 27)=W4:=⟨_,rfl⟩
 have b4:Below w3.heap.size w3 W4:=by rw[←hW4];exact (Below.refl _ w3).alloc (Aad _) _
 have hg:XG w w3.heap.size W4:=⟨(b4.block _ (by omega)).trans HA0.out,(b4.block _ (by omega)).trans HA1.out,by rw[←hW4];exact Aaz w3 _,HB3.out.trans (b4.mono HB3.out.size),hl3⟩
 have ne1:w.heap.size≠w3.heap.size:=by omega
 have ne2:w.heap.size+1≠w3.heap.size:=by omega
 obtain⟨c0,c1,c2,c3,c4,c5,c6,c7,c8,c9,c10,c11,c12,c13,c14⟩:=hg.c15
 rw[hW4]
 generalize w3.heap.size=b at hg ⊢
 have hN:XG w b W4.drew:=hg.below (Below.refl _ _).drew
 have mixed:Tryz.prog.follows .mixedOrders=true:=by kernel_rfl
 clear b4 HA0 HA1 HB3 hW4 hl3 hg c0 c1 c2 c3 c4 c5 c6 c7 c8 c9 c10 c11 c12 c13 c14 ne1 ne2
 refine wp_region_any mixed (Arn (ExJ w b) ?st ?dn _ _ _ _ ?h0 (by decide))
 case h0 =>
  refine⟨by simp,⟨_,_,_,_,rfl,?_,?_,?_,?_⟩,?_,?_,?_,fun _=>hN,?_,?_⟩<;>intro h<;>simp at h
 case dn =>
  intro L a w' hj hr
  have no:=List.eq_nil_iff_forall_not_mem.1 hr
  have on0:L.getD 0 false=true:=(Ap7 L 0).resolve_left fun h=>no 0 (Ap8 (by rw[hj.sz];decide) h rfl (fun e he hb=>by simp at he))
  have on1:L.getD 1 false=true:=(Ap7 L 1).resolve_left fun h=>no 1 (Ap8 (by rw[hj.sz];decide) h rfl (fun e he hb=>by simp at he))
  have on2:L.getD 2 false=true:=(Ap7 L 2).resolve_left fun h=>no 2 (Ap8 (by rw[hj.sz];decide) h rfl (fun e he hb=>by simp at he;subst he;exact on1))
  have on3:L.getD 3 false=true:=(Ap7 L 3).resolve_left fun h=>no 3 (Ap8 (by rw[hj.sz];decide) h rfl (fun e he hb=>by simp at he;rcases he with rfl|rfl|rfl<;>first|exact on1|exact on2|exact absurd hb (by decide)))
  have on4:L.getD 4 false=true:=(Ap7 L 4).resolve_left fun h=>no 4 (Ap8 (by rw[hj.sz];decide) h rfl (fun e he hb=>by simp at he;rcases he with rfl|rfl|rfl|rfl|rfl|rfl<;>first|exact on0|exact on2|exact on1|exact on3|exact absurd hb (by decide)))
  have on5:L.getD 5 false=true:=(Ap7 L 5).resolve_left fun h=>no 5 (Ap8 (by rw[hj.sz];decide) h rfl (fun e he hb=>by simp at he;rcases he with rfl|rfl|rfl|rfl|rfl|rfl|rfl<;>first|exact on3|exact on4|exact on0|exact on1|exact on2|exact absurd hb (by decide)))
  have hx:=hj.wc on5
  obtain⟨s7,s8,s9,s10,rfl,_⟩:=hj.fr
  have z0:=hx.r0
  have z1:=hx.r1
  have hbe:=hx.be
  obtain⟨p0,p1,p2,p3,p4,p5,p6,p7,p8,p9,p10,p11,p12,p13,p14⟩:=Acq z0
  obtain⟨q0,q1,q2,q3,q4,q5,q6⟩:=Acr z1
  clear z0 z1 hx no hr hj on0 on1 on2 on3 on4 on5
  go_wp2_with fail
  exact bodyPost_ret (v:=.tuple #[.agg #[.string ⟨#[98]⟩,.int .i64 2,.string ⟨#[85,83,68]⟩,.int .i64 0,.int .i64 19736,.int .i64 20102,.string ⟨#[49,48,48,48]⟩,.string ⟨#[]⟩,.string ⟨#[]⟩,.string ⟨#[]⟩,.int .i64 12,.int .i64 3,.string ⟨#[]⟩,.string ⟨#[]⟩,.string ⟨#[]⟩],.agg #[.string ⟨#[120,47,49]⟩,.string ⟨#[98]⟩,.int .i64 19737,.int .i64 19737,.string ⟨#[49,48]⟩,.string ⟨#[57,56,48,48]⟩,.string ⟨#[]⟩]]) (by simp[results,Tryz.results57,go_sem,p0,p1,p2,p3,p4,p5,p6,p7,p8,p9,p10,p11,p12,p13,p14,q0,q1,q2,q3,q4,q5,q6]) rfl ⟨rfl,hbe⟩
 case st =>
  intro L a w' hj i hi
  obtain⟨hun,o,ho,hall⟩:=mem_ready.1 hi
  have hoff:=Ap2 hun
  have hlt:=(Aab.1 ho).1
  simp at hlt
  obtain⟨s7,s8,s9,s10,rfl,p⟩:=hj.fr
  have HP:=hI p
  have HJ:=hI hj
  clear p hj hN
  rcases (show i=0∨i=1∨i=2∨i=3∨i=4∨i=5 from by omega) with rfl|rfl|rfl|rfl|rfl|rfl
  ·simp at ho
   subst ho
   clear hall hi
   have h4:L.getD 4 false=false:=(Ap7 L 4).resolve_right fun h=>Ap6 hoff (HJ.out.d4 h).1
   obtain⟨c0,c1,c2,c3,c4,c5,c6,c7,c8,c9,c10,c11,c12,c13,c14⟩:=(HJ.out.wa h4).c15
   refine Ap9 rfl fun K' HK=>?_
   go_simp
   exact HK.out _ _ ⟨by simp[HJ.out.sz],⟨_,_,_,_,rfl,fun _=>rfl,fun h=>HP.out.2.1 (Ap4 h),fun h=>HP.out.2.2.1 (Ap4 h),fun h=>HP.out.2.2.2 (Ap4 h)⟩,fun h=>let k:=HJ.out.d4 (Ap4 h);⟨Ap3 hun k.1,Ap3 hun k.2.1,Ap3 hun k.2.2⟩,fun h=>Ap3 hun (HJ.out.d5 (Ap4 h)),fun h=>Ap3 hun (HJ.out.d2 (Ap4 h)),fun h=>HJ.out.wa (Ap5 h),fun h h'=>HJ.out.wb (Ap4 h) (Ap5 h'),fun h=>HJ.out.wc (Ap4 h)⟩
  ·simp at ho
   subst ho
   clear hall hi
   have h4:L.getD 4 false=false:=(Ap7 L 4).resolve_right fun h=>Ap6 hoff (HJ.out.d4 h).2.1
   have hgw:=HJ.out.wa h4
   refine Ap9 rfl fun K' HK=>?_
   go_simp
   refine (day_g _ hgw).mono ?_
   rintro e wn ⟨rfl,hgn,_⟩
   exact HK.out _ _ ⟨by simp[HJ.out.sz],⟨_,_,_,_,rfl,fun h=>HP.out.1 (Ap4 h),fun _=>rfl,fun h=>HP.out.2.2.1 (Ap4 h),fun h=>HP.out.2.2.2 (Ap4 h)⟩,fun h=>let k:=HJ.out.d4 (Ap4 h);⟨Ap3 hun k.1,Ap3 hun k.2.1,Ap3 hun k.2.2⟩,fun h=>Ap3 hun (HJ.out.d5 (Ap4 h)),fun h=>Ap3 hun (HJ.out.d2 (Ap4 h)),fun _=>hgn,fun h _=>(Ap6 hoff (HJ.out.d4 (Ap4 h)).2.1).elim,fun h=>(Ap6 hoff (HJ.out.d4 (HJ.out.d5 (Ap4 h))).2.1).elim⟩
  ·simp at ho
   subst ho
   have h1x:L.getD 1 false=true:=hall {on:=1,ground:=Ground.chain} (by simp) (by decide)
   have HALL:=hI h1x
   clear hall hi h1x
   have h4:L.getD 4 false=false:=(Ap7 L 4).resolve_right fun h=>Ap6 hoff (HJ.out.d4 h).2.2
   have hgw:=HJ.out.wa h4
   refine Ap9 rfl fun K' HK=>?_
   go_simp
   refine (day_g _ hgw).mono ?_
   rintro e wn ⟨rfl,hgn,_⟩
   exact HK.out _ _ ⟨by simp[HJ.out.sz],⟨_,_,_,_,rfl,fun h=>HP.out.1 (Ap4 h),fun h=>HP.out.2.1 (Ap4 h),fun _=>rfl,fun h=>HP.out.2.2.2 (Ap4 h)⟩,fun h=>let k:=HJ.out.d4 (Ap4 h);⟨Ap3 hun k.1,Ap3 hun k.2.1,Ap3 hun k.2.2⟩,fun h=>Ap3 hun (HJ.out.d5 (Ap4 h)),fun _=>Ap3 hun HALL.out,fun _=>hgn,fun h _=>(Ap6 hoff (HJ.out.d4 (Ap4 h)).2.2).elim,fun h=>(Ap6 hoff (HJ.out.d4 (HJ.out.d5 (Ap4 h))).2.2).elim⟩
  ·simp at ho
   subst ho
   have h1x:L.getD 1 false=true:=hall {on:=1,ground:=Ground.data} (by simp) (by decide)
   have h2x:L.getD 2 false=true:=hall {on:=2,ground:=Ground.data} (by simp) (by decide)
   have HALL:=hI (And.intro h1x h2x)
   clear hall hi h1x h2x
   have e8:=HP.out.2.1 HALL.out.1
   have e9:=HP.out.2.2.1 HALL.out.2
   subst e8 e9
   refine Ap9 rfl fun K' HK=>?_
   go_simp
   exact HK.out _ _ ⟨by simp[HJ.out.sz],⟨_,_,_,_,rfl,fun h=>HP.out.1 (Ap4 h),fun h=>HP.out.2.1 (Ap4 h),fun h=>HP.out.2.2.1 (Ap4 h),fun _=>rfl⟩,fun h=>let k:=HJ.out.d4 (Ap4 h);⟨Ap3 hun k.1,Ap3 hun k.2.1,Ap3 hun k.2.2⟩,fun h=>Ap3 hun (HJ.out.d5 (Ap4 h)),fun h=>Ap3 hun (HJ.out.d2 (Ap4 h)),fun h=>HJ.out.wa (Ap5 h),fun h h'=>HJ.out.wb (Ap4 h) (Ap5 h'),fun h=>HJ.out.wc (Ap4 h)⟩
  ·simp at ho
   subst ho
   have h0x:L.getD 0 false=true:=hall {on:=0,ground:=Ground.data} (by simp) (by decide)
   have h2x:L.getD 2 false=true:=hall {on:=2,ground:=Ground.chain} (by simp) (by decide)
   have HALL:=hI (And.intro h0x h2x)
   clear hall hi h0x h2x
   have e7:=HP.out.1 HALL.out.1
   subst e7
   have hgw:=HJ.out.wa hoff
   have z0:=hgw.r0
   obtain⟨p0,p1,p2,p3,p4,p5,p6,p7,p8,p9,p10,p11,p12,p13,p14⟩:=Acq z0
   have f0:=Aaf z0 0
   have f1:=Aaf z0 1
   have f2:=Aaf z0 2
   have f3:=Aaf z0 3
   have f4:=Aaf z0 4
   have f5:=Aaf z0 5
   have f6:=Aaf z0 6
   have f7:=Aaf z0 7
   have f8:=Aaf z0 8
   have f9:=Aaf z0 9
   have f10:=Aaf z0 10
   have f11:=Aaf z0 11
   have f12:=Aaf z0 12
   have f13:=Aaf z0 13
   have f14:=Aaf z0 14
   have hx4:X4 w (((((((((((((((w'.setCell ⟨w.heap.size,0,none⟩ (.string ⟨#[98]⟩)).setCell ⟨w.heap.size,1,none⟩ (.int .i64 2)).setCell ⟨w.heap.size,2,none⟩ (.string ⟨#[85,83,68]⟩)).setCell ⟨w.heap.size,3,none⟩ (.int .i64 0)).setCell ⟨w.heap.size,4,none⟩ (.int .i64 19736)).setCell ⟨w.heap.size,5,none⟩ (.int .i64 20102)).setCell ⟨w.heap.size,6,none⟩ (.string ⟨#[49,48,48,48]⟩)).setCell ⟨w.heap.size,7,none⟩ (.string ⟨#[]⟩)).setCell ⟨w.heap.size,8,none⟩ (.string ⟨#[]⟩)).setCell ⟨w.heap.size,9,none⟩ (.string ⟨#[]⟩)).setCell ⟨w.heap.size,10,none⟩ (.int .i64 12)).setCell ⟨w.heap.size,11,none⟩ (.int .i64 3)).setCell ⟨w.heap.size,12,none⟩ (.string ⟨#[]⟩)).setCell ⟨w.heap.size,13,none⟩ (.string ⟨#[]⟩)).setCell ⟨w.heap.size,14,none⟩ (.string ⟨#[]⟩)):=⟨put15 z0 (.string ⟨#[98]⟩) (.int .i64 2) (.string ⟨#[85,83,68]⟩) (.int .i64 0) (.int .i64 19736) (.int .i64 20102) (.string ⟨#[49,48,48,48]⟩) (.string ⟨#[]⟩) (.string ⟨#[]⟩) (.string ⟨#[]⟩) (.int .i64 12) (.int .i64 3) (.string ⟨#[]⟩) (.string ⟨#[]⟩) (.string ⟨#[]⟩),(far15 (by omega) (.string ⟨#[98]⟩) (.int .i64 2) (.string ⟨#[85,83,68]⟩) (.int .i64 0) (.int .i64 19736) (.int .i64 20102) (.string ⟨#[49,48,48,48]⟩) (.string ⟨#[]⟩) (.string ⟨#[]⟩) (.string ⟨#[]⟩) (.int .i64 12) (.int .i64 3) (.string ⟨#[]⟩) (.string ⟨#[]⟩) (.string ⟨#[]⟩)).trans hgw.r1,below15 (Aad _) hgw.be (.string ⟨#[98]⟩) (.int .i64 2) (.string ⟨#[85,83,68]⟩) (.int .i64 0) (.int .i64 19736) (.int .i64 20102) (.string ⟨#[49,48,48,48]⟩) (.string ⟨#[]⟩) (.string ⟨#[]⟩) (.string ⟨#[]⟩) (.int .i64 12) (.int .i64 3) (.string ⟨#[]⟩) (.string ⟨#[]⟩) (.string ⟨#[]⟩)⟩
   have HX:=hI hx4
   clear z0 hgw hx4
   refine Ap9 rfl fun K' HK=>?_
   go_simp
   have hx4:=HX.out
   exact HK.out _ _ ⟨by simp[HJ.out.sz],⟨_,_,_,_,rfl,fun h=>HP.out.1 (Ap4 h),fun h=>HP.out.2.1 (Ap4 h),fun h=>HP.out.2.2.1 (Ap4 h),fun h=>HP.out.2.2.2 (Ap4 h)⟩,fun _=>⟨Ap3 hun HALL.out.1,Ap3 hun (HJ.out.d2 HALL.out.2),Ap3 hun HALL.out.2⟩,fun h=>Ap3 hun (HJ.out.d5 (Ap4 h)),fun h=>Ap3 hun (HJ.out.d2 (Ap4 h)),fun h=>(Ap6 h (Ap0 hun)).elim,fun _ _=>hx4,fun h=>(Ap6 hoff (HJ.out.d5 (Ap4 h))).elim⟩
  ·simp at ho
   subst ho
   have h3x:L.getD 3 false=true:=hall {on:=3,ground:=Ground.data} (by simp) (by decide)
   have h4x:L.getD 4 false=true:=hall {on:=4,ground:=Ground.chain} (by simp) (by decide)
   have HALL:=hI (And.intro h3x h4x)
   clear hall hi h3x h4x
   have e10:=HP.out.2.2.2 HALL.out.1
   subst e10
   have hgw:=HJ.out.wb HALL.out.2 hoff
   have z1:=hgw.r1
   obtain⟨p0,p1,p2,p3,p4,p5,p6⟩:=Acr z1
   obtain⟨f0,f1,f2,f3,f4,f5,f6⟩:=Acs z1
   have hx5:X5 w (((((((w'.setCell ⟨(w.heap.size+1),0,none⟩ (.string ⟨#[120,47,49]⟩)).setCell ⟨(w.heap.size+1),1,none⟩ (.string ⟨#[98]⟩)).setCell ⟨(w.heap.size+1),2,none⟩ (.int .i64 19737)).setCell ⟨(w.heap.size+1),3,none⟩ (.int .i64 19737)).setCell ⟨(w.heap.size+1),4,none⟩ (.string ⟨#[49,48]⟩)).setCell ⟨(w.heap.size+1),5,none⟩ (.string ⟨#[57,56,48,48]⟩)).setCell ⟨(w.heap.size+1),6,none⟩ (.string ⟨#[]⟩)):=⟨(far7 (by omega) (.string ⟨#[120,47,49]⟩) (.string ⟨#[98]⟩) (.int .i64 19737) (.int .i64 19737) (.string ⟨#[49,48]⟩) (.string ⟨#[57,56,48,48]⟩) (.string ⟨#[]⟩)).trans hgw.r0,set7 z1 (.string ⟨#[120,47,49]⟩) (.string ⟨#[98]⟩) (.int .i64 19737) (.int .i64 19737) (.string ⟨#[49,48]⟩) (.string ⟨#[57,56,48,48]⟩) (.string ⟨#[]⟩),Asi (by omega) hgw.be (.string ⟨#[120,47,49]⟩) (.string ⟨#[98]⟩) (.int .i64 19737) (.int .i64 19737) (.string ⟨#[49,48]⟩) (.string ⟨#[57,56,48,48]⟩) (.string ⟨#[]⟩)⟩
   have HX:=hI hx5
   clear z1 hgw hx5
   refine Ap9 rfl fun K' HK=>?_
   go_simp
   have hx5:=HX.out
   exact HK.out _ _ ⟨by simp[HJ.out.sz],⟨_,_,_,_,rfl,fun h=>HP.out.1 (Ap4 h),fun h=>HP.out.2.1 (Ap4 h),fun h=>HP.out.2.2.1 (Ap4 h),fun h=>HP.out.2.2.2 (Ap4 h)⟩,fun h=>let k:=HJ.out.d4 (Ap4 h);⟨Ap3 hun k.1,Ap3 hun k.2.1,Ap3 hun k.2.2⟩,fun _=>Ap3 hun HALL.out.2,fun h=>Ap3 hun (HJ.out.d2 (Ap4 h)),fun h=>(Ap6 (Ap5 h) HALL.out.2).elim,fun _ h'=>(Ap6 h' (Ap0 hun)).elim,fun _=>hx5⟩
end Go.Proofs.YtcnmoobojdopgaaGreatDoor
