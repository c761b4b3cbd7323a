/-
  The walk of tranchelaw39.awake: the examples of the chapter. (Printed by gen_law3.py.)
-/
import Derived.Test.YtcnmoobojdopgaaGreatDoorI22
import Derived.Deep.DeepCutAuto
import Derived.Deep.RegionHeld3
set_option linter.unusedVariables false
set_option linter.unusedSimpArgs false
set_option maxHeartbeats 16000000
set_option maxRecDepth 100000
namespace Go.Proofs.YtcnmoobojdopgaaGreatDoor
open Go.RowKit Tr Go.Shelf
structure AG(w:World)(b:Nat)(W:World):Prop where
 ib:W.heap[b]?=some (.cells #[.string ⟨#[98]⟩,.int .i64 2,.string ⟨#[85,83,68]⟩,.int .i64 0,.int .i64 19736,.int .i64 20102,.string ⟨#[49,48,48,48]⟩,.string ⟨#[]⟩,.string ⟨#[]⟩,.string ⟨#[]⟩,.int .i64 12,.int .i64 3,.string ⟨#[]⟩,.string ⟨#[]⟩,.string ⟨#[]⟩] 27 (0,0))
 lb:W.heap[b+1]?=some (.cells #[.string ⟨#[120,47,49]⟩,.string ⟨#[98]⟩,.int .i64 19737,.int .i64 19737,.string ⟨#[49,48]⟩,.string ⟨#[57,56,48,48]⟩,.string ⟨#[]⟩] 63 (0,0))
 be:Below w.heap.size w W
 lo:w.heap.size≤b
theorem AG.below{w:World}{b:Nat}{W W':World}(h:AG w b W)(hb:Below W.heap.size W W'):AG w b W' :=
 ⟨(hb.block _ (Aab.1 h.ib).1).trans h.ib,(hb.block _ (Aab.1 h.lb).1).trans h.lb,h.be.trans (hb.mono h.be.size),h.lo⟩
def C22(b:Nat)(W:World):Prop:=W.cell? ⟨b,0,none⟩=some (.string ⟨#[98]⟩)∧W.cell? ⟨b,1,none⟩=some (.int .i64 2)∧W.cell? ⟨b,2,none⟩=some (.string ⟨#[85,83,68]⟩)∧W.cell? ⟨b,3,none⟩=some (.int .i64 0)∧W.cell? ⟨b,4,none⟩=some (.int .i64 19736)∧W.cell? ⟨b,5,none⟩=some (.int .i64 20102)∧W.cell? ⟨b,6,none⟩=some (.string ⟨#[49,48,48,48]⟩)∧W.cell? ⟨b,7,none⟩=some (.string ⟨#[]⟩)∧W.cell? ⟨b,8,none⟩=some (.string ⟨#[]⟩)∧W.cell? ⟨b,9,none⟩=some (.string ⟨#[]⟩)∧W.cell? ⟨b,10,none⟩=some (.int .i64 12)∧W.cell? ⟨b,11,none⟩=some (.int .i64 3)∧W.cell? ⟨b,12,none⟩=some (.string ⟨#[]⟩)∧W.cell? ⟨b,13,none⟩=some (.string ⟨#[]⟩)∧W.cell? ⟨b,14,none⟩=some (.string ⟨#[]⟩)∧W.cell? ⟨b+1,0,none⟩=some (.string ⟨#[120,47,49]⟩)∧W.cell? ⟨b+1,1,none⟩=some (.string ⟨#[98]⟩)∧W.cell? ⟨b+1,2,none⟩=some (.int .i64 19737)∧W.cell? ⟨b+1,3,none⟩=some (.int .i64 19737)∧W.cell? ⟨b+1,4,none⟩=some (.string ⟨#[49,48]⟩)∧W.cell? ⟨b+1,5,none⟩=some (.string ⟨#[57,56,48,48]⟩)∧W.cell? ⟨b+1,6,none⟩=some (.string ⟨#[]⟩)
theorem AG.c22{w:World}{b:Nat}{W:World}(h:AG w b W):C22 b W:=⟨Aaa h.ib 0,Aaa h.ib 1,Aaa h.ib 2,Aaa h.ib 3,Aaa h.ib 4,Aaa h.ib 5,Aaa h.ib 6,Aaa h.ib 7,Aaa h.ib 8,Aaa h.ib 9,Aaa h.ib 10,Aaa h.ib 11,Aaa h.ib 12,Aaa h.ib 13,Aaa h.ib 14,Aaa h.lb 0,Aaa h.lb 1,Aaa h.lb 2,Aaa h.lb 3,Aaa h.lb 4,Aaa h.lb 5,Aaa h.lb 6⟩
theorem AG.lt{w:World}{b:Nat}{W:World}(h:AG w b W):b+1<W.heap.size:=(Aab.1 h.lb).1
theorem b0_ok:BOk i0 l0:=⟨i0_small,i0_ok,l0_sized,l0_ok,rfl⟩
def sl0:SLot:=⟨l0,l0_sized⟩
theorem own0:ownL [sl0] i0.id=[sl0]:=by
 unfold ownL
 rw[List.filter_cons_of_pos (by decide)];rfl
theorem a0_ok:AOk i0 [sl0] 20102 where
 small:=i0_small
 ok:=i0_ok
 lots:=⟨by decide,fun l hl=>by simp[sl0] at hl;subst hl;exact⟨l0_sized,l0_ok⟩,by simp⟩
 len:=by decide
 dy:=by unfold okDay;decide
theorem qsum0:qsum ((ownL [sl0] i0.id).map fun l=>An9 i0 l.1 20102)=200:=by
 rw[own0]
 show qsum [An9 i0 l0 20102]=200
 rw[ex1]
 show (0:Rat)+200=200
 exact Rat.zero_add _
theorem cost0:sumBy costOf (ownL [sl0] i0.id)=9800:=by
 rw[own0]
 show (0:Int)+vl l0.cost=9800
 rw[show vl l0.cost=9800 from v9800];rfl
theorem am_a{w:World}{b:Nat}(W:World)(h:AG w b W)(ht:Tabs w):Calls Tryz.prog 58 #[.agg #[.string ⟨#[98]⟩,.int .i64 2,.string ⟨#[85,83,68]⟩,.int .i64 0,.int .i64 19736,.int .i64 20102,.string ⟨#[49,48,48,48]⟩,.string ⟨#[]⟩,.string ⟨#[]⟩,.string ⟨#[]⟩,.int .i64 12,.int .i64 3,.string ⟨#[]⟩,.string ⟨#[]⟩,.string ⟨#[]⟩],.agg #[.string ⟨#[120,47,49]⟩,.string ⟨#[98]⟩,.int .i64 19737,.int .i64 19737,.string ⟨#[49,48]⟩,.string ⟨#[57,56,48,48]⟩,.string ⟨#[]⟩],.int .i64 19810] W fun e wn=>e=.returned (.tuple #[.string ⟨#[52,48]⟩,.int .i64 0])∧AG w b wn∧C22 b wn:=by
 refine (Arc i0 l0 19810 b0_ok (by unfold okDay;decide) W (ht.below h.be)).mono ?_
 rintro e wn ⟨rfl,bn⟩
 rw[ex0,r40]
 exact⟨rfl,h.below bn,(h.below bn).c22⟩
theorem am_b{w:World}{b:Nat}(W:World)(h:AG w b W)(ht:Tabs w):Calls Tryz.prog 58 #[.agg #[.string ⟨#[98]⟩,.int .i64 2,.string ⟨#[85,83,68]⟩,.int .i64 0,.int .i64 19736,.int .i64 20102,.string ⟨#[49,48,48,48]⟩,.string ⟨#[]⟩,.string ⟨#[]⟩,.string ⟨#[]⟩,.int .i64 12,.int .i64 3,.string ⟨#[]⟩,.string ⟨#[]⟩,.string ⟨#[]⟩],.agg #[.string ⟨#[120,47,49]⟩,.string ⟨#[98]⟩,.int .i64 19737,.int .i64 19737,.string ⟨#[49,48]⟩,.string ⟨#[57,56,48,48]⟩,.string ⟨#[]⟩],.int .i64 20102] W fun e wn=>e=.returned (.tuple #[.string ⟨#[50,48,48]⟩,.int .i64 0])∧AG w b wn∧C22 b wn:=by
 refine (Arc i0 l0 20102 b0_ok (by unfold okDay;decide) W (ht.below h.be)).mono ?_
 rintro e wn ⟨rfl,bn⟩
 rw[ex1,r200]
 exact⟨rfl,h.below bn,(h.below bn).c22⟩
theorem day_w{w:World}{b:Nat}(W:World)(h:AG w b W):Calls Tryz.prog 59 #[.int .i64 2024,.int .i64 3,.int .i64 28] W fun e wn=>e=.returned (.int .i64 19810)∧AG w b wn∧Below W.heap.size W wn∧C22 b wn:=by
 refine (day_d W).mono ?_
 rintro e wn ⟨rfl,bn⟩
 exact⟨rfl,h.below bn,bn,(h.below bn).c22⟩
theorem bk_a{w:World}{b:Nat}(B:Nat)(W:World)(h:AG w b W)(hB:W.heap[B]?=some (.cells #[.string ⟨#[120,47,49]⟩,.string ⟨#[98]⟩,.int .i64 19737,.int .i64 19737,.string ⟨#[49,48]⟩,.string ⟨#[57,56,48,48]⟩,.string ⟨#[]⟩] 63 (0,0)))(ht:Tabs w):Calls Tryz.prog 24 #[.agg #[.string ⟨#[98]⟩,.int .i64 2,.string ⟨#[85,83,68]⟩,.int .i64 0,.int .i64 19736,.int .i64 20102,.string ⟨#[49,48,48,48]⟩,.string ⟨#[]⟩,.string ⟨#[]⟩,.string ⟨#[]⟩,.int .i64 12,.int .i64 3,.string ⟨#[]⟩,.string ⟨#[]⟩,.string ⟨#[]⟩],.slice (some ⟨B,0,none⟩) 1 1,.int .i64 20102] W fun e wn=>e=.returned (.tuple #[.string ⟨#[49,48,48,48,48]⟩,.int .i64 0])∧AG w b wn∧C22 b wn:=by
 have hR:RdB W.heap.size W (some ⟨B,0,none⟩) [sl0]:=fun _=>⟨_,rfl,(Aab.1 hB).1,fun j l hj=>by
  have:j=0:=by rcases j with _|j;rfl;simp at hj
  subst this
  simp at hj
  subst hj
  exact⟨Aaa hB 0,Aaa hB 1,Aaa hB 2,Aaa hB 3,Aaa hB 4,Aaa hB 5,Aaa hB 6⟩⟩
 have:=Aq9 W.heap.size i0 (some ⟨B,0,none⟩) [sl0] 1 (by decide) 20102 a0_ok W hR (Aad _) (ht.below h.be) (by rw[qsum0,r200];show 3≤_;omega)
 rw[cost0,qsum0] at this
 refine this.mono ?_
 rintro e wn ⟨rfl,bn⟩
 exact⟨rfl,h.below bn,(h.below bn).c22⟩
def EffAt(n:Nat)(W:World)(e:Ending):Prop:=∃B:Nat,n≤B∧e=.returned (.tuple #[.agg #[.int .i64 18,.int .i64 19810,.string ⟨#[109,97,114,107,32,50,48,50,52,45,48,51,45,50,56,32,98]⟩,.string ⟨#[98]⟩,.string ⟨#[]⟩,.string ⟨#[85,83,68]⟩,.slice (some ⟨B,0,none⟩) 1 1],.bool true,.int .i64 0])∧W.heap[B]?=some (.cells #[.string ⟨#[97,109,111,117,110,116]⟩,.string ⟨#[52,48]⟩] 106 (0,0))
theorem ef_a{w:World}{b:Nat}(W:World)(h:AG w b W)(ht:Tabs w):Calls Tryz.prog 60 #[.int .i64 18,.int .i64 19810,.agg #[.string ⟨#[98]⟩,.int .i64 2,.string ⟨#[85,83,68]⟩,.int .i64 0,.int .i64 19736,.int .i64 20102,.string ⟨#[49,48,48,48]⟩,.string ⟨#[]⟩,.string ⟨#[]⟩,.string ⟨#[]⟩,.int .i64 12,.int .i64 3,.string ⟨#[]⟩,.string ⟨#[]⟩,.string ⟨#[]⟩],.string ⟨#[52,48]⟩] W fun e wn=>EffAt W.heap.size wn e∧AG w b wn∧Below W.heap.size W wn∧C22 b wn:=by
 refine (Arj 18 (by omega) 19810 (by unfold okDay;decide) i0 i0_small i0_ok ⟨#[52,48]⟩ (by unfold Can;decide) (by decide) (by decide) W (ht.below h.be)).mono ?_
 rintro e wn ⟨B,rfl,hT,hB,bn⟩
 rw[show i0.id=⟨#[98]⟩ from rfl,cause0]
 exact⟨⟨B,hB,rfl,hT⟩,h.below bn,bn,(h.below bn).c22⟩
def eff0(B:Nat):Array Value:=#[.int .i64 18,.int .i64 19810,.string ⟨#[109,97,114,107,32,50,48,50,52,45,48,51,45,50,56,32,98]⟩,.string ⟨#[98]⟩,.string ⟨#[]⟩,.string ⟨#[85,83,68]⟩,.slice (some ⟨B,0,none⟩) 1 1]
def effT(B:Nat):Value:=.tuple #[.agg (eff0 B),.bool true,.int .i64 0]
structure EV(w:World)(b B9 B:Nat)(L:Array Bool)(W:World)(s9 s10 s11 s40 s41 s42 s43 s44 s45 s46:Value):Prop where
 k0:L.getD 0 false=true→s41=.int .i64 19810
 k1:L.getD 1 false=true→s42=.agg #[.string ⟨#[98]⟩,.int .i64 2,.string ⟨#[85,83,68]⟩,.int .i64 0,.int .i64 19736,.int .i64 20102,.string ⟨#[49,48,48,48]⟩,.string ⟨#[]⟩,.string ⟨#[]⟩,.string ⟨#[]⟩,.int .i64 12,.int .i64 3,.string ⟨#[]⟩,.string ⟨#[]⟩,.string ⟨#[]⟩]
 k2:L.getD 2 false=true→s43=effT B
 k3:L.getD 3 false=true→s40=effT B
 k4:L.getD 4 false=true→s44=.agg (eff0 B)
 k5:L.getD 5 false=true→s45=.bool true
 k6:L.getD 6 false=true→s46=.int .i64 0
 k7:L.getD 7 false=true→s9=.pointer (some ⟨B9,0,none⟩)
 k9:L.getD 9 false=true→s10=.bool true
 ka:L.getD 10 false=true→s11=.int .i64 0
 ag:AG w b W
 t:L.getD 2 false=true→W.heap[B]?=some (.cells #[.string ⟨#[97,109,111,117,110,116]⟩,.string ⟨#[52,48]⟩] 106 (0,0))
 n:L.getD 7 false=true→b+1<B9
 z:L.getD 7 false=true→L.getD 8 false=false→W.heap[B9]?=some (.cells effZero 101 (0,0))
 e:L.getD 8 false=true→W.heap[B9]?=some (.cells (eff0 B) 101 (0,0))
 d:L.getD 7 false=true→L.getD 2 false=true→B9≠B
 p3:L.getD 3 false=true→L.getD 2 false=true
 p4:L.getD 4 false=true→L.getD 2 false=true
 p8:L.getD 8 false=true→L.getD 2 false=true∧L.getD 7 false=true
structure EJ(w:World)(b:Nat)(x0 x2 x3 x4 x5 x6 x7 x8 x12 x13 x14 x15 x16 x17 x18 x19 x20 x21 x22 x23 x24 x25 x26 x27 x28 x29 x30 x31 x32 x33 x34 x35 x36 x37 x38 x39 x47 x48 x49 x50 x51 x52 x53 x54 x55 x56 x57 x58 x59 x60 x61 x62 x63 x64 x65 x66 x67 x68 x69 x70 x71 x72 x73 x74 x75 x76 x77 x78 x79 x80 x81 x82 x83 x84 x85 x86 x87:Value)(L:Array Bool)(a:Act)(W:World):Prop where
 sz:L.size=11
 fr:∃B9 B,∃s9 s10 s11 s40 s41 s42 s43 s44 s45 s46:Value,a={tmps:=#[x0,Value.pointer (some {block:=b,off:=0}),x2,x3,x4,x5,x6,x7,x8,s9,s10,s11,x12,x13,x14,x15,x16,x17,x18,x19,x20,x21,x22,x23,x24,x25,x26,x27,x28,x29,x30,x31,x32,x33,x34,x35,x36,x37,x38,x39,s40,s41,s42,s43,s44,s45,s46,x47,x48,x49,x50,x51,x52,x53,x54,x55,x56,x57,x58,x59,x60,x61,x62,x63,x64,x65,x66,x67,x68,x69,x70,x71,x72,x73,x74,x75,x76,x77,x78,x79,x80,x81,x82,x83,x84,x85,x86,x87],defers:=[]}∧EV w b B9 B L W s9 s10 s11 s40 s41 s42 s43 s44 s45 s46
theorem blk{W W':World}{k:Nat}{o:Obj}(h:Below W.heap.size W W')(hk:W.heap[k]?=some o):W'.heap[k]?=some o:=(h.block _ (Aab.1 hk).1).trans hk
structure AE(w:World)(b B9 B:Nat)(W:World):Prop where
 ag:AG w b W
 eb:W.heap[B9]?=some (.cells (eff0 B) 101 (0,0))
 tb:W.heap[B]?=some (.cells #[.string ⟨#[97,109,111,117,110,116]⟩,.string ⟨#[52,48]⟩] 106 (0,0))
theorem AG.set7{w:World}{b:Nat}{W:World}(h:AG w b W){B:Nat}(hB:b+1<B)(x0 x1 x2 x3 x4 x5 x6:Value):
 AG w b (((((((W.setCell ⟨B,0,none⟩ x0).setCell ⟨B,1,none⟩ x1).setCell ⟨B,2,none⟩ x2).setCell ⟨B,3,none⟩ x3).setCell ⟨B,4,none⟩ x4).setCell ⟨B,5,none⟩ x5).setCell ⟨B,6,none⟩ x6) :=
 ⟨(far7 (by omega) _ _ _ _ _ _ _).trans h.ib,(far7 (by omega) _ _ _ _ _ _ _).trans h.lb,Arg (by have:=h.lo;omega) h.be _ _ _ _ _ _ _,h.lo⟩
theorem Art(w:World)(ht:Tabs w):Calls Tryz.prog 19 #[] w fun e w'=>e=.returned (.bool true)∧Below w.heap.size w w':=by
 have HT:=hI ht
 have HX:=hI (Ars w ht)
 unfold Inst.enc Inst.cells Lot.enc Lot.cells i0 l0 at HX
 dsimp only at HX
 clear ht
 go_enter Tryz.func19,Tryz.ntmps19
 go_wp2_with fail
 refine HX.out.mono ?_
 rintro e w1 ⟨rfl,b1⟩
 have HB1:=hI b1
 clear b1 HX
 go_wp2_with fail
 obtain⟨W2,hW2,hb2,hs2,k0,k1⟩:=box2 w1 (.cells #[.string ⟨#[98]⟩,.int .i64 2,.string ⟨#[85,83,68]⟩,.int .i64 0,.int .i64 19736,.int .i64 20102,.string ⟨#[49,48,48,48]⟩,.string ⟨#[]⟩,.string ⟨#[]⟩,.string ⟨#[]⟩,.int .i64 12,.int .i64 3,.string ⟨#[]⟩,.string ⟨#[]⟩,.string ⟨#[]⟩] 27) (.cells #[.string ⟨#[120,47,49]⟩,.string ⟨#[98]⟩,.int .i64 19737,.int .i64 19737,.string ⟨#[49,48]⟩,.string ⟨#[57,56,48,48]⟩,.string ⟨#[]⟩] 63)
 rw[←hW2]
 have hg:AG w w1.heap.size W2:=⟨k0,k1,HB1.out.trans (hb2.mono HB1.out.size),HB1.out.size⟩
 have HTS:=hI (fun (wx:World)=>hg)
 clear hW2 hb2 hs2 k0 k1 HTS HB1
 generalize w1.heap.size=b at hg ⊢
 go_cut [3,4] (fun v3 v4 wx=>v3=.string ⟨#[52,48]⟩∧v4=.int .i64 0∧AG w b wx)
 case first =>
  obtain⟨c0,c1,c2,c3,c4,c5,c6,c7,c8,c9,c10,c11,c12,c13,c14,o0,o1,o2,o3,o4,o5,o6⟩:=hg.c22
  replace hg:AG w b W2.drew:=hg.below (Below.refl _ _).drew
  go_region_held3 (fun W=>W.cell? ⟨b,0,none⟩=some (.string ⟨#[98]⟩)∧W.cell? ⟨b,1,none⟩=some (.int .i64 2)∧W.cell? ⟨b,2,none⟩=some (.string ⟨#[85,83,68]⟩)∧W.cell? ⟨b,3,none⟩=some (.int .i64 0)∧W.cell? ⟨b,4,none⟩=some (.int .i64 19736)∧W.cell? ⟨b,5,none⟩=some (.int .i64 20102)∧W.cell? ⟨b,6,none⟩=some (.string ⟨#[49,48,48,48]⟩)∧W.cell? ⟨b,7,none⟩=some (.string ⟨#[]⟩)∧W.cell? ⟨b,8,none⟩=some (.string ⟨#[]⟩)∧W.cell? ⟨b,9,none⟩=some (.string ⟨#[]⟩)∧W.cell? ⟨b,10,none⟩=some (.int .i64 12)∧W.cell? ⟨b,11,none⟩=some (.int .i64 3)∧W.cell? ⟨b,12,none⟩=some (.string ⟨#[]⟩)∧W.cell? ⟨b,13,none⟩=some (.string ⟨#[]⟩)∧W.cell? ⟨b,14,none⟩=some (.string ⟨#[]⟩)∧W.cell? ⟨b+1,0,none⟩=some (.string ⟨#[120,47,49]⟩)∧W.cell? ⟨b+1,1,none⟩=some (.string ⟨#[98]⟩)∧W.cell? ⟨b+1,2,none⟩=some (.int .i64 19737)∧W.cell? ⟨b+1,3,none⟩=some (.int .i64 19737)∧W.cell? ⟨b+1,4,none⟩=some (.string ⟨#[49,48]⟩)∧W.cell? ⟨b+1,5,none⟩=some (.string ⟨#[57,56,48,48]⟩)∧W.cell? ⟨b+1,6,none⟩=some (.string ⟨#[]⟩))
   (((try dsimp only);refine⟨?_,?_,?_,?_,?_,?_,?_,?_,?_,?_,?_,?_,?_,?_,?_,?_,?_,?_,?_,?_,?_,?_⟩<;>assumption))
   (first
     | (go_at_call 59;refine (day_w _ hg).mono ?_;clear hg c0 c1 c2 c3 c4 c5 c6 c7 c8 c9 c10 c11 c12 c13 c14 o0 o1 o2 o3 o4 o5 o6;rintro e wn ⟨rfl,hg,_,c0,c1,c2,c3,c4,c5,c6,c7,c8,c9,c10,c11,c12,c13,c14,o0,o1,o2,o3,o4,o5,o6⟩)
     | (go_at_call 58;refine (am_a _ hg HT.out).mono ?_;clear hg c0 c1 c2 c3 c4 c5 c6 c7 c8 c9 c10 c11 c12 c13 c14 o0 o1 o2 o3 o4 o5 o6;rintro e wn ⟨rfl,hg,c0,c1,c2,c3,c4,c5,c6,c7,c8,c9,c10,c11,c12,c13,c14,o0,o1,o2,o3,o4,o5,o6⟩))
  all_goals (first|go_wp2_with fail|skip)
  all_goals go_meet
  all_goals exact⟨rfl,rfl,hg⟩
 case rest =>
  obtain⟨rfl,rfl,hg⟩:=hcut
  obtain⟨c0,c1,c2,c3,c4,c5,c6,c7,c8,c9,c10,c11,c12,c13,c14,o0,o1,o2,o3,o4,o5,o6⟩:=hg.c22
  go_wp2_with fail
  refine (am_b _ hg HT.out).mono ?_
  clear hg c0 c1 c2 c3 c4 c5 c6 c7 c8 c9 c10 c11 c12 c13 c14 o0 o1 o2 o3 o4 o5 o6
  rintro e wd ⟨rfl,hg,c0,c1,c2,c3,c4,c5,c6,c7,c8,c9,c10,c11,c12,c13,c14,o0,o1,o2,o3,o4,o5,o6⟩
  have ne1:wd.heap.size≠b:=by have:=hg.lt;omega
  have lt0:b<wd.heap.size:=by have:=hg.lt;omega
  go_wp2_with fail
  clear ne1 lt0
  refine (bk_a wd.heap.size _ (hg.below ((Below.refl _ _).alloc (Aad _) _)) (Aax _ _) HT.out).mono ?_
  clear hg c0 c1 c2 c3 c4 c5 c6 c7 c8 c9 c10 c11 c12 c13 c14 o0 o1 o2 o3 o4 o5 o6
  rintro e we ⟨rfl,hg,c0,c1,c2,c3,c4,c5,c6,c7,c8,c9,c10,c11,c12,c13,c14,o0,o1,o2,o3,o4,o5,o6⟩
  go_wp2_with fail
  go_cut [9,10,11] (fun v9 v10 v11 wx=>∃B9 B,v9=.pointer (some ⟨B9,0,none⟩)∧v10=.bool true∧v11=.int .i64 0∧AE w b B9 B wx)
  case first =>
   have mixed:Tryz.prog.follows .mixedOrders=true:=by kernel_rfl
   have HG:=hI (hg.below (Below.refl _ _).drew)
   clear hg c0 c1 c2 c3 c4 c5 c6 c7 c8 c9 c10 c11 c12 c13 c14 o0 o1 o2 o3 o4 o5 o6
   refine wp_region_any mixed (Aqj (EJ w b _ _ _ _ _ _ _ _ _ _ _ _ _ _ _ _ _ _ _ _ _ _ _ _ _ _ _ _ _ _ _ _ _ _ _ _ _ _ _ _ _ _ _ _ _ _ _ _ _ _ _ _ _ _ _ _ _ _ _ _ _ _ _ _ _ _ _ _ _ _ _ _ _ _ _ _ _) ?st ?dn _ _ _ _ ⟨by simp,⟨0,0,_,_,_,_,_,_,_,_,_,_,rfl,fun h=>by simp at h,fun h=>by simp at h,fun h=>by simp at h,fun h=>by simp at h,fun h=>by simp at h,fun h=>by simp at h,fun h=>by simp at h,fun h=>by simp at h,fun h=>by simp at h,fun h=>by simp at h,HG.out,fun h=>by simp at h,fun h=>by simp at h,fun h=>by simp at h,fun h=>by simp at h,fun h=>by simp at h,fun h=>by simp at h,fun h=>by simp at h,fun h=>by simp at h⟩⟩ (by decide))
   case dn =>
    intro L a w' hj hr
    have all:=Apr hr hj.sz (by kernel_rfl)
    obtain⟨B9,B,s9,s10,s11,s40,s41,s42,s43,s44,s45,s46,rfl,hv⟩:=hj.fr
    have e9:=hv.k7 (all 7 (by omega));have e10:=hv.k9 (all 9 (by omega));have e11:=hv.ka (all 10 (by omega))
    subst e9 e10 e11
    have HE:Hid (AE w b B9 B w'):=⟨hv.ag,hv.e (all 8 (by omega)),hv.t (all 2 (by omega))⟩
    clear all hv hj hr
    dsimp only
    (first|go_wp2_with fail|skip)
    go_meet
    exact⟨_,_,rfl,rfl,rfl,HE.out⟩
   case st =>
    intro L a w' hj i hi
    obtain⟨hun,o,ho,hall⟩:=mem_ready.1 hi
    have hoff:=Apg hun
    have hlt:=(Aab.1 ho).1
    simp at hlt
    obtain⟨B9,B,s9,s10,s11,s40,s41,s42,s43,s44,s45,s46,rfl,hv⟩:=hj.fr
    have HV:=hI hv
    have HJ:=hI hj
    clear hv hj
    rcases (show i=0∨i=1∨i=2∨i=3∨i=4∨i=5∨i=6∨i=7∨i=8∨i=9∨i=10 from by omega) with rfl|rfl|rfl|rfl|rfl|rfl|rfl|rfl|rfl|rfl|rfl
    ·simp at ho
     subst ho
     clear hall hi
     refine App rfl fun K' HK=>?_
     go_simp
     refine (day_w (w:=w) (b:=b) _ HV.out.ag).mono ?_
     rintro e wn ⟨rfl,hg,bn,_⟩
     cases HV.out
     refine HK.out _ _ ⟨by simp[HJ.out.sz],?_⟩
     iterate 12 apply Exists.intro
     refine⟨rfl,?_⟩
     constructor
     case k0=>exact fun _=>rfl
     case ag=>exact hg
     case t=>exact fun h=>blk bn (HV.out.t (Api h))
     case z=>exact fun h h'=>blk bn (HV.out.z (Api h) (Apj h'))
     case e=>exact fun h=>blk bn (HV.out.e (Api h))
     case d=>exact fun h h'=>HV.out.d (Api h) (Api h')
     case p3=>exact Uq hun HV.out.p3
     case p4=>exact Uq hun HV.out.p4
     case p8=>exact fun h=>let k:=HV.out.p8 (Api h);⟨Aph hun k.1,Aph hun k.2⟩
     all_goals exact Um (by assumption)
    ·simp at ho
     subst ho
     clear hall hi
     obtain⟨c0,c1,c2,c3,c4,c5,c6,c7,c8,c9,c10,c11,c12,c13,c14,_⟩:=HV.out.ag.c22
     refine App rfl fun K' HK=>?_
     go_simp
     cases HV.out
     refine HK.out _ _ ⟨by simp[HJ.out.sz],?_⟩
     iterate 12 apply Exists.intro
     refine⟨rfl,?_⟩
     constructor
     case k1=>exact fun _=>rfl
     case ag=>exact HV.out.ag
     case z=>exact fun h h'=>HV.out.z (Api h) (Apj h')
     case d=>exact fun h h'=>HV.out.d (Api h) (Api h')
     case p3=>exact Uq hun HV.out.p3
     case p4=>exact Uq hun HV.out.p4
     case p8=>exact fun h=>let k:=HV.out.p8 (Api h);⟨Aph hun k.1,Aph hun k.2⟩
     all_goals exact Um (by assumption)
    ·simp at ho
     subst ho
     have h0x:L.getD 0 false=true:=hall {on:=0,ground:=Ground.data} (by simp) (by decide)
     have h1x:L.getD 1 false=true:=hall {on:=1,ground:=Ground.data} (by simp) (by decide)
     have H0:=hI h0x
     have H1:=hI h1x
     clear hall hi h0x h1x
     have e:=HV.out.k0 H0.out
     have e':=HV.out.k1 H1.out
     subst e e'
     refine App rfl fun K' HK=>?_
     go_simp
     refine (ef_a (w:=w) (b:=b) _ HV.out.ag HT.out).mono ?_
     rintro e wn ⟨⟨B',hB',rfl,hT'⟩,hg,bn,_⟩
     cases HV.out
     refine HK.out _ _ ⟨by simp[HJ.out.sz],?_⟩
     apply Exists.intro
     refine⟨B',?_⟩
     iterate 10 apply Exists.intro
     refine⟨rfl,?_⟩
     constructor
     case k2=>exact fun _=>rfl
     case k3=>exact fun h=>(Apk hoff (HV.out.p3 (Api h))).elim
     case k4=>exact fun h=>(Apk hoff (HV.out.p4 (Api h))).elim
     case ag=>exact hg
     case t=>exact fun _=>hT'
     case z=>exact fun h h'=>blk bn (HV.out.z (Api h) (Apj h'))
     case e=>exact fun h=>(Apk hoff (HV.out.p8 (Api h)).1).elim
     case d=>exact fun h _=>Nat.ne_of_lt (Aah (Aab.1 (HV.out.z (Api h) ((Apm L 8).resolve_right fun h8=>Apk hoff (HV.out.p8 h8).1))).1 hB')
     case p3=>exact fun h=>(Apk hoff (HV.out.p3 (Api h))).elim
     case p4=>exact fun h=>(Apk hoff (HV.out.p4 (Api h))).elim
     case p8=>exact fun h=>(Apk hoff (HV.out.p8 (Api h)).1).elim
     all_goals exact Um (by assumption)
    ·simp at ho
     subst ho
     have h2x:L.getD 2 false=true:=hall {on:=2,ground:=Ground.data} (by simp) (by decide)
     have H2:=hI h2x
     clear hall hi h2x
     have e:=HV.out.k2 H2.out
     subst e
     refine App rfl fun K' HK=>?_
     go_simp
     cases HV.out
     refine HK.out _ _ ⟨by simp[HJ.out.sz],?_⟩
     iterate 12 apply Exists.intro
     refine⟨rfl,?_⟩
     constructor
     case k3=>exact fun _=>rfl
     case ag=>exact HV.out.ag
     case z=>exact fun h h'=>HV.out.z (Api h) (Apj h')
     case d=>exact fun h h'=>HV.out.d (Api h) (Api h')
     case p3=>exact fun _=>Aph hun H2.out
     case p4=>exact Uq hun HV.out.p4
     case p8=>exact fun h=>let k:=HV.out.p8 (Api h);⟨Aph hun k.1,Aph hun k.2⟩
     all_goals exact Um (by assumption)
    ·simp at ho
     subst ho
     have h3x:L.getD 3 false=true:=hall {on:=3,ground:=Ground.data} (by simp) (by decide)
     have H3:=hI h3x
     clear hall hi h3x
     have e:=HV.out.k3 H3.out
     subst e
     unfold effT eff0
     refine App rfl fun K' HK=>?_
     go_simp
     cases HV.out
     refine HK.out _ _ ⟨by simp[HJ.out.sz],?_⟩
     iterate 12 apply Exists.intro
     refine⟨rfl,?_⟩
     constructor
     case k4=>exact fun _=>rfl
     case ag=>exact HV.out.ag
     case z=>exact fun h h'=>HV.out.z (Api h) (Apj h')
     case d=>exact fun h h'=>HV.out.d (Api h) (Api h')
     case p3=>exact Uq hun HV.out.p3
     case p4=>exact fun _=>Aph hun (HV.out.p3 H3.out)
     case p8=>exact fun h=>let k:=HV.out.p8 (Api h);⟨Aph hun k.1,Aph hun k.2⟩
     all_goals exact Um (by assumption)
    ·simp at ho
     subst ho
     have h3x:L.getD 3 false=true:=hall {on:=3,ground:=Ground.data} (by simp) (by decide)
     have H3:=hI h3x
     clear hall hi h3x
     have e:=HV.out.k3 H3.out
     subst e
     unfold effT eff0
     refine App rfl fun K' HK=>?_
     go_simp
     cases HV.out
     refine HK.out _ _ ⟨by simp[HJ.out.sz],?_⟩
     iterate 12 apply Exists.intro
     refine⟨rfl,?_⟩
     constructor
     case k5=>exact fun _=>rfl
     case ag=>exact HV.out.ag
     case z=>exact fun h h'=>HV.out.z (Api h) (Apj h')
     case d=>exact fun h h'=>HV.out.d (Api h) (Api h')
     case p3=>exact Uq hun HV.out.p3
     case p4=>exact Uq hun HV.out.p4
     case p8=>exact fun h=>let k:=HV.out.p8 (Api h);⟨Aph hun k.1,Aph hun k.2⟩
     all_goals exact Um (by assumption)
    ·simp at ho
     subst ho
     have h3x:L.getD 3 false=true:=hall {on:=3,ground:=Ground.data} (by simp) (by decide)
     have H3:=hI h3x
     clear hall hi h3x
     have e:=HV.out.k3 H3.out
     subst e
     unfold effT eff0
     refine App rfl fun K' HK=>?_
     go_simp
     cases HV.out
     refine HK.out _ _ ⟨by simp[HJ.out.sz],?_⟩
     iterate 12 apply Exists.intro
     refine⟨rfl,?_⟩
     constructor
     case k6=>exact fun _=>rfl
     case ag=>exact HV.out.ag
     case z=>exact fun h h'=>HV.out.z (Api h) (Apj h')
     case d=>exact fun h h'=>HV.out.d (Api h) (Api h')
     case p3=>exact Uq hun HV.out.p3
     case p4=>exact Uq hun HV.out.p4
     case p8=>exact fun h=>let k:=HV.out.p8 (Api h);⟨Aph hun k.1,Aph hun k.2⟩
     all_goals exact Um (by assumption)
    ·simp at ho
     subst ho
     clear hall hi
     refine App rfl fun K' HK=>?_
     go_simp
     have bn:Below w'.heap.size w' (w'.alloc (.cells effZero 101)):=(Below.refl _ _).alloc (Aad _) _
     cases HV.out
     refine HK.out _ _ ⟨by simp[HJ.out.sz],w'.heap.size,?_⟩
     iterate 11 apply Exists.intro
     refine⟨rfl,?_⟩
     constructor
     case k7=>exact fun _=>rfl
     case ag=>exact HV.out.ag.below bn
     case t=>exact fun h=>blk bn (HV.out.t (Api h))
     case n=>exact fun _=>HV.out.ag.lt
     case z=>exact fun _ _=>Aax _ _
     case e=>exact fun h=>(Apk hoff (HV.out.p8 (Api h)).2).elim
     case d=>exact fun _ h=>Nat.ne_of_gt (Aab.1 (HV.out.t (Api h))).1
     case p3=>exact Uq hun HV.out.p3
     case p4=>exact Uq hun HV.out.p4
     case p8=>exact fun h=>(Apk hoff (HV.out.p8 (Api h)).2).elim
     all_goals exact Um (by assumption)
    ·simp at ho
     subst ho
     have h7x:L.getD 7 false=true:=hall {on:=7,ground:=Ground.data} (by simp) (by decide)
     have h4x:L.getD 4 false=true:=hall {on:=4,ground:=Ground.data} (by simp) (by decide)
     have h2x:L.getD 2 false=true:=hall {on:=2,ground:=Ground.chain} (by simp) (by decide)
     have H7:=hI h7x
     have H4:=hI h4x
     have H2:=hI h2x
     clear hall hi h7x h4x h2x
     have e:=HV.out.k7 H7.out
     have e':=HV.out.k4 H4.out
     subst e e'
     have HN:=hI (HV.out.z H7.out hoff)
     have n0:=Aaa HN.out 0;have z0:=Aaf HN.out 0
     have n1:=Aaa HN.out 1;have z1:=Aaf HN.out 1
     have n2:=Aaa HN.out 2;have z2:=Aaf HN.out 2
     have n3:=Aaa HN.out 3;have z3:=Aaf HN.out 3
     have n4:=Aaa HN.out 4;have z4:=Aaf HN.out 4
     have n5:=Aaa HN.out 5;have z5:=Aaf HN.out 5
     have n6:=Aaa HN.out 6;have z6:=Aaf HN.out 6
     simp[effZero] at n0 n1 n2 n3 n4 n5 n6
     unfold eff0
     refine App rfl fun K' HK=>?_
     go_simp
     cases HV.out
     refine HK.out _ _ ⟨by simp[HJ.out.sz],?_⟩
     iterate 12 apply Exists.intro
     refine⟨rfl,?_⟩
     constructor
     case ag=>exact HV.out.ag.set7 (HV.out.n H7.out) _ _ _ _ _ _ _
     case t=>exact fun h=>(far7 (Ne.symm (HV.out.d H7.out H2.out)) _ _ _ _ _ _ _).trans (HV.out.t H2.out)
     case z=>exact fun _ h=>(Apk h (Ape hun)).elim
     case e=>exact fun _=>set7 HN.out _ _ _ _ _ _ _
     case d=>exact fun h h'=>HV.out.d (Api h) (Api h')
     case p3=>exact Uq hun HV.out.p3
     case p4=>exact Uq hun HV.out.p4
     case p8=>exact fun _=>⟨Aph hun H2.out,Aph hun H7.out⟩
     all_goals exact Um (by assumption)
    ·simp at ho
     subst ho
     have h5x:L.getD 5 false=true:=hall {on:=5,ground:=Ground.data} (by simp) (by decide)
     have H5:=hI h5x
     clear hall hi h5x
     have e:=HV.out.k5 H5.out
     subst e
     refine App rfl fun K' HK=>?_
     go_simp
     cases HV.out
     refine HK.out _ _ ⟨by simp[HJ.out.sz],?_⟩
     iterate 12 apply Exists.intro
     refine⟨rfl,?_⟩
     constructor
     case k9=>exact fun _=>rfl
     case ag=>exact HV.out.ag
     case z=>exact fun h h'=>HV.out.z (Api h) (Apj h')
     case d=>exact fun h h'=>HV.out.d (Api h) (Api h')
     case p3=>exact Uq hun HV.out.p3
     case p4=>exact Uq hun HV.out.p4
     case p8=>exact fun h=>let k:=HV.out.p8 (Api h);⟨Aph hun k.1,Aph hun k.2⟩
     all_goals exact Um (by assumption)
    ·simp at ho
     subst ho
     have h6x:L.getD 6 false=true:=hall {on:=6,ground:=Ground.data} (by simp) (by decide)
     have H6:=hI h6x
     clear hall hi h6x
     have e:=HV.out.k6 H6.out
     subst e
     refine App rfl fun K' HK=>?_
     go_simp
     cases HV.out
     refine HK.out _ _ ⟨by simp[HJ.out.sz],?_⟩
     iterate 12 apply Exists.intro
     refine⟨rfl,?_⟩
     constructor
     case ka=>exact fun _=>rfl
     case ag=>exact HV.out.ag
     case z=>exact fun h h'=>HV.out.z (Api h) (Apj h')
     case d=>exact fun h h'=>HV.out.d (Api h) (Api h')
     case p3=>exact Uq hun HV.out.p3
     case p4=>exact Uq hun HV.out.p4
     case p8=>exact fun h=>let k:=HV.out.p8 (Api h);⟨Aph hun k.1,Aph hun k.2⟩
     all_goals exact Um (by assumption)
  case rest =>
   obtain⟨B9,B,rfl,rfl,rfl,hE⟩:=hcut
   obtain⟨hg,he,ht⟩:=hE
   have m2:=Aaa he 2
   have m6:=Aaa he 6
   simp[eff0] at m2 m6
   have HG:=hI hg
   have HE:=hI he
   have HTT:=hI ht
   clear hg he ht
   go_wp2_with fail
   refine (Arq B wc.heap.size _ _ _ (blk ((Below.refl _ _).alloc (Aad _) _) HTT.out) (Aax _ _)).mono ?_
   rintro e wz ⟨rfl,bz⟩
   have HZ:Hid (Below w.heap.size w wz):=HG.out.be.trans ((Below.trans ((Below.refl _ _).alloc (Aad _) _) (bz.mono (by simp))).mono HG.out.be.size)
   clear bz
   go_wp2_with fail
   refine bodyPost_ret (v:=.bool true) (by kernel_rfl) rfl ?_
   exact⟨rfl,HZ.out⟩
end Go.Proofs.YtcnmoobojdopgaaGreatDoor
