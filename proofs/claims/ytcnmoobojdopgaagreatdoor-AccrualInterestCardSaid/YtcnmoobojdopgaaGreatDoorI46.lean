/-
  tranchelaw39.AccrualInterest returns true. (Printed by gen_law38.py.)
-/
import Derived.Test.YtcnmoobojdopgaaGreatDoorI35
import Derived.Test.YtcnmoobojdopgaaGreatDoorI42
import Derived.Test.YtcnmoobojdopgaaGreatDoorI45
import Derived.Test.YtcnmoobojdopgaaGreatDoorI24
set_option linter.unusedVariables false
set_option linter.unusedSimpArgs false
set_option maxHeartbeats 16000000
set_option maxRecDepth 100000
namespace Go.Proofs.YtcnmoobojdopgaaGreatDoor
open Go.RowKit Tr Go.Shelf
theorem dy_out{i:Inst}{d:Int}(h1:perC i=0)(hd:okDay d)(hl:¬(i.issued≤d∧d≤i.matures)):dyC i d ⟨#[]⟩ ⟨#[]⟩=24∧dyQ i d ⟨#[]⟩ ⟨#[]⟩=0:=by
 have e:dyC i d ⟨#[]⟩ ⟨#[]⟩=24:=by unfold dyC;rw[if_neg (fun x=>x canQ_e),if_neg (fun x=>x h1),if_neg (fun x=>x hd),if_pos hl]
 exact⟨e,by unfold dyQ;rw[if_neg (by rw[e];decide)]⟩
theorem dy_in{i:Inst}{d:Int}(h1:perC i=0)(hd:okDay d)(hl:i.issued≤d∧d≤i.matures):dyC i d ⟨#[]⟩ ⟨#[]⟩=0∧dyQ i d ⟨#[]⟩ ⟨#[]⟩=accQ i d:=by
 have e:dyC i d ⟨#[]⟩ ⟨#[]⟩=0:=by unfold dyC;rw[if_neg (fun x=>x canQ_e),if_neg (fun x=>x h1),if_neg (fun x=>x hd),if_neg (fun x=>x hl)]
 exact⟨e,by unfold dyQ;rw[if_pos e,show fv ⟨#[]⟩ ⟨#[]⟩=0 from fv_zero,Rat.zero_add]⟩
theorem dy_4{i:Inst}{d:Int}(h1:perC i=4):dyC i d ⟨#[]⟩ ⟨#[]⟩=4:=by unfold dyC;rw[if_neg (fun x=>x canQ_e),if_pos (by rw[h1];decide),h1]
theorem ac_out{i:Inst}{zs:List SLot}{d:Int}(hg:GI i)(h:achkL i zs d=0)(hk:i.kind=2)(hl:¬(i.issued≤d∧d≤i.matures)):(acC i zs d=0∨acC i zs d=4)∧acV i zs d=⟨#[]⟩:=by
 obtain⟨h1,_,h3⟩:=At6 h
 rcases Atw hg with⟨hn,_⟩|⟨_,_,hp⟩|⟨_,_,hp⟩
 ·exact absurd ⟨h1,hk⟩ hn
 ·obtain⟨e1,e2⟩:=At9 h hk (by rw[hp];decide)
  exact⟨.inr e1,e2⟩
 ·obtain⟨e1,e2⟩:=Aua h hk hp
  refine⟨.inl e1,?_⟩
  rw[e2,(dy_out hp h3 hl).2,Rat.zero_mul]
  exact rnd_zero_I
theorem Ave{f:SLot→Int}:∀(l:List SLot),(∀x∈l,0≤f x)→0≤sumBy f l
 | [],_=>by simp[sumBy]
 | x::l,h=>by
   have e:x::l=([]++[x])++l:=rfl
   rw[e,Auj,sumBy_snoc]
   have h1:=Ave l (fun y hy=>h y (List.mem_cons_of_mem _ hy))
   have h2:=h x (List.mem_cons_self ..)
   have h3:sumBy f []=0:=rfl
   omega
theorem dRoundQ{p:Rat}{a:Nat}(hp:BdQ p a)(ha:a≤800000)(w:World)(ht:Tabs w):
 Calls Tryz.prog 28 #[fenc p,.int .i64 1] w fun e w'=>e=.returned (.tuple #[.string (I (rnd p)),.int .i64 0])∧Below w.heap.size w w':=by
 have hR:=Aia (I p.num) (dn p) w (by have:=hp.num;omega) (by have:=hp.dn;omega) ht
 rw[Agv] at hR
 exact hR
theorem Avf{w:World}{l:List (Nat×Obj)}{B:Nat}{q:Rat}{f:Nat}{args:Array Value}{v:Value}(ht:Tabs w)(h:∀W,Tabs W→Calls Tryz.prog f args W fun e w'=>e=.returned v∧Below W.heap.size W w'):
 ∀W,BX w ((B,fobj q)::l) W→Calls Tryz.prog f args W fun e wn=>e=.returned v∧BX w ((B,fobj q)::l) wn∧wn.cell? ⟨B,0,none⟩=some (.string (I q.num))∧wn.cell? ⟨B,1,none⟩=some (.string (dn q)):=by
 intro W hW
 refine (h W (ht.below hW.1)).mono ?_
 rintro e wn ⟨rfl,bn⟩
 have hn:=hW.below bn
 exact⟨rfl,hn,Aaa (hn.get 0 rfl) 0,Aaa (hn.get 0 rfl) 1⟩
theorem Avg{z:Int}(h:z=0):((I z).toList==[])=true:=by rw[h,←zero_eq,Lib.toList_data];rfl
theorem nil_no{z:Int}(h:z≠0):((I z).toList==[])=false:=Aaj.2 (fun e=>h (I_inj (by
 rw[←zero_eq,show I z=⟨(I z).data⟩ from rfl]
 congr 1
 rw[Lib.toList_data] at e
 exact Array.toList_eq_nil_iff.1 e)))
theorem Avh(l:Lot)(q:ByteArray)(hti:l.tiny)(q13:q.size≤13)(hok:l.ok):
 (∃code:Int,code≠0∧∀W,Tabs W→Calls Tryz.prog 34 #[l.enc,.string q] W fun e w'=>e=.returned (.tuple #[zeroLot.enc,zeroLot.enc,.int .i64 code])∧Below W.heap.size W w') ∨
 (Can q∧0<vl q∧vl q<vl l.qty∧∀W,Tabs W→Calls Tryz.prog 34 #[l.enc,.string q] W fun e w'=>e=.returned (.tuple #[(cutA l q).enc,(cutB l q).enc,.int .i64 0])∧Below W.heap.size W w'):=by
 have hs:=hti.sized
 by_cases hq:Can q
 case neg=>exact .inl ⟨1,by omega,fun W hW=>lCut_e2 l q hs (by omega) hok hq W hW⟩
 rcases Int.lt_or_le 0 (vl q) with h0|h0
 case inr=>exact .inl ⟨2,by omega,fun W hW=>lCut_e3 l q hs (by omega) hok hq h0 W hW⟩
 rcases Int.lt_or_le (vl q) (vl l.qty) with h1|h1
 case inr=>exact .inl ⟨2,by omega,fun W hW=>lCut_e4 l q hs (by omega) hok hq h0 h1 W hW⟩
 exact .inr ⟨hq,h0,h1,fun W hW=>lCut_ok l q hs hok hq (by omega) h0 h1 W hW⟩
def LotC(W:World)(la:List SLot)(v:Value):Prop:=∃A c n,v=.slice A la.length c∧la.length≤c∧RdB n W A la∧n≤W.heap.size
theorem Avi{W:World}{base:Nat}{v:Value}{lb:List SLot}{sa sb:SLot}(h:W.ownsRow base 63 7 v (lb.length+2) (flatL lb++(sa.1.cells.toList++sb.1.cells.toList))):LotC W (lb++[sa,sb]) v:=by
 have e:flatL (lb++[sa,sb])=flatL lb++(sa.1.cells.toList++sb.1.cells.toList):=by rw[Au2];simp[flatL]
 have l:(lb++[sa,sb]).length=lb.length+2:=by simp
 rw[←e,←l] at h
 obtain⟨A,c,h1,h0,_,h2⟩:=RdB.of_own h
 exact⟨A,c,_,h1,h0,h2,Aad _⟩
theorem BX.grown{w:World}{l:List (Nat×Obj)}{W W':World}{row:Option Nat}(h:BX w l W)(hg:W.grownBy W' row)(hr:∀k,row=some k→w.heap.size≤k∧∀x,x∈l→x.1≠k):BX w l W' :=
 ⟨h.1.grown hg h.1.size (fun k e=>(hr k e).1),fun x hx=>(hg.block _ (Aab.1 (h.2 x hx)).1 (fun e=>(hr _ e.symm).2 x hx rfl)).trans (h.2 x hx)⟩
structure TGV(w:World)(i:Inst)(d:Int)(LA LN:Lot)(B Ba hb:Nat)(qa:Rat)(ad a3:Addr)(N c k kn:Nat)(lb lc:List SLot)(rn:Int)(Bn Bm:Nat)(L:Array Bool)(W:World)(s27 s28 s197 s198 s199 s200 s201 s202 s203 s204 s205 s206 s207 s208 s209 s210 s211 s212 s213 s214 s215:Value):Prop where
 k0:L.getD 0 false=true→s198=.agg #[.string i.id,.int .i64 i.kind,.string i.cur,.int .i64 i.places,.int .i64 i.issued,.int .i64 i.matures,.string i.fn,.string i.fd,.string i.cn,.string i.cd,.int .i64 i.months,.int .i64 i.count,.string i.other,.string i.sn,.string i.sd]
 k1:L.getD 1 false=true→s199=.slice (some ad) N c
 k2:L.getD 2 false=true→s200=.int .i64 (k:Int)
 k3:L.getD 3 false=true→s201=.slice (some ad) k c
 k4:L.getD 4 false=true→s202=.slice (some ad) N c
 k5:L.getD 5 false=true→s203=.int .i64 (k:Int)
 k6:L.getD 6 false=true→s204=.int .i64 (kn:Int)
 k7:L.getD 7 false=true→s205=.slice (some a3) (N-kn) (c-kn)
 k8:L.getD 8 false=true→s206=.slice (some ⟨Bn,0,none⟩) 2 2
 k10:L.getD 10 false=true→s208=.agg #[.string LA.id,.string LA.inst,.int .i64 LA.acq,.int .i64 LA.opn,.string LA.qty,.string LA.cost,.string LA.used]
 k11:L.getD 11 false=true→s209=.agg #[.string LN.id,.string LN.inst,.int .i64 LN.acq,.int .i64 LN.opn,.string LN.qty,.string LN.cost,.string LN.used]
 k12:L.getD 12 false=true→s210=.slice (some ⟨Bm,0,none⟩) 2 2
 k14:L.getD 14 false=true→s212=.int .i64 d
 k15:L.getD 15 false=true→s213=.tuple #[.string (I rn),.int .i64 0]
 k16:L.getD 16 false=true→s197=.tuple #[.string (I rn),.int .i64 0]
 k17:L.getD 17 false=true→s214=.string (I rn)
 k18:L.getD 18 false=true→s215=.int .i64 0
 k19:L.getD 19 false=true→s27=.string (I rn)
 k20:L.getD 20 false=true→s28=.int .i64 0
 g:BX w [(Ba+1,.cells LN.cells 63 (0,0)),(Ba,.cells LA.cells 63 (0,0)),(B,fobj qa),(w.heap.size,.cells i.cells 27 (0,0)),(w.heap.size+1,.cells #[.int .i64 d] 22 (0,0))] W
 z:hb≤W.heap.size
 t8:L.getD 8 false=true→L.getD 9 false=false→W.heap[Bn]?=some (.cells #[.slice (some ad) k c,.slice (some a3) (N-kn) (c-kn)] 45 (0,0))
 r9:L.getD 9 false=true→L.getD 13 false=false→∃base,W.ownsRow base 63 7 s207 lb.length (flatL lb)∧hb≤base∧base≤W.heap.size
 t12:L.getD 12 false=true→L.getD 13 false=false→W.heap[Bm]?=some (.cells #[.string LA.id,.string LA.inst,.int .i64 LA.acq,.int .i64 LA.opn,.string LA.qty,.string LA.cost,.string LA.used,.string LN.id,.string LN.inst,.int .i64 LN.acq,.int .i64 LN.opn,.string LN.qty,.string LN.cost,.string LN.used] 63 (0,0))
 r13:L.getD 13 false=true→L.getD 15 false=false→LotC W lc s211
 q9:L.getD 9 false=true→L.getD 8 false=true
 q13:L.getD 13 false=true→L.getD 12 false=true
 p13:L.getD 13 false=true→L.getD 9 false=true
 q15:L.getD 15 false=true→L.getD 13 false=true
structure TGJ(w:World)(i:Inst)(d:Int)(LA LN:Lot)(B Ba hb:Nat)(qa:Rat)(ad a3:Addr)(N c k kn:Nat)(lb lc:List SLot)(rn:Int)(x0 x2 x3 x4 x6 x8 x9 x10 x11 x12 x13 x14 x15 x16 x17 x18 x19 x20 x24 x25 x26 x29 x30 x31 x32 x33 x34 x35 x36 x37 x38 x39 x40 x41 x42 x43 x44 x45 x46 x47 x48 x49 x50 x51 x52 x53 x54 x55 x56 x57 x58 x59 x60 x61 x62 x63 x64 x65 x66 x67 x68 x69 x70 x71 x72 x73 x74 x75 x76 x77 x78 x79 x80 x81 x82 x83 x84 x85 x86 x87 x88 x89 x90 x91 x92 x93 x94 x95 x96 x97 x98 x99 x100 x101 x102 x103 x104 x105 x106 x107 x108 x109 x110 x111 x112 x113 x114 x115 x116 x117 x118 x119 x120 x121 x122 x123 x124 x125 x126 x127 x128 x129 x130 x131 x132 x133 x134 x135 x136 x137 x138 x139 x140 x141 x142 x143 x144 x145 x146 x147 x148 x149 x150 x151 x152 x153 x154 x155 x156 x157 x158 x159 x160 x161 x162 x163 x164 x165 x166 x167 x168 x169 x170 x171 x172 x173 x174 x175 x176 x177 x178 x179 x180 x181 x182 x183 x184 x185 x186 x187 x188 x189 x190 x191 x192 x193 x194 x195 x196 x216 x217 x218 x219 x220 x221 x222 x223 x224 x225:Value)(L:Array Bool)(a:Act)(W:World):Prop where
 sz:L.size=21
 fr:∃Bn Bm:Nat,∃s27 s28 s197 s198 s199 s200 s201 s202 s203 s204 s205 s206 s207 s208 s209 s210 s211 s212 s213 s214 s215:Value,a={tmps:=#[x0,.slice (some ad) N c,x2,x3,x4,.pointer (some ⟨w.heap.size,0,none⟩),x6,.pointer (some ⟨w.heap.size+1,0,none⟩),x8,x9,x10,x11,x12,x13,x14,x15,x16,x17,x18,x19,x20,.int .i64 (k:Int),.pointer (some ⟨Ba,0,none⟩),.pointer (some ⟨Ba+1,0,none⟩),x24,x25,x26,s27,s28,x29,x30,x31,x32,x33,x34,x35,x36,x37,x38,x39,x40,x41,x42,x43,x44,x45,x46,x47,x48,x49,x50,x51,x52,x53,x54,x55,x56,x57,x58,x59,x60,x61,x62,x63,x64,x65,x66,x67,x68,x69,x70,x71,x72,x73,x74,x75,x76,x77,x78,x79,x80,x81,x82,x83,x84,x85,x86,x87,x88,x89,x90,x91,x92,x93,x94,x95,x96,x97,x98,x99,x100,x101,x102,x103,x104,x105,x106,x107,x108,x109,x110,x111,x112,x113,x114,x115,x116,x117,x118,x119,x120,x121,x122,x123,x124,x125,x126,x127,x128,x129,x130,x131,x132,x133,x134,x135,x136,x137,x138,x139,x140,x141,x142,x143,x144,x145,x146,x147,x148,x149,x150,x151,x152,x153,x154,x155,x156,x157,x158,x159,x160,x161,x162,x163,x164,x165,x166,x167,x168,x169,x170,x171,x172,x173,x174,x175,x176,x177,x178,x179,x180,x181,x182,x183,x184,x185,x186,x187,x188,x189,x190,x191,x192,x193,x194,x195,x196,s197,s198,s199,s200,s201,s202,s203,s204,s205,s206,s207,s208,s209,s210,s211,s212,s213,s214,s215,x216,x217,x218,x219,x220,x221,x222,x223,x224,x225],defers:=[]}∧TGV w i d LA LN B Ba hb qa ad a3 N c k kn lb lc rn Bn Bm L W s27 s28 s197 s198 s199 s200 s201 s202 s203 s204 s205 s206 s207 s208 s209 s210 s211 s212 s213 s214 s215
theorem Avj(i:Inst)(A:Option Addr)(ls:List Lot)(c:Nat)(hcap:ls.length≤c)(hlm:ls.length≤9223372036854775807)(d:Int)(at':Int)(ha0:0≤at')(ha1:at'≤255)(q:ByteArray)(w:World)(hR:RdL w A ls)(ht:Tabs w):
 Calls Tryz.prog 5 #[i.enc,.slice A ls.length c,.int .i64 d,.int .u8 at',.string q] w fun e w'=>e=.returned (.bool true)∧Below w.heap.size w w':=by
 have HT:=hI ht
 have HR:=hI hR
 obtain⟨W0,hW0',hB0,hz,k0,k1⟩:=box2 w (.cells i.cells 27) (.cells #[.int .i64 d] 22)
 have hW0:=hW0'.symm
 have HG0:Hid (BX w [(w.heap.size,.cells i.cells 27 (0,0)),(w.heap.size+1,.cells #[.int .i64 d] 22 (0,0))] W0):=⟨hB0,fun x hx=>by
  rcases List.mem_cons.1 hx with rfl|hx
  ·exact k0
  ·rcases List.mem_cons.1 hx with rfl|hx
   ·exact k1
   ·cases hx⟩
 obtain⟨c0,c1,c2,c3,c4,c5,c6,c7,c8,c9,c10,c11,c12,c13,c14⟩:=At7 (k0)
 have dk:=Aaa (k1) 0
 simp at dk
 have HFI:=hI (Auu i A ls c hcap hlm d W0 (hR.below hB0))
 clear hB0 hz k0 k1 ht hR hW0'
 unfold Inst.enc Inst.cells at *
 go_enter Tryz.func5,Tryz.ntmps5
 go_wp2_with fail
 refine HFI.out.mono ?_
 rintro e w1 ⟨g,rfl,hg,b1⟩
 have HB1:=hI (HG0.out.below b1)
 clear b1 HG0 HFI hW0 dk c0 c1 c2 c3 c4 c5 c6 c7 c8 c9 c10 c11 c12 c13 c14
 have HAW:=hI (fun W hW=>Art W hW)
 cases g
 case false =>
  clear hg
  go_wp2_with fail
  refine (HAW.out _ (HT.out.below HB1.out.1)).mono ?_
  rintro e w2 ⟨rfl,x2⟩
  have HB2:=hI (HB1.out.below x2)
  clear x2
  go_wp2_with fail
  go_ret
  exact⟨rfl,HB2.out.1⟩
 obtain⟨hgi,hok,hdy,hl12,hti0,hall⟩:=hg rfl
 clear hg
 by_cases hq13:q.size≤13
 case neg =>
  have t1:decide ((13:Int)<(q.size:Int))=true:=Aav (by omega)
  clear hq13 hgi hok hdy hl12 hti0 hall
  go_wp2_with fail
  refine (HAW.out _ (HT.out.below HB1.out.1)).mono ?_
  rintro e w2 ⟨rfl,x2⟩
  have HB2:=hI (HB1.out.below x2)
  clear x2
  go_wp2_with fail
  go_ret
  exact⟨rfl,HB2.out.1⟩
 have t13:decide ((13:Int)<(q.size:Int))=false:=Aaw (by omega)
 obtain⟨zs,hzs⟩:=slots_of ls (fun l hl=>(hti0 l hl).sized)
 have hti:∀l∈zs,l.1.tiny:=fun l hl=>hti0 l.1 (by rw[←hzs];exact List.mem_map.2 ⟨l,hl,rfl⟩)
 have hzl:zs.length=ls.length:=by rw[←hzs,List.length_map]
 have hrd:=HR.out
 rw[←hzs] at hrd hall
 have HRD:=hI (fun (W:World) (hb:Below w.heap.size w W)=>(Aut hrd).below hb)
 have hlz:zs.length≤12:=by omega
 have hcz:zs.length≤c:=by omega
 have h0:achkL i zs d=0:=At5 hok hall hdy
 have HAC:=hI (fun W (hb:Below w.heap.size w W)=>Aue w.heap.size i A zs c hcz (by omega) hgi d W (HRD.out W hb) hb.size (HT.out.below hb))
 rw[hzl] at HAC
 unfold Inst.enc Inst.cells at HAC
 obtain⟨c0,c1,c2,c3,c4,c5,c6,c7,c8,c9,c10,c11,c12,c13,c14⟩:=At7 (HB1.out.get 0 rfl)
 have dk:=Aaa (HB1.out.get 1 rfl) 0
 simp at dk
 have hid1:∀z:Int,(z==z)=true:=fun z=>beq_self_eq_true z
 have he1:((⟨#[]⟩:ByteArray).toList==(⟨#[]⟩:ByteArray).toList)=true:=by kernel_rfl
 by_cases h2:i.kind=2
 case neg =>
  as_aux_lemma =>
  obtain⟨e1,e2⟩:=At8 h0 h2
  rw[e1,e2] at HAC
  have t1:(i.kind==2)=false:=Aaj.2 h2
  have t1':(i.kind != 2)=true:=by rw[bne,t1];rfl
  clear h2 e1 e2 hgi hok hdy hl12 hti0 hall hq13 hzs hti hzl hrd HRD hlz hcz h0 HR
  go_wp2_with fail
  refine (HAC.out _ HB1.out.1).mono ?_
  rintro e w2 ⟨rfl,x2⟩
  have HB2:=hI (HB1.out.below x2)
  clear x2 HB1 HAC dk c0 c1 c2 c3 c4 c5 c6 c7 c8 c9 c10 c11 c12 c13 c14
  obtain⟨c0,c1,c2,c3,c4,c5,c6,c7,c8,c9,c10,c11,c12,c13,c14⟩:=At7 (HB2.out.get 0 rfl)
  have dk:=Aaa (HB2.out.get 1 rfl) 0
  simp at dk
  go_wp2_with fail
  refine (HAW.out _ (HT.out.below HB2.out.1)).mono ?_
  rintro e w3 ⟨rfl,x3⟩
  have HB3:=hI (HB2.out.below x3)
  clear x3
  go_wp2_with fail
  go_ret
  exact⟨rfl,HB3.out.1⟩
 have t2:(i.kind==2)=true:=beq_iff_eq.2 h2
 have t2':(i.kind != 2)=false:=by rw[bne,t2];rfl
 by_cases hlf:i.issued≤d∧d≤i.matures
 case neg =>
  as_aux_lemma =>
  obtain⟨e1,e2⟩:=ac_out hgi h0 h2 hlf
  rw[e2] at HAC
  obtain⟨zc,hzc⟩:∃z,acC i zs d=z:=⟨_,rfl⟩
  rw[hzc] at HAC e1
  clear e2 hgi hok hdy hl12 hti0 hall hq13 hzs hti hzl hrd HRD hlz hcz h0 HR h2 hzc
  by_cases hlt:d<i.issued
  ·have t3:decide (d<i.issued)=true:=Aav hlt
   clear hlt hlf
   rcases e1 with rfl|rfl
   all_goals
    go_wp2_with fail
    refine (HAC.out _ HB1.out.1).mono ?_
    rintro e w2 ⟨rfl,x2⟩
    have HB2:=hI (HB1.out.below x2)
    clear x2 HB1 HAC dk c0 c1 c2 c3 c4 c5 c6 c7 c8 c9 c10 c11 c12 c13 c14
    obtain⟨c0,c1,c2,c3,c4,c5,c6,c7,c8,c9,c10,c11,c12,c13,c14⟩:=At7 (HB2.out.get 0 rfl)
    have dk:=Aaa (HB2.out.get 1 rfl) 0
    simp at dk
    go_wp2_with fail
    refine (HAW.out _ (HT.out.below HB2.out.1)).mono ?_
    rintro e w3 ⟨rfl,x3⟩
    have HB3:=hI (HB2.out.below x3)
    clear x3
    go_wp2_with fail
    go_ret
    exact⟨rfl,HB3.out.1⟩
  ·have t3:decide (d<i.issued)=false:=Aaw hlt
   have t4:decide (i.matures<d)=true:=Aav (by omega)
   clear hlt hlf
   rcases e1 with rfl|rfl
   all_goals
    go_wp2_with fail
    refine (HAC.out _ HB1.out.1).mono ?_
    rintro e w2 ⟨rfl,x2⟩
    have HB2:=hI (HB1.out.below x2)
    clear x2 HB1 HAC dk c0 c1 c2 c3 c4 c5 c6 c7 c8 c9 c10 c11 c12 c13 c14
    obtain⟨c0,c1,c2,c3,c4,c5,c6,c7,c8,c9,c10,c11,c12,c13,c14⟩:=At7 (HB2.out.get 0 rfl)
    have dk:=Aaa (HB2.out.get 1 rfl) 0
    simp at dk
    go_wp2_with fail
    refine (HAW.out _ (HT.out.below HB2.out.1)).mono ?_
    rintro e w3 ⟨rfl,x3⟩
    have HB3:=hI (HB2.out.below x3)
    clear x3
    go_wp2_with fail
    go_ret
    exact⟨rfl,HB3.out.1⟩
 have t3:decide (d<i.issued)=false:=Aaw (by omega)
 have t4:decide (i.matures<d)=false:=Aaw (by omega)
 have HBA:=hI (fun W (hb:Below w.heap.size w W)=>At1 hgi d W (HT.out.below hb))
 unfold Inst.enc Inst.cells at HBA
 rcases Atw hgi with⟨hn,_⟩|⟨_,_,hp⟩|⟨hbi,hfew,hp⟩
 ·exact absurd ⟨hok,h2⟩ hn
 ·as_aux_lemma =>
  obtain⟨e1,e2⟩:=At9 h0 h2 (by rw[hp];decide)
  rw[e1,e2] at HAC
  rw[dy_4 hp] at HBA
  generalize dyQ i d ⟨#[]⟩ ⟨#[]⟩=qd at HBA
  clear e1 e2 hgi hok hdy hl12 hti0 hall hq13 hzs hti hzl hrd HRD hlz hcz h0 HR h2 hlf hp
  unfold fenc at HBA
  go_wp2_with fail
  refine (HAC.out _ HB1.out.1).mono ?_
  rintro e w2 ⟨rfl,x2⟩
  have HB2:=hI (HB1.out.below x2)
  clear x2 HB1 HAC dk c0 c1 c2 c3 c4 c5 c6 c7 c8 c9 c10 c11 c12 c13 c14
  obtain⟨c0,c1,c2,c3,c4,c5,c6,c7,c8,c9,c10,c11,c12,c13,c14⟩:=At7 (HB2.out.get 0 rfl)
  have dk:=Aaa (HB2.out.get 1 rfl) 0
  simp at dk
  go_wp2_with fail
  refine (HBA.out _ HB2.out.1).mono ?_
  rintro e w3 ⟨rfl,x3⟩
  have HB3:=hI (HB2.out.below x3)
  clear x3 HB2 HBA dk c0 c1 c2 c3 c4 c5 c6 c7 c8 c9 c10 c11 c12 c13 c14
  have HB4:Hid (BX w _ _):=(HB3.out.push (.cells #[.string (I qd.num),.string (dn qd)] 25)).below (Below.refl _ _)
  go_wp2_with fail
  refine (HAW.out _ (HT.out.below HB4.out.1)).mono ?_
  rintro e w4 ⟨rfl,x4⟩
  have HB5:=hI (HB4.out.below x4)
  clear x4
  go_wp2_with fail
  go_ret
  exact⟨rfl,HB5.out.1⟩
 ·as_aux_lemma =>
  obtain⟨e1,e2⟩:=Aua h0 h2 hp
  obtain⟨d1,d2⟩:=dy_in hp hdy hlf
  rw[d2] at e2
  rw[e1,e2] at HAC
  rw[d1,d2] at HBA
  obtain⟨K,hK⟩:∃K,K=1000:=⟨_,rfl⟩
  obtain⟨M,hM⟩:∃M,M=2000:=⟨_,rfl⟩
  have zq:(I (sumBy qtyOf (ownL zs i.id))).size≤M:=by
   have:=sumBy_size (qty_lt hK) (ownL zs i.id) (by have:(ownL zs i.id).length≤12:=Aap (List.length_filter_le _ _) hlz;omega)
   omega
  have HLA:=hI (At2 hall)
  have hsn:0≤qtyS i zs:=Ave _ (fun x hx=>by
   have hm:=(List.mem_filter.1 hx).1
   have:=(lchk_zero.1 (HLA.out.ok x.1 (List.mem_map.2 ⟨x,hm,rfl⟩))).pq
   show 0≤vl x.1.qty
   omega)
  have han:0≤accQ i d:=accQ_nn hbi hdy
  have HZ0:Hid (ls.length=0→qtyS i zs=0):=fun h=>by
   have:zs=[]:=Aag (by omega)
   rw[this];rfl
  have HTO:=hI (fun W (hb:Below w.heap.size w W)=>lTotal_any w.heap.size A zs c i.id W (by omega) (HRD.out W hb) hb.size (HT.out.below hb))
  have hqs:sumBy qtyOf (ownL zs i.id)=qtyS i zs:=rfl
  rw[hzl,hqs] at HTO
  rw[hqs] at zq
  generalize sumBy costOf (ownL zs i.id)=sc at HTO
  have HFROM:Hid (∀x∈perL i,x.1=d→accQ i d=0):=fun x hx e=>by
   obtain⟨k,hk⟩:=List.mem_iff_getElem?.1 hx
   rw[←e];exact Auh hbi hk
  have bq:BdQ (accQ i d) 59:=Aud hbi hdy
  obtain⟨sq,hsq⟩:∃z,qtyS i zs=z:=⟨_,rfl⟩
  rw[hsq] at zq hsn HTO HZ0 HAC
  have bn:BdQ (sq:Rat) M:=BdQ.int (by rw[←vl_I sq];exact Aah (vl_lt _) (Ac4 zq)) (by omega)
  have HOF:=hI (fun W hW=>Ahv (I sq) W (by omega) hW)
  rw[vl_I] at HOF
  have HMU:=hI (fun W hW=>fMulQ bq bn (by omega) (by omega) W hW)
  have HRO:=hI (fun W hW=>dRoundQ (bq.mul bn) (by omega) W hW)
  have zr:=Aur (bq.mul bn)
  have hrn:0≤rnd (accQ i d*(sq:Rat)):=rnd_nnQ (Rat.mul_nonneg han (Rat.intCast_le_intCast.2 hsn))
  have HRZ:Hid ((accQ i d=0∨sq=0)→rnd (accQ i d*(sq:Rat))=0):=fun h=>by
   rcases h with h|h
   ·rw[h,Rat.zero_mul];exact I_inj (rnd_zero_I.trans zero_eq)
   ·rw[h,show ((0:Int):Rat)=0 from rfl,Rat.mul_zero];exact I_inj (rnd_zero_I.trans zero_eq)
  obtain⟨qn,hqn⟩:∃r:Rat,(sq:Rat)=r:=⟨_,rfl⟩
  rw[hqn] at HAC HOF HMU HRO zr hrn HRZ
  obtain⟨qa,hqa⟩:∃r:Rat,accQ i d=r:=⟨_,rfl⟩
  rw[hqa] at HAC HBA HMU HRO zr hrn HRZ HFROM
  obtain⟨qm,hqm⟩:∃r:Rat,qa*qn=r:=⟨_,rfl⟩
  rw[hqm] at HAC HMU HRO zr hrn HRZ
  obtain⟨rn,hrne⟩:∃z,rnd qm=z:=⟨_,rfl⟩
  rw[hrne] at HAC HRO zr hrn HRZ
  have HCM:=hI (fun W=>Agf (I rn) ⟨#[]⟩ W (by omega) (by show 0≤_;omega))
  rw[vl_I,show vl (⟨#[]⟩:ByteArray)=0 from by rw[zero_eq,vl_I]] at HCM
  have t5:decide (cmpI rn 0<0)=false:=Aaw (by rw[cmpI_lt];omega)
  have s1:((I rn).toList==(I rn).toList)=true:=beq_self_eq_true _
  have s1':((I rn).toList != (I rn).toList)=false:=by rw[bne,s1];rfl
  have hpl:(perL i).length≤1000000:=by
   have:(perL i).length=(cuts i.issued i.matures i.months).length+1:=Ajv _ _ _
   omega
  have hpn:perB i=perL i:=by unfold perB;rw[if_pos hp]
  have HPE:=hI (fun W (hb:Below w.heap.size w W)=>Aty hgi W (HT.out.below hb))
  rw[hpn,hp] at HPE
  unfold Inst.enc Inst.cells at HPE
  have HPN:=hI (Asq i.issued i.matures i.months)
  have HAUX:=hI (And.intro hgi (And.intro hok (And.intro hdy (And.intro h2 (And.intro hp (And.intro hlf (And.intro hti (And.intro hzl (And.intro hlz (And.intro hcz (And.intro h0 (And.intro hsq (And.intro hqn (And.intro hqa (And.intro hqm hrne)))))))))))))))
  have HPL:=hI hpl
  have HZS:=hI hzs
  clear e1 e2 d1 d2 hK zq hsn han hqs bq bn zr hrn hpl hpn hgi hok hdy hl12 hti0 hall hzs hti hzl hrd hlz hcz h0 h2 hlf hp hbi hfew hsq hqn hqa hqm hrne hM
  unfold fenc at HBA HOF HMU HRO
  go_wp2_with fail
  refine (HAC.out _ HB1.out.1).mono ?_
  rintro e w2 ⟨rfl,x2⟩
  have HB2:=hI (HB1.out.below x2)
  clear x2 HB1 HAC dk c0 c1 c2 c3 c4 c5 c6 c7 c8 c9 c10 c11 c12 c13 c14
  obtain⟨c0,c1,c2,c3,c4,c5,c6,c7,c8,c9,c10,c11,c12,c13,c14⟩:=At7 (HB2.out.get 0 rfl)
  have dk:=Aaa (HB2.out.get 1 rfl) 0
  simp at dk
  go_wp2_with fail
  refine (HBA.out _ HB2.out.1).mono ?_
  rintro e w3 ⟨rfl,x3⟩
  have HB3:=hI (HB2.out.below x3)
  clear x3 HB2 HBA dk c0 c1 c2 c3 c4 c5 c6 c7 c8 c9 c10 c11 c12 c13 c14
  obtain⟨W4,hW4⟩:∃W,w3.alloc (.cells #[.string (I qa.num),.string (dn qa)] 25)=W:=⟨_,rfl⟩
  obtain⟨B,hB⟩:∃n,w3.heap.size=n:=⟨_,rfl⟩
  have HB4:Hid (BX w [(B,fobj qa),(w.heap.size,.cells i.cells 27 (0,0)),(w.heap.size+1,.cells #[.int .i64 d] 22 (0,0))] W4):=by rw[Hid,←hW4,←hB];exact HB3.out.push _
  clear HB3
  obtain⟨c0,c1,c2,c3,c4,c5,c6,c7,c8,c9,c10,c11,c12,c13,c14⟩:=At7 (HB4.out.get 1 rfl)
  have dk:=Aaa (HB4.out.get 2 rfl) 0
  simp at dk
  go_wp2_with fail
  refine (HTO.out _ HB4.out.1).mono ?_
  rintro e w5 ⟨rfl,x5⟩
  have HB5:=hI (HB4.out.below x5)
  clear x5 HB4 HTO dk c0 c1 c2 c3 c4 c5 c6 c7 c8 c9 c10 c11 c12 c13 c14 hW4 hB
  have hg:BX w [(B,fobj qa),(w.heap.size,.cells i.cells 27 (0,0)),(w.heap.size+1,.cells #[.int .i64 d] 22 (0,0))] w5.drew:=⟨HB5.out.1.drew,HB5.out.2⟩
  have m0:=Aaa (hg.get 0 rfl) 0
  have m1:=Aaa (hg.get 0 rfl) 1
  simp at m0 m1
  have HO4:=hI (Avf (q:=qa) (B:=B) (l:=[(w.heap.size,.cells i.cells 27 (0,0)),(w.heap.size+1,.cells #[.int .i64 d] 22 (0,0))]) HT.out HOF.out)
  have HM4:=hI (Avf (q:=qa) (B:=B) (l:=[(w.heap.size,.cells i.cells 27 (0,0)),(w.heap.size+1,.cells #[.int .i64 d] 22 (0,0))]) HT.out HMU.out)
  have HR4:=hI (Avf (q:=qa) (B:=B) (l:=[(w.heap.size,.cells i.cells 27 (0,0)),(w.heap.size+1,.cells #[.int .i64 d] 22 (0,0))]) HT.out HRO.out)
  clear HOF HMU HRO
  go_wp2_with fail
  go_region_held3 (fun W=>W.cell? ⟨B,0,none⟩=some (.string (I qa.num))∧W.cell? ⟨B,1,none⟩=some (.string (dn qa)))
   (((try dsimp only);refine⟨?_,?_⟩<;>first|assumption|(go_simp;done)))
   (first
     | (go_at_call 29;refine (HO4.out _ hg).mono ?_;clear hg m0 m1;rintro e wn ⟨rfl,hg,m0,m1⟩)
     | (go_at_call 12;refine (HM4.out _ hg).mono ?_;clear hg m0 m1;rintro e wn ⟨rfl,hg,m0,m1⟩)
     | (go_at_call 28;refine (HR4.out _ hg).mono ?_;clear hg m0 m1;rintro e wn ⟨rfl,hg,m0,m1⟩))
  have HB6:=hI hg
  clear hg m0 m1 HO4 HM4 HR4
  as_aux_lemma =>
  go_wp2_with fail
  refine (HCM.out _).mono ?_
  rintro e w7 ⟨rfl,x7⟩
  have HB7:=hI (HB6.out.below x7)
  clear x7 HB6 HCM
  obtain⟨c0,c1,c2,c3,c4,c5,c6,c7,c8,c9,c10,c11,c12,c13,c14⟩:=At7 (HB7.out.get 1 rfl)
  have dk:=Aaa (HB7.out.get 2 rfl) 0
  simp at dk
  go_wp2_with fail
  refine (HPE.out _ HB7.out.1).mono ?_
  rintro e w8 h8
  have x8:=h8.2
  obtain⟨pa,kc,rfl,hrp,_⟩:=h8.have HPN.out
  have HB8:=hI (HB7.out.below x8)
  have HHF:=hI (Aux pa (perL i) _ kc d (w.heap.size+1) rfl HPL.out w8 hrp (HB8.out.get 2 rfl))
  generalize (perL i).length=NP at HHF ⊢
  clear h8 x8 hrp HB7 HPE dk c0 c1 c2 c3 c4 c5 c6 c7 c8 c9 c10 c11 c12 c13 c14 HPN HPL
  obtain⟨N,hN⟩:∃N,ls.length=N:=⟨_,rfl⟩
  rw[hN] at HZ0 hcap ⊢
  have HNL:=hI hN
  clear hN
  obtain⟨lb,hlb⟩:∃b:Bool,((N:Int)==0)=b:=⟨_,rfl⟩
  have hlb':(N==0)=lb:=by rw[←hlb];cases N<;>rfl
  have HLB:Hid (lb=true→N=0):=fun e=>by rw[e] at hlb';exact beq_iff_eq.1 hlb'
  have HLN:Hid (N≠0→lb=false):=fun e=>by rw[←hlb'];exact Aaj.2 e
  go_upto_region 14 with fail
  go_cut [149] (fun v wx=>v=.bool lb∧BX w [(B,fobj qa),(w.heap.size,.cells i.cells 27 (0,0)),(w.heap.size+1,.cells #[.int .i64 d] 22 (0,0))] wx)
  case first =>
   as_aux_lemma =>
   go_wp2_with fail
   refine HHF.out.mono ?_
   rintro e w9 ⟨⟨g,rfl,hgf⟩,x9⟩
   have HB9:=hI (HB8.out.below x9)
   have HGF:=hI hgf
   clear x9 HB8 HHF hgf
   by_cases hz:rn=0
   ·have n1:=Avg hz
    have n1':((I rn).toList != [])=false:=by rw[bne,n1];rfl
    clear hz
    cases lb
    all_goals cases g
    all_goals
     go_wp2_with fail
     go_meet
     exact⟨rfl,HB9.out⟩
   ·have n1:=nil_no hz
    have n1':((I rn).toList != [])=true:=by rw[bne,n1];rfl
    obtain rfl:=HLN.out (fun e=>hz (HRZ.out (.inr (HZ0.out e))))
    cases g
    case true =>
     exfalso
     obtain⟨x,hx,e⟩:=HGF.out rfl
     exact hz (HRZ.out (.inl (HFROM.out x hx e)))
    clear hz
    go_wp2_with fail
    go_meet
    exact⟨rfl,HB9.out⟩
  case rest =>
  obtain⟨rfl,hg⟩:=hcut
  have HB9:=hI hg
  clear hg HB8 HHF
  cases lb
  case true =>
   have n1:=Avg (HRZ.out (.inr (HZ0.out (HLB.out rfl))))
   go_wp2_with fail
   refine (HAW.out _ (HT.out.below HB9.out.1)).mono ?_
   rintro e w10 ⟨rfl,x10⟩
   have HB10:=hI (HB9.out.below x10)
   clear x10
   go_wp2_with fail
   go_ret
   exact⟨rfl,HB10.out.1⟩
  have hN0:N≠0:=fun e=>by rw[e] at hlb';cases hlb'
  clear HLB HLN HZ0 HRZ HFROM hlb'
  obtain⟨k,hk,hkN⟩:∃k:Nat,Int.tmod at' (N:Int)=(k:Int)∧k<N:=by
   have h1:=Int.tmod_lt_of_pos at' (b:=(N:Int)) (by omega)
   have h2:=Int.tmod_nonneg (N:Int) ha0
   exact⟨(Int.tmod at' N).toNat,by omega,by omega⟩
  have hkb:(k:Int)<(N:Int):=by omega
  have HZL:Hid (zs.length=N):=HAUX.out.2.2.2.2.2.2.2.1.trans HNL.out
  obtain⟨x,hx⟩:∃x,zs[k]?=some x:=⟨_,Aae (by rw[HZL.out];exact hkN)⟩
  obtain⟨ad,rfl,had,hcell⟩:=(HRD.out w (Below.refl _ _)) (by intro e;rw[e] at hx;cases hx)
  obtain⟨y0,y1,y2,y3,y4,y5,y6⟩:=(hcell k x hx).below HB9.out.1 (by rw[Ach];exact had)
  have HX:=hI hx
  clear hx hcell had
  have htx:x.1.tiny:=HAUX.out.2.2.2.2.2.2.1 x (Aar HX.out)
  have hox:x.1.ok:=lchk_zero.1 (HLA.out.ok x.1 (List.mem_map.2 ⟨x,Aar HX.out,rfl⟩))
  rcases Avh x.1 q htx hq13 hox with⟨code,hc0,hcut⟩|⟨hcq,hq0,hq2,hcut⟩
  ·as_aux_lemma =>
   have tc:(code==0)=false:=Aaj.2 hc0
   have tc':(code != 0)=true:=by rw[bne,tc];rfl
   have HCU:=hI (hcut wc (HT.out.below HB9.out.1))
   clear hcut hc0 htx hox
   dsimp only[zeroLot,Lot.enc,Lot.cells] at HCU
   go_wp2_with fail
   refine HCU.out.mono ?_
   rintro e w10 ⟨rfl,b10⟩
   have HB10:=hI (HB9.out.below b10)
   clear b10 HCU y0 y1 y2 y3 y4 y5 y6
   have hbz:Below w.heap.size w ((w10.alloc (.cells #[.string ⟨#[]⟩,.string ⟨#[]⟩,.int .i64 0,.int .i64 0,.string ⟨#[]⟩,.string ⟨#[]⟩,.string ⟨#[]⟩] 63)).alloc (.cells #[.string ⟨#[]⟩,.string ⟨#[]⟩,.int .i64 0,.int .i64 0,.string ⟨#[]⟩,.string ⟨#[]⟩,.string ⟨#[]⟩] 63)):=(HB10.out.1.alloc HB10.out.1.size _).alloc (by have:=HB10.out.1.size;simp;omega) _
   go_wp2_with fail
   refine (HAW.out _ (HT.out.below hbz)).mono ?_
   rintro e wz ⟨rfl,bz⟩
   have HZ:=hI (hbz.trans (bz.mono hbz.size))
   clear bz hbz
   go_wp2_with fail
   go_ret
   exact⟨rfl,HZ.out⟩
  have hCO:=cut_oks htx hox hcq hq13 hq0 hq2
  have HCO:=hI (And.intro hCO (show vl (cutA x.1 q).qty+vl (cutN x.1 q).qty=vl x.1.qty from by
   show vl q+vl (I (vl x.1.qty-vl q))=_
   rw[vl_I];omega))
  have HCU:=hI (hcut wc (HT.out.below HB9.out.1))
  have hcn:(cutN x.1 q).cells=#[.string ⟨#[122,122,47,57,57,57,57]⟩,.string (cutB x.1 q).inst,.int .i64 (cutB x.1 q).acq,.int .i64 (cutB x.1 q).opn,.string (cutB x.1 q).qty,.string (cutB x.1 q).cost,.string (cutB x.1 q).used]:=rfl
  have hci:(cutN x.1 q).id=nid∧(cutN x.1 q).inst=x.1.inst∧(cutA x.1 q).id=x.1.id∧(cutA x.1 q).inst=x.1.inst:=⟨rfl,rfl,rfl,rfl⟩
  generalize cutA x.1 q=LA at *
  generalize cutB x.1 q=LB at *
  generalize cutN x.1 q=LN at *
  have HCN:=hI (And.intro hcn hci)
  clear hcut htx hox hCO hcn hci hcq hq0 hq2
  dsimp only[Lot.enc,Lot.cells] at HCU
  as_aux_lemma =>
  go_wp2_with fail
  refine HCU.out.mono ?_
  rintro e w10 ⟨rfl,b10⟩
  have HB10:=hI (HB9.out.below b10)
  clear b10 HCU y0 y1 y2 y3 y4 y5 y6 HB9
  by_cases h11:11<N
  ·as_aux_lemma =>
   have t11:decide ((11:Int)<(N:Int))=true:=Aav (by omega)
   clear h11
   have hbz:Below w.heap.size w ((w10.alloc (.cells #[.string LA.id,.string LA.inst,.int .i64 LA.acq,.int .i64 LA.opn,.string LA.qty,.string LA.cost,.string LA.used] 63)).alloc (.cells #[.string LB.id,.string LB.inst,.int .i64 LB.acq,.int .i64 LB.opn,.string LB.qty,.string LB.cost,.string LB.used] 63)):=(HB10.out.1.alloc HB10.out.1.size _).alloc (by have:=HB10.out.1.size;simp;omega) _
   go_wp2_with fail
   refine (HAW.out _ (HT.out.below hbz)).mono ?_
   rintro e wz ⟨rfl,bz⟩
   have HZ:=hI (hbz.trans (bz.mono hbz.size))
   clear bz hbz
   go_wp2_with fail
   go_ret
   exact⟨rfl,HZ.out⟩
  have t11:decide ((11:Int)<(N:Int))=false:=Aaw (by omega)
  have HBF:Hid (BX w ((w10.heap.size+1,.cells LN.cells 63 (0,0))::(w10.heap.size,.cells LA.cells 63 (0,0))::[(B,fobj qa),(w.heap.size,.cells i.cells 27 (0,0)),(w.heap.size+1,.cells #[.int .i64 d] 22 (0,0))]) ((w10.alloc (.cells #[.string LA.id,.string LA.inst,.int .i64 LA.acq,.int .i64 LA.opn,.string LA.qty,.string LA.cost,.string LA.used] 63)).alloc (.cells #[.string ⟨#[122,122,47,57,57,57,57]⟩,.string LB.inst,.int .i64 LB.acq,.int .i64 LB.opn,.string LB.qty,.string LB.cost,.string LB.used] 63))):=by
   have h:=((HB10.out.push (.cells LA.cells 63)).push (.cells LN.cells 63))
   rw[World.size_alloc] at h
   rw[HCN.out.1] at h ⊢
   exact h
  obtain⟨kf,bf,hfr⟩:∃kf bf,findR ls nid 0=(kf,bf):=⟨_,_,rfl⟩
  have HFN:Hid (∀W,BX w ((w10.heap.size+1,.cells LN.cells 63 (0,0))::(w10.heap.size,.cells LA.cells 63 (0,0))::[(B,fobj qa),(w.heap.size,.cells i.cells 27 (0,0)),(w.heap.size+1,.cells #[.int .i64 d] 22 (0,0))]) W→Calls Tryz.prog 35 #[.slice (some ad) N c,.string ⟨#[122,122,47,57,57,57,57]⟩] W fun e w'=>e=.returned (.tuple #[.int .i64 (kf:Int),.bool bf])∧Below W.heap.size W w'):=fun W hW=>by
   have h:=lFind_any w.heap.size (some ad) ls c nid (by have:=HNL.out;omega) W (RdB'.below HR.out.rdb' hW.1) hW.1.size
   rw[hfr,HNL.out] at h
   exact h
  have HFR:=hI hfr
  clear hfr h11
  go_wp2_with fail
  refine (HFN.out _ HBF.out).mono ?_
  rintro e w11 ⟨rfl,b11⟩
  have HB11:=hI (HBF.out.below b11)
  have hbs:w10.heap.size+2≤w11.heap.size:=by
   have h:=HB11.out.lt 0 rfl
   omega
  have hqs:B<w10.heap.size:=HB10.out.lt 0 rfl
  have hws:w.heap.size+1<w10.heap.size:=HB10.out.lt 2 rfl
  obtain⟨Ba,hBa⟩:∃n,w10.heap.size=n:=⟨_,rfl⟩
  rw[hBa] at HB11 hbs hqs hws ⊢
  have HSZ:=hI (And.intro hbs (And.intro hqs hws))
  clear b11 HFN HBF HB10 hBa hbs hqs hws
  cases bf
  case true =>
   go_wp2_with fail
   refine (HAW.out _ (HT.out.below HB11.out.1)).mono ?_
   rintro e w12 ⟨rfl,x12⟩
   have HB12:=hI (HB11.out.below x12)
   clear x12
   go_wp2_with fail
   go_ret
   exact⟨rfl,HB12.out.1⟩
  as_aux_lemma =>
  have hN12:N≤12:=by have h1:=HAUX.out.2.2.2.2.2.2.2.2.1;have h2:=HZL.out;omega
  have hne:∀y∈zs,y.1.id≠nid:=fun y hy=>findR_false ls nid 0 (by rw[HFR.out]) y.1 (by rw[←HZS.out];exact List.mem_map.2 ⟨y,hy,rfl⟩)
  obtain⟨hA,hoA,hB',hoB⟩:=HCO.out.1
  have hall2:=Aun (a:=⟨LA,hA⟩) (b:=⟨LN,hB'⟩) HLA.out HX.out (by rw[HZL.out];omega) (lchk_zero.2 hoA) (lchk_zero.2 hoB) HCN.out.2.2.2.1 (fun y hy=>by
   show y.1.id≠LN.id
   rw[HCN.out.2.1];exact hne y hy)
  have hqt:=Aum (a:=⟨LA,hA⟩) (b:=⟨LN,hB'⟩) (s:=i.id) HX.out HCN.out.2.2.2.2 HCN.out.2.2.1 HCO.out.2
  have hcl:=Aui (a:=⟨LA,hA⟩) (b:=⟨LN,hB'⟩) (show k<zs.length by rw[HZL.out];exact hkN)
  rw[HZL.out] at hcl
  obtain⟨kn,hkn⟩:∃kn,k+1=kn:=⟨_,rfl⟩
  obtain⟨a3,ha3⟩:∃a3:Addr,a3=(if c=kn then ad else ad.add (kn*7)):=⟨_,rfl⟩
  have HWR:Hid (IntKind.i64.wrap ((k:Int)+1)=(kn:Int)):=by rw[Hid,IntKind.wrap_i64];omega
  have hs2:=fun W=>Au8 W ad N c kn (by omega)
  rw[←ha3] at hs2
  have HSH2:=hI hs2
  have HSO:=hI (fun W=>Au9 W ad N c k (by omega))
  have hrbw:RdB w.heap.size w (some ad) zs:=HRD.out w (Below.refl _ _)
  have htl:(zs.take k).length=k:=by rw[Aas,HZL.out];omega
  have hdl2:(zs.drop kn).length=N-kn:=by rw[List.length_drop,HZL.out]
  have HCAT2:Hid (∀W Bn,W.heap[Bn]?=some (.cells #[.slice (some ad) k c,.slice (some a3) (N-kn) (c-kn)] 45 (0,0))→Below w.heap.size w W→Calls Tryz.prog 36 #[.slice (some ⟨Bn,0,none⟩) 2 2] W fun e w'=>∃v,e=.returned v∧w'.ownsRow W.heap.size 63 7 v (zs.take k++zs.drop kn).length (flatL (zs.take k++zs.drop kn))∧Below W.heap.size W w'):=fun W Bn hB hW=>by
   have hd:=(hrbw.below hW).drop (c:=c) kn (by rw[HZL.out];omega) (by rw[HZL.out];omega)
   rw[←ha3] at hd
   exact Au6 Bn w.heap.size ad (zs.take k) c a3 (zs.drop kn) (c-kn) 2 W (by rw[hdl2,htl];exact hB) ((hrbw.below hW).take k) hd hW.size (by omega) (by omega)
  have hlb0:(zs.take k++zs.drop kn).length=N-1:=by rw[Aan,hdl2,htl];omega
  obtain⟨lc,hlc⟩:∃lc:List SLot,lc=cutS zs k ⟨LA,hA⟩ ⟨LN,hB'⟩:=⟨_,rfl⟩
  have hlcb:lc=(zs.take k++zs.drop kn)++[⟨LA,hA⟩,⟨LN,hB'⟩]:=by rw[hlc,←hkn];rfl
  rw[←hlc] at hall2 hqt hcl
  generalize zs.take k++zs.drop kn=lb at HCAT2 hlb0 hlcb
  have HLC:Hid (∀(base:Nat) (v5:Value) (w5:World),w5.ownsRow base 63 7 v5 (lb.length+2) (flatL lb++(LA.cells.toList++LN.cells.toList))→LotC w5 lc v5):=fun base v5 w5 h=>by
   rw[hlcb]
   exact Avi (sa:=⟨LA,hA⟩) (sb:=⟨LN,hB'⟩) h
  have HLZ:Hid (lb.length≤100000):=by rw[Hid,hlb0];omega
  have hac2:∀A5 c5 n5 (W:World),lc.length≤c5→RdB n5 W A5 lc→n5≤W.heap.size→Below w.heap.size w W→Calls Tryz.prog 20 #[i.enc,.slice A5 lc.length c5,.int .i64 d] W fun e w'=>e=.returned (.tuple #[.string (I rn),.int .i64 0])∧Below W.heap.size W w':=fun A5 c5 n5 W h1 h2 h3 h4=>by
   obtain⟨hgi,hok,hdy,hk2,hp,hlf,_,_,_,_,_,hsq,hqn,hqa,hqm,hrne⟩:=HAUX.out
   obtain⟨e1,e2⟩:=Aua (At5 hok hall2 hdy) hk2 hp
   have h:=Aue n5 i A5 lc c5 h1 (by rw[hcl];omega) hgi d W h2 h3 (HT.out.below h4)
   rw[e1,e2,(dy_in hp hdy hlf).2,show qtyS i lc=sq from hqt.trans hsq,hqn,hqa,hqm,hrne] at h
   exact h
  have HAC2:=hI hac2
  unfold Inst.enc Inst.cells at HAC2
  have HNB:=hI hlb0
  clear hac2 hne hall2 hqt hcl hlc hlcb hlb0 htl hdl2 hrbw ha3 hs2 HX HCO HZL HLA HAUX hA hoA hB' hoB
  obtain⟨hbz,hbq,hbw⟩:=HSZ.out
  have HLT:Hid (∀x,x∈[(Ba+1,.cells LN.cells 63 (0,0)),(Ba,.cells LA.cells 63 (0,0)),(B,fobj qa),(w.heap.size,.cells i.cells 27 (0,0)),(w.heap.size+1,.cells #[.int .i64 d] 22 (0,0))]→x.1<w11.heap.size):=fun x hx=>by
   simp at hx
   rcases hx with rfl|rfl|rfl|rfl|rfl
   all_goals
    simp
    try omega
  have HWZ:=hI (show w.heap.size≤w11.heap.size by omega)
  clear hbz hbq hbw HSZ
  go_upto_region 24 with fail
  have hgF:BX w [(Ba+1,.cells LN.cells 63 (0,0)),(Ba,.cells LA.cells 63 (0,0)),(B,fobj qa),(w.heap.size,.cells i.cells 27 (0,0)),(w.heap.size+1,.cells #[.int .i64 d] 22 (0,0))] w11.drew:=⟨HB11.out.1.drew,HB11.out.2⟩
  have HLE:Hid (w11.heap.size≤w11.drew.heap.size):=Aad _
  generalize w11.heap.size=hb at HLT HWZ HLE
  clear HB11
  have mixed:Tryz.prog.follows .mixedOrders=true:=by kernel_rfl
  refine wp_region_any mixed (Aqj (TGJ w i d LA LN B Ba hb qa ad a3 N c k kn lb lc rn _ _ _ _ _ _ _ _ _ _ _ _ _ _ _ _ _ _ _ _ _ _ _ _ _ _ _ _ _ _ _ _ _ _ _ _ _ _ _ _ _ _ _ _ _ _ _ _ _ _ _ _ _ _ _ _ _ _ _ _ _ _ _ _ _ _ _ _ _ _ _ _ _ _ _ _ _ _ _ _ _ _ _ _ _ _ _ _ _ _ _ _ _ _ _ _ _ _ _ _ _ _ _ _ _ _ _ _ _ _ _ _ _ _ _ _ _ _ _ _ _ _ _ _ _ _ _ _ _ _ _ _ _ _ _ _ _ _ _ _ _ _ _ _ _ _ _ _ _ _ _ _ _ _ _ _ _ _ _ _ _ _ _ _ _ _ _ _ _ _ _ _ _ _ _ _ _ _ _ _ _ _ _ _ _ _ _ _ _ _ _ _ _ _ _ _ _ _ _) ?stTG ?dnTG _ _ _ _ ⟨by simp,⟨0,0,_,_,_,_,_,_,_,_,_,_,_,_,_,_,_,_,_,_,_,_,_,rfl,fun h=>by simp at h,fun h=>by simp at h,fun h=>by simp at h,fun h=>by simp at h,fun h=>by simp at h,fun h=>by simp at h,fun h=>by simp at h,fun h=>by simp at h,fun h=>by simp at h,fun h=>by simp at h,fun h=>by simp at h,fun h=>by simp at h,fun h=>by simp at h,fun h=>by simp at h,fun h=>by simp at h,fun h=>by simp at h,fun h=>by simp at h,fun h=>by simp at h,fun h=>by simp at h,hgF,HLE.out,fun h=>by simp at h,fun h=>by simp at h,fun h=>by simp at h,fun h=>by simp at h,fun h=>by simp at h,fun h=>by simp at h,fun h=>by simp at h,fun h=>by simp at h⟩⟩ (by decide))
  case dnTG =>
   intro L a w' hj hr
   have all:=Apr hr hj.sz (by kernel_rfl)
   obtain⟨Bn,Bm,s27,s28,s197,s198,s199,s200,s201,s202,s203,s204,s205,s206,s207,s208,s209,s210,s211,s212,s213,s214,s215,rfl,hv⟩:=hj.fr
   have e27:=hv.k19 (all 19 (by omega));have e28:=hv.k20 (all 20 (by omega))
   subst e27 e28
   have HF9:=hI hv.g.1
   clear all hv hj hr
   dsimp only
   go_wp2_with fail
   refine (HAW.out _ (HT.out.below HF9.out)).mono ?_
   rintro e wz ⟨rfl,bz⟩
   have HZ:=hI (HF9.out.trans (bz.mono HF9.out.size))
   clear bz
   have hid1:=beq_self_eq_true (I rn).toList
   go_wp2_with fail
   go_ret
   exact⟨rfl,HZ.out⟩
  case stTG =>
   intro L a w' hj i hi
   obtain⟨hun,o,ho,hall⟩:=mem_ready.1 hi
   have hoff:=Apg hun
   have hlt:=(Aab.1 ho).1
   simp at hlt
   obtain⟨Bn,Bm,s27,s28,s197,s198,s199,s200,s201,s202,s203,s204,s205,s206,s207,s208,s209,s210,s211,s212,s213,s214,s215,rfl,hv⟩:=hj.fr
   have HV:=hI hv
   have HJ:=hI hj
   clear hv hj
   rcases (show i=0∨i=1∨i=2∨i=3∨i=4∨i=5∨i=6∨i=7∨i=8∨i=9∨i=10∨i=11∨i=12∨i=13∨i=14∨i=15∨i=16∨i=17∨i=18∨i=19∨i=20 from by omega) with rfl|rfl|rfl|rfl|rfl|rfl|rfl|rfl|rfl|rfl|rfl|rfl|rfl|rfl|rfl|rfl|rfl|rfl|rfl|rfl|rfl
   all_goals simp at ho
   all_goals subst ho
   obtain⟨c0,c1,c2,c3,c4,c5,c6,c7,c8,c9,c10,c11,c12,c13,c14⟩:=At7 (HV.out.g.get 3 rfl)
   rotate_left
   rotate_left
   rotate_left
   cases HV.out.k1 (Hq hall 1).out
   cases HV.out.k2 (Hq hall 2).out
   have hsl:=HSO.out
   rotate_left
   rotate_left
   rotate_left
   cases HV.out.k5 (Hq hall 5).out
   have hwr:=HWR.out
   rotate_left
   cases HV.out.k4 (Hq hall 4).out
   cases HV.out.k6 (Hq hall 6).out
   have hsl:=HSH2.out
   rotate_left
   ·cases HV.out.k3 (Hq hall 3).out
    cases HV.out.k7 (Hq hall 7).out
    clear hall hi
    have bn:Below w'.heap.size w' (w'.alloc (.cells #[.slice (some ad) k c,.slice (some a3) (N-kn) (c-kn)] 45)):=(Below.refl _ _).alloc (Aad _) _
    have hg:=HV.out.g.below bn
    refine App rfl fun K' HK=>?_
    go_simp
    exact HK.out _ _ ⟨by simp[HJ.out.sz],⟨w'.heap.size,_,_,_,_,_,_,_,_,_,_,_,_,_,_,_,_,_,_,_,_,_,_,rfl,Um HV.out.k0,Um HV.out.k1,Um HV.out.k2,Um HV.out.k3,Um HV.out.k4,Um HV.out.k5,Um HV.out.k6,Um HV.out.k7,fun _=>rfl,Um HV.out.k10,Um HV.out.k11,Um HV.out.k12,Um HV.out.k14,Um HV.out.k15,Um HV.out.k16,Um HV.out.k17,Um HV.out.k18,Um HV.out.k19,Um HV.out.k20,hg,Aap HV.out.z bn.size,fun _ _=>Aax _ _,fun h _=>(Apk hoff (HV.out.q9 (Uz h))).elim,fun h j=>(bn.block _ (Aab.1 (HV.out.t12 (Uz h) (Dz j))).1).trans (HV.out.t12 (Uz h) (Dz j)),fun h _=>(Apk hoff (HV.out.q9 (HV.out.p13 (Uz h)))).elim,fun h=>Aph hun (HV.out.q9 (Uz h)),fun h=>Aph hun (HV.out.q13 (Uz h)),fun h=>Aph hun (HV.out.p13 (Uz h)),fun h=>Aph hun (HV.out.q15 (Uz h))⟩⟩
   ·have H8:=Hq hall 8
    cases HV.out.k8 (Hq hall 8).out
    clear hall hi
    have HNO:=hI hoff
    refine App rfl fun K' HK=>?_
    go_simp
    refine (HCAT2.out _ _ (HV.out.t8 H8.out HNO.out) HV.out.g.1).mono ?_
    rintro e wn ⟨v7,rfl,ho,bn⟩
    have hg:=HV.out.g.below bn
    cases HV.out
    refine HK.out _ _ ⟨by simp[HJ.out.sz],?_⟩
    iterate 23 apply Exists.intro
    refine⟨rfl,?_⟩
    constructor
    case g=>exact hg
    case z=>exact Aap HV.out.z bn.size
    case t8=>exact fun _ j=>(Apk j (Ape hun)).elim
    case r9=>exact fun _ _=>⟨_,ho,HV.out.z,bn.size⟩
    case t12=>exact fun h j=>(bn.block _ (Aab.1 (HV.out.t12 (Uz h) (Dz j))).1).trans (HV.out.t12 (Uz h) (Dz j))
    case r13=>exact fun h _=>(Apk hoff (HV.out.p13 (Uz h))).elim
    case q9=>exact fun _=>Aph hun H8.out
    case q13=>exact fun h=>Aph hun (HV.out.q13 (Uz h))
    case p13=>exact fun h=>Aph hun (HV.out.p13 (Uz h))
    case q15=>exact fun h=>Aph hun (HV.out.q15 (Uz h))
    all_goals exact Um (by assumption)
   have hxx:=HV.out.g.get 1 rfl
   have c0:=Aaa hxx 0;have c1:=Aaa hxx 1;have c2:=Aaa hxx 2;have c3:=Aaa hxx 3;have c4:=Aaa hxx 4;have c5:=Aaa hxx 5;have c6:=Aaa hxx 6;simp[Lot.cells] at c0 c1 c2 c3 c4 c5 c6
   rotate_left
   have hxx:=HV.out.g.get 0 rfl
   have c0:=Aaa hxx 0;have c1:=Aaa hxx 1;have c2:=Aaa hxx 2;have c3:=Aaa hxx 3;have c4:=Aaa hxx 4;have c5:=Aaa hxx 5;have c6:=Aaa hxx 6;simp[Lot.cells] at c0 c1 c2 c3 c4 c5 c6
   rotate_left
   ·cases HV.out.k10 (Hq hall 10).out
    cases HV.out.k11 (Hq hall 11).out
    clear hall hi
    have bn:Below w'.heap.size w' (w'.alloc (.cells #[.string LA.id,.string LA.inst,.int .i64 LA.acq,.int .i64 LA.opn,.string LA.qty,.string LA.cost,.string LA.used,.string LN.id,.string LN.inst,.int .i64 LN.acq,.int .i64 LN.opn,.string LN.qty,.string LN.cost,.string LN.used] 63)):=(Below.refl _ _).alloc (Aad _) _
    have hg:=HV.out.g.below bn
    refine App rfl fun K' HK=>?_
    refine Avd (Avc LA LN w') rfl rfl rfl rfl ?_
    go_simp
    exact HK.out _ _ ⟨by simp[HJ.out.sz],⟨_,w'.heap.size,_,_,_,_,_,_,_,_,_,_,_,_,_,_,_,_,_,_,_,_,_,rfl,Um HV.out.k0,Um HV.out.k1,Um HV.out.k2,Um HV.out.k3,Um HV.out.k4,Um HV.out.k5,Um HV.out.k6,Um HV.out.k7,Um HV.out.k8,Um HV.out.k10,Um HV.out.k11,fun _=>rfl,Um HV.out.k14,Um HV.out.k15,Um HV.out.k16,Um HV.out.k17,Um HV.out.k18,Um HV.out.k19,Um HV.out.k20,hg,Aap HV.out.z bn.size,fun h j=>(bn.block _ (Aab.1 (HV.out.t8 (Uz h) (Dz j))).1).trans (HV.out.t8 (Uz h) (Dz j)),fun h j=>(HV.out.r9 (Uz h) (Dz j)).imp fun _ x=>⟨Au7 x.1 bn,x.2.1,Aap x.2.2 bn.size⟩,fun _ _=>Aax _ _,fun h _=>(Apk hoff (HV.out.q13 (Uz h))).elim,fun h=>Aph hun (HV.out.q9 (Uz h)),fun h=>Aph hun (HV.out.q13 (Uz h)),fun h=>Aph hun (HV.out.p13 (Uz h)),fun h=>Aph hun (HV.out.q15 (Uz h))⟩⟩
   ·have H9:=Hq hall 9
    have H12:=Hq hall 12
    cases HV.out.k12 (Hq hall 12).out
    clear hall hi
    obtain⟨base,ho,hz1,hz2⟩:=HV.out.r9 H9.out hoff
    have HO:=hI ho
    have HZ1:=hI hz1
    have HB3:=hI (HV.out.t12 H12.out hoff)
    clear hz1
    obtain⟨v5,w5,hrun,ho5,hg5⟩:=Ava w' base s207 lb.length (flatL lb) HO.out Bm LA LN HB3.out HLZ.out hz2
    have HG:=hI (HV.out.g.grown hg5 (fun k hk=>by have h1:=HO.out.lt k hk;have h2:=HZ1.out;have h3:=HWZ.out;exact⟨by omega,fun x hx e=>by have h4:=HLT.out x hx;omega⟩))
    have HRN:=hI hrun
    have HO5:=hI ho5
    have HZ5:=hI (Aap HV.out.z hg5.size)
    clear hrun ho5 hg5 ho hz2
    refine App rfl fun K' HK=>?_
    refine Avb HRN.out rfl _ _ rfl rfl rfl rfl ?_
    go_simp
    cases HV.out
    refine HK.out _ _ ⟨by simp[HJ.out.sz],?_⟩
    iterate 23 apply Exists.intro
    refine⟨rfl,?_⟩
    constructor
    case g=>exact HG.out
    case z=>exact HZ5.out
    case t8=>exact fun _ j=>(Apk (Dz j) H9.out).elim
    case r9=>exact fun _ j=>(Apk j (Ape hun)).elim
    case t12=>exact fun _ j=>(Apk j (Ape hun)).elim
    case r13=>exact fun _ _=>HLC.out _ _ _ HO5.out
    case q9=>exact fun h=>Aph hun (HV.out.q9 (Uz h))
    case q13=>exact fun _=>Aph hun H12.out
    case p13=>exact fun _=>Aph hun H9.out
    case q15=>exact fun h=>Aph hun (HV.out.q15 (Uz h))
    all_goals exact Um (by assumption)
   have hdk:=Aaa (HV.out.g.get 4 rfl) 0
   simp at hdk
   rotate_left
   ·have H13:=Hq hall 13
    cases HV.out.k0 (Hq hall 0).out
    cases HV.out.k14 (Hq hall 14).out
    clear hall hi
    have HNO:=hI hoff
    obtain⟨A5,c5,n5,e5,hc5,hr5,hn5⟩:=HV.out.r13 H13.out hoff
    subst e5
    refine App rfl fun K' HK=>?_
    go_simp
    refine (HAC2.out A5 c5 n5 _ hc5 hr5 hn5 HV.out.g.1).mono ?_
    rintro e wn ⟨rfl,bn⟩
    have hg:=HV.out.g.below bn
    exact HK.out _ _ ⟨by simp[HJ.out.sz],⟨_,_,_,_,_,_,_,_,_,_,_,_,_,_,_,_,_,_,_,_,_,_,_,rfl,Um HV.out.k0,Um HV.out.k1,Um HV.out.k2,Um HV.out.k3,Um HV.out.k4,Um HV.out.k5,Um HV.out.k6,Um HV.out.k7,Um HV.out.k8,Um HV.out.k10,Um HV.out.k11,Um HV.out.k12,Um HV.out.k14,fun _=>rfl,Um HV.out.k16,Um HV.out.k17,Um HV.out.k18,Um HV.out.k19,Um HV.out.k20,hg,Aap HV.out.z bn.size,fun _ j=>(Apk (Dz j) (HV.out.p13 H13.out)).elim,fun _ j=>(Apk (Dz j) H13.out).elim,fun _ j=>(Apk (Dz j) H13.out).elim,fun _ j=>(Apk j (Ape hun)).elim,fun h=>Aph hun (HV.out.q9 (Uz h)),fun h=>Aph hun (HV.out.q13 (Uz h)),fun h=>Aph hun (HV.out.p13 (Uz h)),fun _=>Aph hun H13.out⟩⟩
   cases HV.out.k15 (Hq hall 15).out
   rotate_left
   cases HV.out.k16 (Hq hall 16).out
   rotate_left
   cases HV.out.k16 (Hq hall 16).out
   rotate_left
   cases HV.out.k17 (Hq hall 17).out
   rotate_left
   cases HV.out.k18 (Hq hall 18).out
   rotate_left
   all_goals
    clear hall hi
    refine App rfl fun K' HK=>?_
    go_simp
    cases HV.out
    refine HK.out _ _ ⟨by simp[HJ.out.sz],?_⟩
    iterate 23 apply Exists.intro
    refine⟨rfl,?_⟩
    constructor
    all_goals first|exact Um (by assumption)|exact Un (by assumption)|exact Uf (by assumption)|exact fun _=>rfl|assumption|exact Uq hun (by assumption)|exact Uq2 hun (by assumption)|exact Uq3 hun (by assumption)
end Go.Proofs.YtcnmoobojdopgaaGreatDoor
