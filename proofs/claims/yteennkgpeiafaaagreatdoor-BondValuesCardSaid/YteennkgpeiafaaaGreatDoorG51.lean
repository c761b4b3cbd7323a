/-
  The walk of trancheref11.Present. (Printed by gen_rb7.py.)
-/
import Derived.Test.YteennkgpeiafaaaGreatDoorG49
set_option linter.unusedVariables false
set_option linter.unusedSimpArgs false
set_option maxHeartbeats 16000000
set_option maxRecDepth 100000
namespace Go.Proofs.YteennkgpeiafaaaGreatDoor
open Go.RowKit Tr Go.Shelf
attribute [local go_sem] Oper.semAt_some
structure RPAV(w:World)(i:Inst)(fn fd:ByteArray)(ad:Addr)(ob:Obj)(N cap k n10 n11:Nat)(d px py:Int)(o1 g lq:Rat)(n14:Nat)(L:Array Bool)(W:World)(s14 s15 s63 s64 s65 s66 s67 s68 s69 s70 s71 s72 s73 s74 s75 s76 s77 s78 s79 s80 s81 s82 s83 s84 s85 s86:Value):Prop where
 k0:L.getD 0 false=true→s64=.slice (some ad) N cap
 k1:L.getD 1 false=true→s65=.int .i64 (k:Int)
 k2:L.getD 2 false=true→s66=.pointer (some (ad.add (k*2)))
 k3:L.getD 3 false=true→s67=.pointer (some ⟨(ad.add (k*2)).block,(ad.add (k*2)).off+1,none⟩)
 k4:L.getD 4 false=true→s68=.int .i64 py
 k5:L.getD 5 false=true→s69=.int .i64 d
 k6:L.getD 6 false=true→s70=.int .i64 (py-d)
 k7:L.getD 7 false=true→s71=.string (I (py-d))
 k8:L.getD 8 false=true→s72=.slice (some ad) N cap
 k9:L.getD 9 false=true→s73=.int .i64 (k:Int)
 k10:L.getD 10 false=true→s74=.pointer (some (ad.add (k*2)))
 k11:L.getD 11 false=true→s75=.pointer (some ⟨(ad.add (k*2)).block,(ad.add (k*2)).off+1,none⟩)
 k12:L.getD 12 false=true→s76=.int .i64 py
 k13:L.getD 13 false=true→s77=.slice (some ad) N cap
 k14:L.getD 14 false=true→s78=.int .i64 (k:Int)
 k15:L.getD 15 false=true→s79=.pointer (some (ad.add (k*2)))
 k16:L.getD 16 false=true→s80=.pointer (some (ad.add (k*2)))
 k17:L.getD 17 false=true→s81=.int .i64 px
 k18:L.getD 18 false=true→s82=.int .i64 (py-px)
 k19:L.getD 19 false=true→s83=.string (I (py-px))
 k20:L.getD 20 false=true→s84=.tuple #[.agg #[.string (I lq.num),.string (dn lq)],.int .i64 0]
 k21:L.getD 21 false=true→s63=.tuple #[.agg #[.string (I lq.num),.string (dn lq)],.int .i64 0]
 k22:L.getD 22 false=true→s85=.agg #[.string (I lq.num),.string (dn lq)]
 k23:L.getD 23 false=true→s86=.int .i64 0
 k24:L.getD 24 false=true→s14=.pointer (some ⟨n14,0,none⟩)
 k26:L.getD 26 false=true→s15=.int .i64 0
 bx:BX w [(w.heap.size,.cells i.cells 27 (0,0)),(ad.block,ob),(w.heap.size+1,.cells #[.string fn,.string fd] 25 (0,0)),(w.heap.size+2,fz),(n10,fobj o1),(n11,fobj g)] W
 o25:L.getD 24 false=true→L.getD 25 false=false→W.heap[n14]?=some (fz)
 b25:L.getD 24 false=true→w.heap.size≤n14∧∀x,x∈[(w.heap.size,.cells i.cells 27 (0,0)),(ad.block,ob),(w.heap.size+1,.cells #[.string fn,.string fd] 25 (0,0)),(w.heap.size+2,fz),(n10,fobj o1),(n11,fobj g)]→x.1≠n14
 n25:L.getD 25 false=true→W.heap[n14]?=some (fobj lq)
 q25:L.getD 25 false=true→L.getD 24 false=true
structure RPAJ(w:World)(i:Inst)(fn fd:ByteArray)(ad:Addr)(ob:Obj)(N cap k n10 n11:Nat)(d px py:Int)(o1 g lq:Rat)(x0 x2 x3 x4 x5 x6 x7 x9 x10 x11 x13 x16 x17 x18 x19 x20 x21 x22 x23 x24 x25 x26 x27 x28 x29 x30 x31 x32 x33 x34 x35 x36 x37 x38 x39 x40 x41 x42 x43 x44 x45 x46 x47 x48 x49 x50 x51 x52 x53 x54 x55 x56 x57 x58 x59 x60 x61 x62 x87 x88 x89 x90 x91 x92 x93 x94 x95 x96 x97 x98 x99 x100 x101 x102 x103 x104 x105 x106 x107 x108 x109 x110 x111 x112 x113 x114 x115:Value)(L:Array Bool)(a:Act)(W:World):Prop where
 sz:L.size=27
 fr:∃n14:Nat,∃s14 s15 s63 s64 s65 s66 s67 s68 s69 s70 s71 s72 s73 s74 s75 s76 s77 s78 s79 s80 s81 s82 s83 s84 s85 s86:Value,a={tmps:=#[x0,.int .i64 d,x2,x3,x4,x5,x6,x7,.slice (some ad) N cap,x9,x10,x11,.int .i64 (k:Int),x13,s14,s15,x16,x17,x18,x19,x20,x21,x22,x23,x24,x25,x26,x27,x28,x29,x30,x31,x32,x33,x34,x35,x36,x37,x38,x39,x40,x41,x42,x43,x44,x45,x46,x47,x48,x49,x50,x51,x52,x53,x54,x55,x56,x57,x58,x59,x60,x61,x62,s63,s64,s65,s66,s67,s68,s69,s70,s71,s72,s73,s74,s75,s76,s77,s78,s79,s80,s81,s82,s83,s84,s85,s86,x87,x88,x89,x90,x91,x92,x93,x94,x95,x96,x97,x98,x99,x100,x101,x102,x103,x104,x105,x106,x107,x108,x109,x110,x111,x112,x113,x114,x115],defers:=[]}∧RPAV w i fn fd ad ob N cap k n10 n11 d px py o1 g lq n14 L W s14 s15 s63 s64 s65 s66 s67 s68 s69 s70 s71 s72 s73 s74 s75 s76 s77 s78 s79 s80 s81 s82 s83 s84 s85 s86
structure RPBV(w:World)(i:Inst)(fn fd:ByteArray)(ad:Addr)(ob:Obj)(n10 n11 n14:Nat)(o1 g lq ml b0:Rat)(n16:Nat)(L:Array Bool)(W:World)(s16 s87 s88 s89 s90 s91:Value):Prop where
 k0:L.getD 0 false=true→s87=.agg #[.string (I o1.num),.string (dn o1)]
 k1:L.getD 1 false=true→s88=.agg #[.string fn,.string fd]
 k2:L.getD 2 false=true→s89=.agg #[.string (I lq.num),.string (dn lq)]
 k3:L.getD 3 false=true→s90=.agg #[.string (I ml.num),.string (dn ml)]
 k4:L.getD 4 false=true→s91=.agg #[.string (I b0.num),.string (dn b0)]
 k5:L.getD 5 false=true→s16=.pointer (some ⟨n16,0,none⟩)
 bx:BX w [(n14,fobj lq),(w.heap.size,.cells i.cells 27 (0,0)),(ad.block,ob),(w.heap.size+1,.cells #[.string fn,.string fd] 25 (0,0)),(w.heap.size+2,fz),(n10,fobj o1),(n11,fobj g)] W
 o6:L.getD 5 false=true→L.getD 6 false=false→W.heap[n16]?=some (fz)
 b6:L.getD 5 false=true→w.heap.size≤n16∧∀x,x∈[(n14,fobj lq),(w.heap.size,.cells i.cells 27 (0,0)),(ad.block,ob),(w.heap.size+1,.cells #[.string fn,.string fd] 25 (0,0)),(w.heap.size+2,fz),(n10,fobj o1),(n11,fobj g)]→x.1≠n16
 n6:L.getD 6 false=true→W.heap[n16]?=some (fobj b0)
 q6:L.getD 6 false=true→L.getD 5 false=true
structure RPBJ(w:World)(i:Inst)(fn fd:ByteArray)(ad:Addr)(ob:Obj)(n10 n11 n14:Nat)(o1 g lq ml b0:Rat)(x0 x1 x2 x3 x4 x6 x7 x8 x9 x11 x12 x13 x15 x17 x18 x19 x20 x21 x22 x23 x24 x25 x26 x27 x28 x29 x30 x31 x32 x33 x34 x35 x36 x37 x38 x39 x40 x41 x42 x43 x44 x45 x46 x47 x48 x49 x50 x51 x52 x53 x54 x55 x56 x57 x58 x59 x60 x61 x62 x63 x64 x65 x66 x67 x68 x69 x70 x71 x72 x73 x74 x75 x76 x77 x78 x79 x80 x81 x82 x83 x84 x85 x86 x92 x93 x94 x95 x96 x97 x98 x99 x100 x101 x102 x103 x104 x105 x106 x107 x108 x109 x110 x111 x112 x113 x114 x115:Value)(L:Array Bool)(a:Act)(W:World):Prop where
 sz:L.size=7
 fr:∃n16:Nat,∃s16 s87 s88 s89 s90 s91:Value,a={tmps:=#[x0,x1,x2,x3,x4,.pointer (some ⟨w.heap.size+1,0,none⟩),x6,x7,x8,x9,.pointer (some ⟨n10,0,none⟩),x11,x12,x13,.pointer (some ⟨n14,0,none⟩),x15,s16,x17,x18,x19,x20,x21,x22,x23,x24,x25,x26,x27,x28,x29,x30,x31,x32,x33,x34,x35,x36,x37,x38,x39,x40,x41,x42,x43,x44,x45,x46,x47,x48,x49,x50,x51,x52,x53,x54,x55,x56,x57,x58,x59,x60,x61,x62,x63,x64,x65,x66,x67,x68,x69,x70,x71,x72,x73,x74,x75,x76,x77,x78,x79,x80,x81,x82,x83,x84,x85,x86,s87,s88,s89,s90,s91,x92,x93,x94,x95,x96,x97,x98,x99,x100,x101,x102,x103,x104,x105,x106,x107,x108,x109,x110,x111,x112,x113,x114,x115],defers:=[]}∧RPBV w i fn fd ad ob n10 n11 n14 o1 g lq ml b0 n16 L W s16 s87 s88 s89 s90 s91
structure RPCV(w:World)(i:Inst)(ad:Addr)(ob:Obj)(N cap j n11 n16 n17:Nat)(g sq bq pq xq:Rat)(n19:Nat)(L:Array Bool)(W:World)(s19 s20 s100 s101 s102 s103 s104 s105 s106 s107 s108:Value):Prop where
 k0:L.getD 0 false=true→s101=.agg #[.string i.id,.int .i64 i.kind,.string i.cur,.int .i64 i.places,.int .i64 i.issued,.int .i64 i.matures,.string i.fn,.string i.fd,.string i.cn,.string i.cd,.int .i64 i.months,.int .i64 i.count,.string i.other,.string i.sn,.string i.sd]
 k1:L.getD 1 false=true→s102=.slice (some ad) N cap
 k2:L.getD 2 false=true→s103=.int .i64 (j:Int)
 k3:L.getD 3 false=true→s104=.agg #[.string (I pq.num),.string (dn pq)]
 k4:L.getD 4 false=true→s105=.agg #[.string (I bq.num),.string (dn bq)]
 k5:L.getD 5 false=true→s106=.tuple #[.agg #[.string (I xq.num),.string (dn xq)],.int .i64 0]
 k6:L.getD 6 false=true→s100=.tuple #[.agg #[.string (I xq.num),.string (dn xq)],.int .i64 0]
 k7:L.getD 7 false=true→s107=.agg #[.string (I xq.num),.string (dn xq)]
 k8:L.getD 8 false=true→s108=.int .i64 0
 k9:L.getD 9 false=true→s19=.pointer (some ⟨n19,0,none⟩)
 k11:L.getD 11 false=true→s20=.int .i64 0
 bx:BX w [(n17,fobj sq),(n16,fobj bq),(w.heap.size,.cells i.cells 27 (0,0)),(ad.block,ob),(w.heap.size+2,fz),(n11,fobj g)] W
 o10:L.getD 9 false=true→L.getD 10 false=false→W.heap[n19]?=some (fz)
 b10:L.getD 9 false=true→w.heap.size≤n19∧∀x,x∈[(n17,fobj sq),(n16,fobj bq),(w.heap.size,.cells i.cells 27 (0,0)),(ad.block,ob),(w.heap.size+2,fz),(n11,fobj g)]→x.1≠n19
 n10:L.getD 10 false=true→W.heap[n19]?=some (fobj xq)
 q10:L.getD 10 false=true→L.getD 9 false=true
structure RPCJ(w:World)(i:Inst)(ad:Addr)(ob:Obj)(N cap j n11 n16 n17:Nat)(g sq bq pq xq:Rat)(x0 x1 x2 x4 x5 x6 x7 x9 x10 x11 x12 x13 x14 x15 x17 x21 x22 x23 x24 x25 x26 x27 x28 x29 x30 x31 x32 x33 x34 x35 x36 x37 x38 x39 x40 x41 x42 x43 x44 x45 x46 x47 x48 x49 x50 x51 x52 x53 x54 x55 x56 x57 x58 x59 x60 x61 x62 x63 x64 x65 x66 x67 x68 x69 x70 x71 x72 x73 x74 x75 x76 x77 x78 x79 x80 x81 x82 x83 x84 x85 x86 x87 x88 x89 x90 x91 x92 x93 x94 x95 x96 x97 x98 x99 x109 x110 x111 x112 x113 x114 x115:Value)(L:Array Bool)(a:Act)(W:World):Prop where
 sz:L.size=12
 fr:∃n19:Nat,∃s19 s20 s100 s101 s102 s103 s104 s105 s106 s107 s108:Value,a={tmps:=#[x0,x1,x2,.pointer (some ⟨w.heap.size,0,none⟩),x4,x5,x6,x7,.slice (some ad) N cap,x9,x10,x11,x12,x13,x14,x15,.pointer (some ⟨n16,0,none⟩),x17,.int .i64 (j:Int),s19,s20,x21,x22,x23,x24,x25,x26,x27,x28,x29,x30,x31,x32,x33,x34,x35,x36,x37,x38,x39,x40,x41,x42,x43,x44,x45,x46,x47,x48,x49,x50,x51,x52,x53,x54,x55,x56,x57,x58,x59,x60,x61,x62,x63,x64,x65,x66,x67,x68,x69,x70,x71,x72,x73,x74,x75,x76,x77,x78,x79,x80,x81,x82,x83,x84,x85,x86,x87,x88,x89,x90,x91,x92,x93,x94,x95,x96,x97,x98,x99,s100,s101,s102,s103,s104,s105,s106,s107,s108,x109,x110,x111,x112,x113,x114,x115],defers:=[]}∧RPCV w i ad ob N cap j n11 n16 n17 g sq bq pq xq n19 L W s19 s20 s100 s101 s102 s103 s104 s105 s106 s107 s108
structure RPDV(w:World)(i:Inst)(ad:Addr)(ob:Obj)(n11 n16 n17 n19:Nat)(g sq bq xq s2 b2:Rat)  (L:Array Bool) (W:World) (s109 s110 s111 s112 s113 s114:Value):Prop where
 k0:L.getD 0 false=true→s109=.agg #[.string (I sq.num),.string (dn sq)]
 k1:L.getD 1 false=true→s110=.agg #[.string (I xq.num),.string (dn xq)]
 k2:L.getD 2 false=true→s111=.agg #[.string (I s2.num),.string (dn s2)]
 k3:L.getD 3 false=true→s112=.agg #[.string (I bq.num),.string (dn bq)]
 k4:L.getD 4 false=true→s113=.agg #[.string (I g.num),.string (dn g)]
 k5:L.getD 5 false=true→s114=.agg #[.string (I b2.num),.string (dn b2)]
 bx:BX w [(n19,fobj xq),(w.heap.size,.cells i.cells 27 (0,0)),(ad.block,ob),(w.heap.size+2,fz),(n11,fobj g)] W
 o6:L.getD 6 false=false→W.heap[n17]?=some (fobj sq)
 n6:L.getD 6 false=true→W.heap[n17]?=some (fobj s2)
 o7:L.getD 7 false=false→W.heap[n16]?=some (fobj bq)
 n7:L.getD 7 false=true→W.heap[n16]?=some (fobj b2)
 d6_0:L.getD 6 false=true→L.getD 0 false=true
 d7_3:L.getD 7 false=true→L.getD 3 false=true
structure RPDJ(w:World)(i:Inst)(ad:Addr)(ob:Obj)(n11 n16 n17 n19:Nat)(g sq bq xq s2 b2:Rat)(x0 x1 x2 x3 x4 x5 x6 x7 x8 x9 x10 x12 x13 x14 x15 x18 x20 x21 x22 x23 x24 x25 x26 x27 x28 x29 x30 x31 x32 x33 x34 x35 x36 x37 x38 x39 x40 x41 x42 x43 x44 x45 x46 x47 x48 x49 x50 x51 x52 x53 x54 x55 x56 x57 x58 x59 x60 x61 x62 x63 x64 x65 x66 x67 x68 x69 x70 x71 x72 x73 x74 x75 x76 x77 x78 x79 x80 x81 x82 x83 x84 x85 x86 x87 x88 x89 x90 x91 x92 x93 x94 x95 x96 x97 x98 x99 x100 x101 x102 x103 x104 x105 x106 x107 x108 x115:Value)(L:Array Bool)(a:Act)(W:World):Prop where
 sz:L.size=8
 fr:∃s109 s110 s111 s112 s113 s114:Value,a={tmps:=#[x0,x1,x2,x3,x4,x5,x6,x7,x8,x9,x10,.pointer (some ⟨n11,0,none⟩),x12,x13,x14,x15,.pointer (some ⟨n16,0,none⟩),.pointer (some ⟨n17,0,none⟩),x18,.pointer (some ⟨n19,0,none⟩),x20,x21,x22,x23,x24,x25,x26,x27,x28,x29,x30,x31,x32,x33,x34,x35,x36,x37,x38,x39,x40,x41,x42,x43,x44,x45,x46,x47,x48,x49,x50,x51,x52,x53,x54,x55,x56,x57,x58,x59,x60,x61,x62,x63,x64,x65,x66,x67,x68,x69,x70,x71,x72,x73,x74,x75,x76,x77,x78,x79,x80,x81,x82,x83,x84,x85,x86,x87,x88,x89,x90,x91,x92,x93,x94,x95,x96,x97,x98,x99,x100,x101,x102,x103,x104,x105,x106,x107,x108,s109,s110,s111,s112,s113,s114,x115],defers:=[]}∧RPDV w i ad ob n11 n16 n17 n19 g sq bq xq s2 b2  L W s109 s110 s111 s112 s113 s114
theorem Auw{i:Inst}(hg:GI i)(d:Int)(fn fd:ByteArray)(s1:fn.size≤16)(s2:fd.size≤16)(w:World):
 Calls Tryz.prog 16 #[i.enc,.int .i64 d,.agg #[.string fn,.string fd]] w fun e w'=>e=.returned (.tuple #[fenc (prQ i d fn fd),.int .i64 (prC i d fn fd)])∧Below w.heap.size w w':=by
 have HP:=hI (fun W=>Auj hg fn fd s1 s2 W)
 have HD:=hI (fun W=>At5 d W)
 have HZ:=hI fenc_zero
 have HGI:=hI hg
 have HSS:=hI (And.intro s1 s2)
 obtain⟨W0,hW0',hB0,hz,k0,k1,k2⟩:=box3 w (.cells i.cells 27) (.cells #[.string fn,.string fd] 25) fz
 have hW0:=hW0'.symm
 have hg0:BX w [(w.heap.size,.cells i.cells 27 (0,0)),(w.heap.size+1,.cells #[.string fn,.string fd] 25 (0,0)),(w.heap.size+2,fz)] W0:=⟨hB0,fun x hx=>by
  rcases List.mem_cons.1 hx with rfl|hx
  ·exact k0
  ·rcases List.mem_cons.1 hx with rfl|hx
   ·exact k1
   ·rcases List.mem_cons.1 hx with rfl|hx
    ·exact k2
    ·cases hx⟩
 obtain⟨c0,c1,c2,c3,c4,c5,c6,c7,c8,c9,c10,c11,c12,c13,c14⟩:=Acs k0
 try simp[Inst.cells] at c0 c1 c2 c3 c4 c5 c6 c7 c8 c9 c10 c11 c12 c13 c14
 have q0:=Aaa k1 0
 have q1:=Aaa k1 1
 simp at q0 q1
 have hs0:w.heap.size+3≤W0.heap.size:=by omega
 have HS0:=hI hs0
 clear hB0 hz k0 k1 k2 hW0' hg hs0 s1 s2
 unfold Inst.enc Inst.cells at *
 go_enter Tryz.func16,Tryz.ntmps16
 go_wp2_with fail
 refine (HP.out _).mono ?_
 rintro e w1 hpv
 have hg1:=hg0.below hpv.2
 have k2:=hg1.get 2 rfl
 have m0:=Aaa k2 0
 have m1:=Aaa k2 1
 have f0:=Aaf k2 0
 have f1:=Aaf k2 1
 simp at m0 m1 f0 f1
 have HK2:=hI k2
 have HG1:=hI hg1
 clear hg0 hg1 k2 hW0 q0 q1 c0 c1 c2 c3 c4 c5 c6 c7 c8 c9 c10 c11 c12 c13 c14
 by_cases hn:ckC i fn fd=0
 case neg =>
  obtain⟨⟨A,k,rfl,_,_⟩,_⟩:=hpv
  have HCC:Hid (prC i d fn fd=ckC i fn fd∧prQ i d fn fd=0):=by
   have hc:prC i d fn fd=ckC i fn fd:=by
    unfold prC
    by_cases hq:CanQ fn fd
    ·rw[if_neg (fun x=>x hq),if_pos (by rw[←Auf (i:=i) hq];exact hn),Auf hq]
    ·rw[if_pos hq,Aug hq]
   exact⟨hc,by unfold prQ;rw[if_neg (by rw[hc];exact hn)]⟩
  obtain⟨n,hnn⟩:∃n,ckC i fn fd=n:=⟨_,rfl⟩
  rw[hnn] at HCC hn ⊢
  have t1:(n==0)=false:=Aaj.2 hn
  have t2:(n != 0)=true:=by rw[bne,t1];rfl
  clear hn hnn
  go_wp2_with fail
  refine bodyPost_ret (An1 rfl _ _ (w.heap.size+2) _ _ (0,0) _ rfl (Go.Proofs.YteennkgpeiafaaaGreatDoor.set2 HK2.out _ _) Tryz.underlying25 rfl (by kernel_rfl)) rfl ?_
  exact⟨by rw[HCC.out.1,HCC.out.2,HZ.out];rfl,set2_below (by omega) HG1.out.1 _ _⟩
 have hq:CanQ fn fd:=by
  by_cases hq:CanQ fn fd
  ·exact hq
  ·rw[Aug hq] at hn;cases hn
 have hn0:perC i=0:=by rw[←Auf (i:=i) hq];exact hn
 obtain⟨h1,h2,h3⟩:=perC_zero hn0
 have hb:=HGI.out.bd h1 h2
 rw[Aui hn,hn] at hpv
 obtain⟨ad,cap,rfl,hrp,hab⟩:=hpv.have (Apm _ _ _)
 obtain⟨ob,hob,hrb⟩:=hrp.box
 have HRB:Hid (∀W':World,W'.heap[ad.block]?=some ob→RdP W' ad (perL i)):=hrb
 obtain⟨N,hN⟩:∃N,(perL i).length=N:=⟨_,rfl⟩
 rw[hN]
 have hN4:N≤400:=by
  have h5:=Ajd i.issued i.matures i.months
  have h6:(pers i.issued i.matures i.months).length=N:=hN
  omega
 have hab2:w.heap.size+3≤ad.block:=by have:=HS0.out;omega
 have HOB:=hI hob
 have HN:=hI hN
 have HH:=hI hb
 have HCQ:=hI hq
 have HN0:=hI hn0
 have hN15:N≤15:=by
  have h5:=Ajd i.issued i.matures i.months
  have h6:(pers i.issued i.matures i.months).length=N:=hN
  rcases HGI.out.fm h1 h2 with h|h<;>omega
 have HN15:=hI hN15
 clear hpv h1 h2 h3 hb hrp hab hob hrb hN hn hq hn0 hN15
 go_wp2_with fail
 refine (HD.out _).mono ?_
 rintro e w2 ⟨rfl,rfl⟩
 by_cases hd:okDay d
 case neg =>
  have HCC:Hid (prC i d fn fd=13∧prQ i d fn fd=0):=by
   have hc:prC i d fn fd=13:=by unfold prC;rw[if_neg (fun x=>x HCQ.out),if_neg (fun x=>x HN0.out),if_pos hd]
   exact⟨hc,by unfold prQ;rw[if_neg (by rw[hc];decide)]⟩
  rw[Ath hd]
  clear hd
  go_wp2_with fail
  refine bodyPost_ret (An1 rfl _ _ (w.heap.size+2) _ _ (0,0) _ rfl (Go.Proofs.YteennkgpeiafaaaGreatDoor.set2 HK2.out _ _) Tryz.underlying25 rfl (by kernel_rfl)) rfl ?_
  exact⟨by rw[HCC.out.1,HCC.out.2,HZ.out];rfl,set2_below (by omega) HG1.out.1 _ _⟩
 rw[propB_iff.2 hd]
 have HDD:=hI hd
 have hcq:=HCQ.out
 unfold CanQ at hcq
 have BFF:BdQ (fv fn fd) 17:=fv_bd fn fd (k:=17) (by have:=HSS.out;omega) (by have:=HSS.out;omega)
 have C1:=fun W=>Ama one1 (by decide) W
 rw[vl_one1] at C1
 obtain⟨o1,ho1⟩:∃o1:Rat,((1:Int):Rat)=o1:=⟨_,rfl⟩
 rw[ho1] at C1
 have ho1':o1=1:=ho1.symm
 have hbo:BdQ o1 1:=by rw[ho1'];exact BdQ.int (z:=1) (by omega) (by omega)
 obtain⟨y,hy⟩:∃y,fv fn fd=y:=⟨_,rfl⟩
 have HY:=hI hy
 rw[hy] at BFF hcq
 have C2:=fun W=>Amc (k:=20) (hbo.mono (by omega)) (BFF.mono (by omega)) (by omega) W
 have bg:BdQ (o1+y) 19:=(BdQ.add hbo BFF).mono (by omega)
 obtain⟨g,hgg⟩:∃g,o1+y=g:=⟨_,rfl⟩
 have HGY:Hid (1+y=g):=by show _=_;rw[←ho1'];exact hgg
 rw[hgg] at C2 bg
 have HSG:=hI (fun W=>Aig (I g.num) (dn g) (Aap bg.num (by omega)) (Aap bg.dn (by omega)) (by unfold CanQ;rw[Agx];exact⟨rfl,rfl⟩) W)
 unfold fenc at C1 C2
 rw[←hcq.1,←hcq.2] at C2
 have HC1:=hI C1
 have HC2:=hI C2
 have HQE:=hI hcq
 have HBO:=hI (And.intro hbo (And.intro ho1' (And.intro BFF bg)))
 clear hd C1 C2 hbo ho1 ho1' bg hgg hcq hy BFF m0 m1 f0 f1
 have HG2:Hid (BX w [(w.heap.size,.cells i.cells 27 (0,0)),(ad.block,ob),(w.heap.size+1,.cells #[.string fn,.string fd] 25 (0,0)),(w.heap.size+2,fz)] w1):=⟨HG1.out.1,fun x hx=>by
  rcases List.mem_cons.1 hx with rfl|hx
  ·exact HG1.out.get 0 rfl
  ·rcases List.mem_cons.1 hx with rfl|hx
   ·exact HOB.out
   ·exact HG1.out.2 x (Aau _ hx)⟩
 clear HG1 HK2 HOB
 go_wp2_with fail
 refine (HC1.out _).mono ?_
 rintro e w2 ⟨rfl,x2⟩
 have hg3:=(HG2.out.below x2).push (fobj o1)
 obtain⟨n10,hn10⟩:∃n,w2.heap.size=n:=⟨_,rfl⟩
 rw[hn10] at hg3
 have HG3:=hI hg3
 obtain⟨q0,q1⟩:=An6 (HG3.out.get 3 rfl)
 have hne1:n10≠w.heap.size+1:=by rw[←hn10];have:=(HG2.out.below x2).lt 2 rfl;omega
 have hlt1:w.heap.size+1<n10:=by rw[←hn10];have:=(HG2.out.below x2).lt 2 rfl;omega
 obtain⟨W2,hW2⟩:∃W2,w2.alloc (.cells #[.string (I o1.num),.string (dn o1)] 25)=W2:=⟨_,rfl⟩
 have HG3':Hid (BX w ((n10,fobj o1)::[(w.heap.size,.cells i.cells 27 (0,0)),(ad.block,ob),(w.heap.size+1,.cells #[.string fn,.string fd] 25 (0,0)),(w.heap.size+2,fz)]) W2):=by rw[←hW2];exact HG3.out
 rw[show w2.alloc (fobj o1)=W2 from hW2] at q0 q1
 obtain⟨v0,v1⟩:=An6 (HG3'.out.get 0 rfl)
 clear hg3 x2 HG2 HC1 HG3
 go_upto_region 7 with fail
 try rw[hW2]
 try simp only[hn10]
 clear hW2 hn10
 go_wp2_with fail
 refine (HC2.out _).mono ?_
 rintro e w3 ⟨rfl,x3⟩
 have hg4:=(HG3'.out.below x3).push (fobj g)
 obtain⟨n11,hn11⟩:∃n,w3.heap.size=n:=⟨_,rfl⟩
 rw[hn11] at hg4
 obtain⟨W3,hW3⟩:∃W3,w3.alloc (.cells #[.string (I g.num),.string (dn g)] 25)=W3:=⟨_,rfl⟩
 have HG4:Hid (BX w ((n11,fobj g)::(n10,fobj o1)::[(w.heap.size,.cells i.cells 27 (0,0)),(ad.block,ob),(w.heap.size+1,.cells #[.string fn,.string fd] 25 (0,0)),(w.heap.size+2,fz)]) W3):=by rw[←hW3];exact hg4
 obtain⟨v0,v1⟩:=An6 (HG4.out.get 0 rfl)
 clear hg4 x3 HC2 HG3' q0 q1 hne1 hlt1
 go_upto_region 8 with fail
 try rw[hW3]
 try simp only[hn11]
 clear hW3 hn11
 go_wp2_with fail
 refine (HSG.out _).mono ?_
 rintro e w4 ⟨rfl,x4⟩
 have HG5:=hI (HG4.out.below x4)
 clear x4 HG4 HSG v0 v1
 rw[vl_I]
 have hcz:=cmpz g
 obtain⟨sg,hsg⟩:∃sg,cmpI g.num 0=sg:=⟨_,rfl⟩
 rw[hsg] at hcz ⊢
 have c4:=Aaa (HG5.out.get 2 rfl) 4
 have c5:=Aaa (HG5.out.get 2 rfl) 5
 simp[Inst.cells] at c4 c5
 have k2:=HG5.out.get 5 rfl
 have m0:=Aaa k2 0
 have m1:=Aaa k2 1
 have f0:=Aaf k2 0
 have f1:=Aaf k2 1
 simp at m0 m1 f0 f1
 have HK2:=hI k2
 clear k2 hsg
 by_cases hgp:0<g
 case neg =>
  have t1:decide (sg≤0)=true:=Aay (Int.not_lt.1 (fun h=>hgp (hcz.2.1.1 h)))
  have HCC:Hid (prC i d fn fd=2∧prQ i d fn fd=0):=by
   have hc:prC i d fn fd=2:=by unfold prC;rw[if_neg (fun x=>x HCQ.out),if_neg (fun x=>x HN0.out),if_neg (fun x=>x HDD.out),if_pos (by rw[HY.out,HGY.out];exact hgp)]
   exact⟨hc,by unfold prQ;rw[if_neg (by rw[hc];decide)]⟩
  clear hgp hcz
  go_wp2_with fail
  refine bodyPost_ret (An1 rfl _ _ (w.heap.size+2) _ _ (0,0) _ rfl (Go.Proofs.YteennkgpeiafaaaGreatDoor.set2 HK2.out _ _) Tryz.underlying25 rfl (by kernel_rfl)) rfl ?_
  exact⟨by rw[HCC.out.1,HCC.out.2,HZ.out];rfl,set2_below (by omega) HG5.out.1 _ _⟩
 have t1:decide (sg≤0)=false:=Aaz (by have:=hcz.2.1.2 hgp;omega)
 have HGP:=hI hgp
 clear hcz hgp
 by_cases hl:i.issued≤d∧d≤i.matures
 case neg =>
  have HCC:Hid (prC i d fn fd=24∧prQ i d fn fd=0):=by
   have hc:prC i d fn fd=24:=by unfold prC;rw[if_neg (fun x=>x HCQ.out),if_neg (fun x=>x HN0.out),if_neg (fun x=>x HDD.out),if_neg (fun x=>x (by rw[HY.out,HGY.out];exact HGP.out)),if_pos hl]
   exact⟨hc,by unfold prQ;rw[if_neg (by rw[hc];decide)]⟩
  have hx:decide (d<i.issued)=true∨(decide (d<i.issued)=false∧decide (d > i.matures)=true∧decide (i.matures<d)=true):=by
   rcases Int.lt_or_le d i.issued with h|h
   ·exact .inl (Aay h)
   ·exact .inr ⟨Aaz (by omega),Aay (by omega),Aay (by omega)⟩
  clear hl
  rcases hx with t2|⟨t2,t3,t4⟩
  all_goals
   go_wp2_with fail
   refine bodyPost_ret (An1 rfl _ _ (w.heap.size+2) _ _ (0,0) _ rfl (Go.Proofs.YteennkgpeiafaaaGreatDoor.set2 HK2.out _ _) Tryz.underlying25 rfl (by kernel_rfl)) rfl ?_
   exact⟨by rw[HCC.out.1,HCC.out.2,HZ.out];rfl,set2_below (by omega) HG5.out.1 _ _⟩
 have t2:decide (d<i.issued)=false:=Aaz (by omega)
 have t3:decide (d > i.matures)=false:=Aaz (by omega)
 have t4:decide (i.matures<d)=false:=Aaz (by omega)
 have HLL:=hI hl
 have hc0:prC i d fn fd=0:=by unfold prC;rw[if_neg (fun x=>x HCQ.out),if_neg (fun x=>x HN0.out),if_neg (fun x=>x HDD.out),if_neg (fun x=>x (by rw[HY.out,HGY.out];exact HGP.out)),if_neg (fun x=>x hl)]
 have hq0:prQ i d fn fd=if d=i.matures then 0 else presQ i d y:=by unfold prQ;rw[if_pos hc0,HY.out]
 have HQ0:=hI (And.intro hc0 hq0)
 have HIX:=hI (fun W (hW:W.heap[ad.block]?=some ob)=>At8 ad (perL i) N cap d HN.out (by omega) W (HRB.out W hW))
 clear hc0 hq0 hl
 go_wp2_with fail
 refine (HIX.out _ (HG5.out.get 3 rfl)).mono ?_
 rintro e w5 ⟨hr,rfl⟩
 clear t1 t2 t3 t4 c4 c5 HIX
 rcases hr with⟨k,hkN,hat,rfl⟩|⟨hat,rfl⟩
 case inr =>
  have hdm:d=i.matures:=by
   rcases Int.lt_or_le d i.matures with h|h
   ·obtain⟨k',p',e1,_⟩:=Aqu HLL.out.1 h
    rw[hat] at e1
    omega
   ·have:=HLL.out.2;omega
  have HCC:Hid (prC i d fn fd=0∧prQ i d fn fd=0):=⟨HQ0.out.1,by rw[HQ0.out.2,if_pos hdm]⟩
  clear hdm hat
  go_wp2_with fail
  refine bodyPost_ret (An1 rfl _ _ (w.heap.size+2) _ _ (0,0) _ rfl (Go.Proofs.YteennkgpeiafaaaGreatDoor.set2 HK2.out _ _) Tryz.underlying25 rfl (by kernel_rfl)) rfl ?_
  exact⟨by rw[HCC.out.1,HCC.out.2,HZ.out];rfl,set2_below (by omega) HG5.out.1 _ _⟩
 obtain⟨⟨px,py⟩,hp⟩:∃p,(perL i)[k]?=some p:=⟨_,Aae (by rw[HN.out];exact hkN)⟩
 have HPK:=hI hp
 have hpx:=HH.out.per (Aar hp)
 have hplt:=Aq1 HH.out hp
 simp only at hpx hplt
 have hdp:px≤d∧d<py:=by
  rcases Apq (perL i) d with⟨k',p',e1,e2,e3,e4⟩|e1
  ·rw[hat] at e1
   obtain rfl:k=k':=by omega
   rw[hp] at e2
   cases e2
   exact⟨e3,e4⟩
  ·rw[hat] at e1;omega
 have hin:=per_in HH.out hp
 simp only at hin
 have hpv:=pres_pv HH.out hp hdp.1 hdp.2 y
 have hlo:=left_ok HH.out hp hdp.1 hdp.2
 simp only at hpv hlo
 obtain⟨⟨p0,p1⟩,p2,p3⟩:=hpx
 obtain⟨d0,d1⟩:=hdp
 have hO1:=fun W=>Ad1 (py-d) (by omega) W
 have hO2:=fun W=>Ad1 (py-px) (by omega) W
 have hNW:=fun W=>Amf (x:=py-d) (y:=py-px) (a:=9) (by omega) (by omega) (by omega) (by omega) W
 have blq:BdQ (Rat.divInt (py-d) (py-px)) 9:=BdQ.divInt (by omega) (by omega) (by omega)
 obtain⟨lq,hlq⟩:∃lq,Rat.divInt (py-d) (py-px)=lq:=⟨_,rfl⟩
 rw[hlq] at hNW blq hpv hlo
 have bff:=HBO.out.2.2.1
 have hml:=fun W=>Amb (k:=40) (bff.mono (by omega)) (blq.mono (by omega)) (by omega) W
 have bml:BdQ (y*lq) 26:=BdQ.mul bff blq
 obtain⟨ml,hmle⟩:∃ml,y*lq=ml:=⟨_,rfl⟩
 rw[hmle] at hml bml hpv
 have had:=fun W=>Amc (k:=40) (HBO.out.1.mono (by omega)) (bml.mono (by omega)) (by omega) W
 have bb0:BdQ (o1+ml) 28:=(BdQ.add HBO.out.1 bml).mono (by omega)
 have hb0p:0<o1+ml:=by
  rw[HBO.out.2.1,←hmle]
  exact by_pos (by rw[HGY.out];exact HGP.out) hlo.1 hlo.2
 have hgne:g≠0:=fun e=>by have:=HGP.out;rw[e] at this;exact Rat.lt_irrefl this
 rw[HGY.out,←HBO.out.2.1] at hpv
 obtain⟨b0,hb0e⟩:∃b0,o1+ml=b0:=⟨_,rfl⟩
 rw[hb0e] at had bb0 hb0p hpv
 obtain⟨tot,htot⟩:∃tot,presQ i d y=tot:=⟨_,rfl⟩
 have HTOT:Hid (fsum g b0 ((amtL i).drop k)=tot):=by
  show _=_
  rw[←htot,hpv]
  exact Ar1 hgne (fun e=>by rw[e] at hb0p;exact Rat.lt_irrefl hb0p) _
 have HCC:Hid (prC i d fn fd=0∧prQ i d fn fd=tot):=⟨HQ0.out.1,by rw[HQ0.out.2,if_neg (by omega)];exact htot⟩
 have HB0P:=hI (And.intro hb0p bb0)
 have HBG:=hI (And.intro HGP.out HBO.out.2.2.2)
 have hqe:=HQE.out
 unfold fenc at hNW hml had
 rw[←hqe.1,←hqe.2] at hml
 have HML0:=hI hml
 have HAD0:=hI had
 have HO1:Hid (∀W,BX w [(w.heap.size,.cells i.cells 27 (0,0)),(ad.block,ob),(w.heap.size+1,.cells #[.string fn,.string fd] 25 (0,0)),(w.heap.size+2,fz),(n10,fobj o1),(n11,fobj g)] W→Calls Tryz.prog 73 #[.int .i64 (py-d)] W fun e w'=>e=.returned (.string (I (py-d)))∧Below W.heap.size W w'):=fun W _=>(hO1 W).mono fun e w' ⟨h1,h2⟩=>⟨h1,by rw[←h2];exact Below.refl _ _⟩
 have HO2:Hid (∀W,BX w [(w.heap.size,.cells i.cells 27 (0,0)),(ad.block,ob),(w.heap.size+1,.cells #[.string fn,.string fd] 25 (0,0)),(w.heap.size+2,fz),(n10,fobj o1),(n11,fobj g)] W→Calls Tryz.prog 73 #[.int .i64 (py-px)] W fun e w'=>e=.returned (.string (I (py-px)))∧Below W.heap.size W w'):=fun W _=>(hO2 W).mono fun e w' ⟨h1,h2⟩=>⟨h1,by rw[←h2];exact Below.refl _ _⟩
 have HNW:Hid (∀W,BX w [(w.heap.size,.cells i.cells 27 (0,0)),(ad.block,ob),(w.heap.size+1,.cells #[.string fn,.string fd] 25 (0,0)),(w.heap.size+2,fz),(n10,fobj o1),(n11,fobj g)] W→Calls Tryz.prog 72 #[.string (I (py-d)),.string (I (py-px))] W fun e w'=>e=.returned (.tuple #[.agg #[.string (I lq.num),.string (dn lq)],.int .i64 0])∧Below W.heap.size W w'):=fun W _=>hNW W
 have HKI:Hid ((k:Int)<(N:Int)):=by show (k:Int)<(N:Int);omega
 have hg:BX w [(w.heap.size,.cells i.cells 27 (0,0)),(ad.block,ob),(w.heap.size+1,.cells #[.string fn,.string fd] 25 (0,0)),(w.heap.size+2,fz),(n10,fobj o1),(n11,fobj g)] w4.drew:=⟨HG5.out.1.drew,fun z hz=>by
  rcases List.mem_cons.1 hz with rfl|hz
  ·exact HG5.out.get 2 rfl
  ·rcases List.mem_cons.1 hz with rfl|hz
   ·exact HG5.out.get 3 rfl
   ·rcases List.mem_cons.1 hz with rfl|hz
    ·exact HG5.out.get 4 rfl
    ·rcases List.mem_cons.1 hz with rfl|hz
     ·exact HG5.out.get 5 rfl
     ·rcases List.mem_cons.1 hz with rfl|hz
      ·exact HG5.out.get 1 rfl
      ·rcases List.mem_cons.1 hz with rfl|hz
       ·exact HG5.out.get 0 rfl
       ·cases hz⟩
 clear hat hp hplt hin hpv hlo hO1 hO2 hNW blq hlq bff hml bml hmle had bb0 hb0p hgne hb0e htot hqe HG5 m0 m1 f0 f1 HK2
 go_wp2_with fail
 have mixed:Tryz.prog.follows .mixedOrders=true:=by kernel_rfl
 refine wp_region_any mixed (Am3 (RPAJ w i fn fd ad ob N cap k n10 n11 d px py o1 g lq _ _ _ _ _ _ _ _ _ _ _ _ _ _ _ _ _ _ _ _ _ _ _ _ _ _ _ _ _ _ _ _ _ _ _ _ _ _ _ _ _ _ _ _ _ _ _ _ _ _ _ _ _ _ _ _ _ _ _ _ _ _ _ _ _ _ _ _ _ _ _ _ _ _ _ _ _ _ _ _ _ _ _ _ _ _ _) ?stRPA ?dnRPA _ _ _ _ ⟨by simp,⟨0,_,_,_,_,_,_,_,_,_,_,_,_,_,_,_,_,_,_,_,_,_,_,_,_,_,_,rfl,fun h=>by simp at h,fun h=>by simp at h,fun h=>by simp at h,fun h=>by simp at h,fun h=>by simp at h,fun h=>by simp at h,fun h=>by simp at h,fun h=>by simp at h,fun h=>by simp at h,fun h=>by simp at h,fun h=>by simp at h,fun h=>by simp at h,fun h=>by simp at h,fun h=>by simp at h,fun h=>by simp at h,fun h=>by simp at h,fun h=>by simp at h,fun h=>by simp at h,fun h=>by simp at h,fun h=>by simp at h,fun h=>by simp at h,fun h=>by simp at h,fun h=>by simp at h,fun h=>by simp at h,fun h=>by simp at h,fun h=>by simp at h,hg,fun h=>by simp at h,fun h=>by simp at h,fun h=>by simp at h,fun h=>by simp at h⟩⟩ (by decide))
 case dnRPA =>
  intro L a w' hj hr
  have all:=Am2 hr hj.sz (by kernel_rfl)
  obtain⟨n14,s14,s15,s63,s64,s65,s66,s67,s68,s69,s70,s71,s72,s73,s74,s75,s76,s77,s78,s79,s80,s81,s82,s83,s84,s85,s86,rfl,hv⟩:=hj.fr
  have HF:=hI (And.intro (hv.n25 (all 25 (by omega))) (And.intro hv.bx (hv.b25 (all 24 (by omega)))))
  have e14:=hv.k24 (all 24 (by omega))
  clear all hv hj hr
  subst e14
  have HNN14:Hid (w.heap.size≤n14):=HF.out.2.2.1
  have HML:Hid (∀W,BX w [(n14,fobj lq),(w.heap.size,.cells i.cells 27 (0,0)),(ad.block,ob),(w.heap.size+1,.cells #[.string fn,.string fd] 25 (0,0)),(w.heap.size+2,fz),(n10,fobj o1),(n11,fobj g)] W→Calls Tryz.prog 74 #[.agg #[.string fn,.string fd],.agg #[.string (I lq.num),.string (dn lq)]] W fun e w'=>e=.returned (.agg #[.string (I ml.num),.string (dn ml)])∧Below W.heap.size W w'):=fun W _=>HML0.out W
  have HAD4:Hid (∀W,BX w [(n14,fobj lq),(w.heap.size,.cells i.cells 27 (0,0)),(ad.block,ob),(w.heap.size+1,.cells #[.string fn,.string fd] 25 (0,0)),(w.heap.size+2,fz),(n10,fobj o1),(n11,fobj g)] W→Calls Tryz.prog 69 #[.agg #[.string (I o1.num),.string (dn o1)],.agg #[.string (I ml.num),.string (dn ml)]] W fun e w'=>e=.returned (.agg #[.string (I b0.num),.string (dn b0)])∧Below W.heap.size W w'):=fun W _=>HAD0.out W
  have hg:BX w [(n14,fobj lq),(w.heap.size,.cells i.cells 27 (0,0)),(ad.block,ob),(w.heap.size+1,.cells #[.string fn,.string fd] 25 (0,0)),(w.heap.size+2,fz),(n10,fobj o1),(n11,fobj g)] w'.drew:=⟨HF.out.2.1.1.drew,fun z hz=>by
   rcases List.mem_cons.1 hz with rfl|hz
   ·exact HF.out.1
   ·exact HF.out.2.1.2 z hz⟩
  clear HF HO1 HO2 HNW
  go_wp2_with fail
  have mixed:Tryz.prog.follows .mixedOrders=true:=by kernel_rfl
  refine wp_region_any mixed (Am3 (RPBJ w i fn fd ad ob n10 n11 n14 o1 g lq ml b0 _ _ _ _ _ _ _ _ _ _ _ _ _ _ _ _ _ _ _ _ _ _ _ _ _ _ _ _ _ _ _ _ _ _ _ _ _ _ _ _ _ _ _ _ _ _ _ _ _ _ _ _ _ _ _ _ _ _ _ _ _ _ _ _ _ _ _ _ _ _ _ _ _ _ _ _ _ _ _ _ _ _ _ _ _ _ _ _ _ _ _ _ _ _ _ _ _ _ _ _ _ _ _ _ _ _ _) ?stRPB ?dnRPB _ _ _ _ ⟨by simp,⟨0,_,_,_,_,_,_,rfl,fun h=>by simp at h,fun h=>by simp at h,fun h=>by simp at h,fun h=>by simp at h,fun h=>by simp at h,fun h=>by simp at h,hg,fun h=>by simp at h,fun h=>by simp at h,fun h=>by simp at h,fun h=>by simp at h⟩⟩ (by decide))
  case dnRPB =>
   intro L a w' hj hr
   have all:=Am2 hr hj.sz (by kernel_rfl)
   obtain⟨n16,s16,s87,s88,s89,s90,s91,rfl,hv⟩:=hj.fr
   have HF:=hI (And.intro (hv.n6 (all 6 (by omega))) (And.intro hv.bx (hv.b6 (all 5 (by omega)))))
   have e16:=hv.k5 (all 5 (by omega))
   clear all hv hj hr
   subst e16
   have HNA0:Hid (w.heap.size≠n16∧ad.block≠n16∧w.heap.size+2≠n16∧n11≠n16∧w.heap.size≤n16):=⟨HF.out.2.2.2 (w.heap.size,Obj.cells i.cells 27 (0,0)) (by simp),HF.out.2.2.2 (ad.block,ob) (by simp),HF.out.2.2.2 (w.heap.size+2,fz) (by simp),HF.out.2.2.2 (n11,fobj g) (by simp),HF.out.2.2.1⟩
   have HG6:Hid (BX w [(n16,fobj b0),(w.heap.size,.cells i.cells 27 (0,0)),(ad.block,ob),(w.heap.size+2,fz),(n11,fobj g)] w'):=⟨HF.out.2.1.1,fun x hx=>by
    rcases List.mem_cons.1 hx with rfl|hx
    ·exact HF.out.1
    ·rcases List.mem_cons.1 hx with rfl|hx
     ·exact HF.out.2.1.get 1 rfl
     ·rcases List.mem_cons.1 hx with rfl|hx
      ·exact HF.out.2.1.get 2 rfl
      ·rcases List.mem_cons.1 hx with rfl|hx
       ·exact HF.out.2.1.get 4 rfl
       ·rcases List.mem_cons.1 hx with rfl|hx
        ·exact HF.out.2.1.get 6 rfl
        ·cases hx⟩
   clear HF HML HAD4
   have HG7:Hid (BX w [(w'.heap.size,fobj 0),(n16,fobj b0),(w.heap.size,.cells i.cells 27 (0,0)),(ad.block,ob),(w.heap.size+2,fz),(n11,fobj g)] (w'.alloc (.cells #[.string ⟨#[]⟩,.string ⟨#[]⟩] 25))):=by
    rw[fobj_zero]
    exact HG6.out.push fz
   have HNA1:Hid (w'.heap.size≠n16∧w.heap.size≠w'.heap.size∧ad.block≠w'.heap.size∧w.heap.size+2≠w'.heap.size∧n11≠w'.heap.size∧w.heap.size≤w'.heap.size):=by
    have b0:=HG6.out.lt 0 rfl
    have b1:=HG6.out.lt 1 rfl
    have b2:=HG6.out.lt 2 rfl
    have b3:=HG6.out.lt 3 rfl
    have b4:=HG6.out.lt 4 rfl
    exact⟨by omega,by omega,by omega,by omega,by omega,HG6.out.1.size⟩
   clear HG6
   go_wp2_with fail
   generalize w'.alloc (.cells #[.string ⟨#[]⟩,.string ⟨#[]⟩] 25)=W7 at HG7 ⊢
   generalize w'.heap.size=n17 at HG7 HNA1 ⊢
   have HNA:Hid (n17≠n16∧w.heap.size≠n16∧w.heap.size≠n17∧ad.block≠n16∧ad.block≠n17∧w.heap.size+2≠n16∧w.heap.size+2≠n17∧n11≠n16∧n11≠n17∧w.heap.size≤n16∧w.heap.size≤n17):=by
    obtain⟨a1,a2,a3,a4,a5⟩:=HNA0.out
    obtain⟨b1,b2,b3,b4,b5,b6⟩:=HNA1.out
    exact⟨b1,a1,b2,a2,b3,a3,b4,a4,b5,a5,b6⟩
   clear HNA0 HNA1
   go_loopw [18] (fun v18 wr=>∃j:Nat,v18=.int .i64 (j:Int)∧k≤j∧j≤N∧∃sq bq:Rat,sq+fsum g bq ((amtL i).drop j)=tot∧0<bq∧BdQ bq (28+19*(j-k))∧BdQ sq (1+395*(j-k))∧BX w [(n17,fobj sq),(n16,fobj bq),(w.heap.size,.cells i.cells 27 (0,0)),(ad.block,ob),(w.heap.size+2,fz),(n11,fobj g)] wr) (fun v18 _=>N-(intOf v18).toNat)
   case atStart=>exact⟨k,rfl,Aad _,Nat.le_of_lt hkN,0,b0,by rw[Rat.zero_add];exact HTOT.out,HB0P.out.1,HB0P.out.2.mono (by omega),BdQ.zero (by omega),HG7.out⟩
   case round =>
    obtain⟨j,rfl,hkj,hjN,sq,bq,hsum,hbp,hbb,hsb,hgx⟩:=hrel
    have HGX:=hI hgx
    clear HG7 hgx
    rcases Aam j N with hjlt|hjge
    ·have hcx:decide ((j:Int)<(N:Int))=true:=by simp;omega
     have hfl:=fun W (hW:RdP W ad (perL i))=>At7 i HH.out ad N cap j HN.out (by omega) hjlt W hW
     have hdr:(amtL i).drop j=(payAt i (perL i) j).2.2::(amtL i).drop (j+1):=by
      have e:=Aqs i (k:=j) (by rw[HN.out];exact hjlt)
      obtain⟨hj,hj2⟩:=Aak.1 e
      rw[←hj2]
      exact Aax hj
     have bpq:BdQ (payAt i (perL i) j).2.2 80:=Aqt HH.out (Aar (Aqs i (k:=j) (by rw[HN.out];exact hjlt)))
     obtain⟨pq,hpq⟩:∃pq,(payAt i (perL i) j).2.2=pq:=⟨_,rfl⟩
     rw[hpq] at hfl hdr bpq
     have hjk:j-k≤15:=by have:=HN15.out;omega
     have hqu:=fun W=>rfQuoQ (k:=400) (bpq.mono (by omega)) (hbb.mono (by omega)) hbp (by omega) W
     have bxq:BdQ (pq / bq) (80+(28+19*(j-k))):=BdQ.quo bpq hbb (fun e=>by rw[e] at hbp;exact Rat.lt_irrefl hbp)
     obtain⟨xq,hxq⟩:∃xq,pq / bq=xq:=⟨_,rfl⟩
     rw[hxq] at hqu bxq
     have hax:=fun W=>Amc (k:=6400) (hsb.mono (by omega)) (bxq.mono (by omega)) (by omega) W
     have bs2:BdQ (sq+xq) (1+395*(j+1-k)):=(BdQ.add hsb bxq).mono (by omega)
     obtain⟨s2,hs2⟩:∃s2,sq+xq=s2:=⟨_,rfl⟩
     rw[hs2] at hax bs2
     have hmx:=fun W=>Amb (k:=400) (hbb.mono (by omega)) (HBG.out.2.mono (by omega)) (by omega) W
     have bb2:BdQ (bq*g) (28+19*(j+1-k)):=(BdQ.mul hbb HBG.out.2).mono (by omega)
     have pb2:0<bq*g:=Rat.mul_pos hbp HBG.out.1
     have hsum2:s2+fsum g (bq*g) ((amtL i).drop (j+1))=tot:=by
      rw[hdr] at hsum
      rw[←hsum,←hs2,←hxq]
      show _=sq+(pq / bq+fsum g (bq*g) _)
      rw[Rat.add_assoc]
     obtain⟨b2,hb2⟩:∃b2,bq*g=b2:=⟨_,rfl⟩
     rw[hb2] at hmx bb2 pb2 hsum2
     unfold fenc at hfl hqu hax hmx
     have HST:=hI (And.intro hsum2 (And.intro pb2 (And.intro bb2 bs2)))
     have HAX0:=hI hax
     have HMX0:=hI hmx
     have HFL:Hid (∀W,BX w [(n17,fobj sq),(n16,fobj bq),(w.heap.size,.cells i.cells 27 (0,0)),(ad.block,ob),(w.heap.size+2,fz),(n11,fobj g)] W→Calls Tryz.prog 76 #[.agg #[.string i.id,.int .i64 i.kind,.string i.cur,.int .i64 i.places,.int .i64 i.issued,.int .i64 i.matures,.string i.fn,.string i.fd,.string i.cn,.string i.cd,.int .i64 i.months,.int .i64 i.count,.string i.other,.string i.sn,.string i.sd],.slice (some ad) N cap,.int .i64 (j:Int)] W fun e w'=>e=.returned (.agg #[.string (I pq.num),.string (dn pq)])∧Below W.heap.size W w'):=fun W hW=>hfl W (HRB.out W (hW.get 3 rfl))
     have HQU:Hid (∀W,BX w [(n17,fobj sq),(n16,fobj bq),(w.heap.size,.cells i.cells 27 (0,0)),(ad.block,ob),(w.heap.size+2,fz),(n11,fobj g)] W→Calls Tryz.prog 75 #[.agg #[.string (I pq.num),.string (dn pq)],.agg #[.string (I bq.num),.string (dn bq)]] W fun e w'=>e=.returned (.tuple #[.agg #[.string (I xq.num),.string (dn xq)],.int .i64 0])∧Below W.heap.size W w'):=fun W _=>hqu W
     have hg:BX w [(n17,fobj sq),(n16,fobj bq),(w.heap.size,.cells i.cells 27 (0,0)),(ad.block,ob),(w.heap.size+2,fz),(n11,fobj g)] wr.drew:=⟨HGX.out.1.drew,HGX.out.2⟩
     clear hsum hbp hbb hsb hfl hdr bpq hpq hqu bxq hxq hax bs2 hs2 hmx bb2 pb2 hsum2 hb2 HGX
     go_wp2_with fail
     clear hcx
     have mixed:Tryz.prog.follows .mixedOrders=true:=by kernel_rfl
     refine wp_region_any mixed (Am3 (RPCJ w i ad ob N cap j n11 n16 n17 g sq bq pq xq _ _ _ _ _ _ _ _ _ _ _ _ _ _ _ _ _ _ _ _ _ _ _ _ _ _ _ _ _ _ _ _ _ _ _ _ _ _ _ _ _ _ _ _ _ _ _ _ _ _ _ _ _ _ _ _ _ _ _ _ _ _ _ _ _ _ _ _ _ _ _ _ _ _ _ _ _ _ _ _ _ _ _ _ _ _ _ _ _ _ _ _ _ _ _ _ _ _ _ _ _) ?stRPC ?dnRPC _ _ _ _ ⟨by simp,⟨0,_,_,_,_,_,_,_,_,_,_,_,rfl,fun h=>by simp at h,fun h=>by simp at h,fun h=>by simp at h,fun h=>by simp at h,fun h=>by simp at h,fun h=>by simp at h,fun h=>by simp at h,fun h=>by simp at h,fun h=>by simp at h,fun h=>by simp at h,fun h=>by simp at h,hg,fun h=>by simp at h,fun h=>by simp at h,fun h=>by simp at h,fun h=>by simp at h⟩⟩ (by decide))
     case dnRPC =>
      intro L a w' hj hr
      have all:=Am2 hr hj.sz (by kernel_rfl)
      obtain⟨n19,s19,s20,s100,s101,s102,s103,s104,s105,s106,s107,s108,rfl,hv⟩:=hj.fr
      have HF:=hI (And.intro (hv.n10 (all 10 (by omega))) (And.intro hv.bx (hv.b10 (all 9 (by omega)))))
      have e19:=hv.k9 (all 9 (by omega))
      clear all hv hj hr
      subst e19
      have HNE:Hid (n17≠n16∧n19≠n16∧n19≠n17∧w.heap.size≠n16∧w.heap.size≠n17∧ad.block≠n16∧ad.block≠n17∧w.heap.size+2≠n16∧w.heap.size+2≠n17∧n11≠n16∧n11≠n17∧w.heap.size≤n16∧w.heap.size≤n17):=by
       obtain⟨a1,a2,a3,a4,a5,a6,a7,a8,a9,a10,a11⟩:=HNA.out
       have b1:n17≠n19:=HF.out.2.2.2 (n17,fobj sq) (by simp)
       have b2:n16≠n19:=HF.out.2.2.2 (n16,fobj bq) (by simp)
       exact⟨a1,b2.symm,b1.symm,a2,a3,a4,a5,a6,a7,a8,a9,a10,a11⟩
      have hg:BX w [(n19,fobj xq),(w.heap.size,.cells i.cells 27 (0,0)),(ad.block,ob),(w.heap.size+2,fz),(n11,fobj g)] w'.drew:=⟨HF.out.2.1.1.drew,fun z hz=>by
       rcases List.mem_cons.1 hz with rfl|hz
       ·exact HF.out.1
       ·rcases List.mem_cons.1 hz with rfl|hz
        ·exact HF.out.2.1.get 2 rfl
        ·rcases List.mem_cons.1 hz with rfl|hz
         ·exact HF.out.2.1.get 3 rfl
         ·rcases List.mem_cons.1 hz with rfl|hz
          ·exact HF.out.2.1.get 4 rfl
          ·rcases List.mem_cons.1 hz with rfl|hz
           ·exact HF.out.2.1.get 5 rfl
           ·cases hz⟩
      have hko6:w'.drew.heap[n17]?=some (fobj sq):=HF.out.2.1.get 0 rfl
      have hko7:w'.drew.heap[n16]?=some (fobj bq):=HF.out.2.1.get 1 rfl
      have HAX:Hid (∀W,BX w [(n19,fobj xq),(w.heap.size,.cells i.cells 27 (0,0)),(ad.block,ob),(w.heap.size+2,fz),(n11,fobj g)] W→Calls Tryz.prog 69 #[.agg #[.string (I sq.num),.string (dn sq)],.agg #[.string (I xq.num),.string (dn xq)]] W fun e w'=>e=.returned (.agg #[.string (I s2.num),.string (dn s2)])∧Below W.heap.size W w'):=fun W _=>HAX0.out W
      have HMX:Hid (∀W,BX w [(n19,fobj xq),(w.heap.size,.cells i.cells 27 (0,0)),(ad.block,ob),(w.heap.size+2,fz),(n11,fobj g)] W→Calls Tryz.prog 74 #[.agg #[.string (I bq.num),.string (dn bq)],.agg #[.string (I g.num),.string (dn g)]] W fun e w'=>e=.returned (.agg #[.string (I b2.num),.string (dn b2)])∧Below W.heap.size W w'):=fun W _=>HMX0.out W
      clear HF HFL HQU
      go_wp2_with fail
      have mixed:Tryz.prog.follows .mixedOrders=true:=by kernel_rfl
      refine wp_region_any mixed (Am3 (RPDJ w i ad ob n11 n16 n17 n19 g sq bq xq s2 b2 _ _ _ _ _ _ _ _ _ _ _ _ _ _ _ _ _ _ _ _ _ _ _ _ _ _ _ _ _ _ _ _ _ _ _ _ _ _ _ _ _ _ _ _ _ _ _ _ _ _ _ _ _ _ _ _ _ _ _ _ _ _ _ _ _ _ _ _ _ _ _ _ _ _ _ _ _ _ _ _ _ _ _ _ _ _ _ _ _ _ _ _ _ _ _ _ _ _ _ _ _ _ _ _ _ _) ?stRPD ?dnRPD _ _ _ _ ⟨by simp,⟨_,_,_,_,_,_,rfl,fun h=>by simp at h,fun h=>by simp at h,fun h=>by simp at h,fun h=>by simp at h,fun h=>by simp at h,fun h=>by simp at h,hg,fun _=>hko6,fun h=>by simp at h,fun _=>hko7,fun h=>by simp at h,fun h=>by simp at h,fun h=>by simp at h⟩⟩ (by decide))
      case dnRPD =>
       intro L a w' hj hr
       have all:=Am2 hr hj.sz (by kernel_rfl)
       obtain⟨s109,s110,s111,s112,s113,s114,rfl,hv⟩:=hj.fr
       have HF:=hI (And.intro (hv.n6 (all 6 (by omega))) (And.intro (hv.n7 (all 7 (by omega))) hv.bx))
       clear all hv hj hr
       have HG9:Hid (BX w [(n17,fobj s2),(n16,fobj b2),(w.heap.size,.cells i.cells 27 (0,0)),(ad.block,ob),(w.heap.size+2,fz),(n11,fobj g)] w'):=⟨HF.out.2.2.1,fun x hx=>by
        rcases List.mem_cons.1 hx with rfl|hx
        ·exact HF.out.1
        ·rcases List.mem_cons.1 hx with rfl|hx
         ·exact HF.out.2.1
         ·exact HF.out.2.2.2 x (Aau _ hx)⟩
       clear HF
       go_wp2_with fail
       go_roundw
       case rel=>exact⟨j+1,by go_num,by omega,by omega,s2,b2,HST.out.1,HST.out.2.1,HST.out.2.2.1,HST.out.2.2.2,HG9.out⟩
       case measure=>simp[intOf];omega
      case stRPD =>
       intro L a w' hj i hi
       obtain⟨hun,o,ho,hall⟩:=mem_ready.1 hi
       have hoff:=Amt hun
       have hlt:=(Aab.1 ho).1
       simp at hlt
       obtain⟨s109,s110,s111,s112,s113,s114,rfl,hv⟩:=hj.fr
       have HV:=hI hv
       have HJ:=hI hj
       clear hv hj
       rcases (show i=0∨i=1∨i=2∨i=3∨i=4∨i=5∨i=6∨i=7 from by omega) with rfl|rfl|rfl|rfl|rfl|rfl|rfl|rfl
       ·simp at ho
        subst ho
        clear hall hi
        have hk6:L.getD 6 false=false:=(Amy L 6).resolve_right (fun h=>Amx hoff (HV.out.d6_0 h))
        obtain⟨u0,u1⟩:=An6 (HV.out.o6 hk6)
        refine Am0 rfl fun K' HK=>?_
        go_simp
        cases HV.out
        refine HK.out _ _ ⟨by simp[HJ.out.sz],⟨_,_,_,_,_,_,rfl,fun _=>rfl,?_,?_,?_,?_,?_,HV.out.bx,fun h0=>HV.out.o6 (Amw h0),?_,fun h0=>HV.out.o7 (Amw h0),?_,fun h=>Amu hun (HV.out.d6_0 (Amv h)),fun h=>Amu hun (HV.out.d7_3 (Amv h))⟩⟩
        all_goals exact Um (by assumption)
       ·simp at ho
        subst ho
        clear hall hi
        obtain⟨u0,u1⟩:=An6 (HV.out.bx.get 0 rfl)
        refine Am0 rfl fun K' HK=>?_
        go_simp
        cases HV.out
        refine HK.out _ _ ⟨by simp[HJ.out.sz],⟨_,_,_,_,_,_,rfl,?_,fun _=>rfl,?_,?_,?_,?_,HV.out.bx,fun h0=>HV.out.o6 (Amw h0),?_,fun h0=>HV.out.o7 (Amw h0),?_,fun h=>Amu hun (HV.out.d6_0 (Amv h)),fun h=>Amu hun (HV.out.d7_3 (Amv h))⟩⟩
        all_goals exact Um (by assumption)
       ·simp at ho
        subst ho
        have h0x:L.getD 0 false=true:=hall {on:=0,ground:=Ground.data} (by simp) (by decide)
        have h1x:L.getD 1 false=true:=hall {on:=1,ground:=Ground.data} (by simp) (by decide)
        have H0:=hI h0x
        have H1:=hI h1x
        clear hall hi h0x h1x
        have e0:=HV.out.k0 H0.out
        subst e0
        have e1:=HV.out.k1 H1.out
        subst e1
        refine Am0 rfl fun K' HK=>?_
        go_simp
        refine (HAX.out _ HV.out.bx).mono ?_
        rintro e wn ⟨rfl,hbn⟩
        cases HV.out
        refine HK.out _ _ ⟨by simp[HJ.out.sz],⟨_,_,_,_,_,_,rfl,?_,?_,fun _=>rfl,?_,?_,?_,HV.out.bx.below hbn,fun h=>bkeep hbn (HV.out.o6 (Amw h)),fun h=>bkeep hbn (HV.out.n6 (Amv h)),fun h=>bkeep hbn (HV.out.o7 (Amw h)),fun h=>bkeep hbn (HV.out.n7 (Amv h)),fun h=>Amu hun (HV.out.d6_0 (Amv h)),fun h=>Amu hun (HV.out.d7_3 (Amv h))⟩⟩
        all_goals exact Um (by assumption)
       ·simp at ho
        subst ho
        clear hall hi
        have hk7:L.getD 7 false=false:=(Amy L 7).resolve_right (fun h=>Amx hoff (HV.out.d7_3 h))
        obtain⟨u0,u1⟩:=An6 (HV.out.o7 hk7)
        refine Am0 rfl fun K' HK=>?_
        go_simp
        cases HV.out
        refine HK.out _ _ ⟨by simp[HJ.out.sz],⟨_,_,_,_,_,_,rfl,?_,?_,?_,fun _=>rfl,?_,?_,HV.out.bx,fun h0=>HV.out.o6 (Amw h0),?_,fun h0=>HV.out.o7 (Amw h0),?_,fun h=>Amu hun (HV.out.d6_0 (Amv h)),fun h=>Amu hun (HV.out.d7_3 (Amv h))⟩⟩
        all_goals exact Um (by assumption)
       ·simp at ho
        subst ho
        clear hall hi
        obtain⟨u0,u1⟩:=An6 (HV.out.bx.get 4 rfl)
        refine Am0 rfl fun K' HK=>?_
        go_simp
        cases HV.out
        refine HK.out _ _ ⟨by simp[HJ.out.sz],⟨_,_,_,_,_,_,rfl,?_,?_,?_,?_,fun _=>rfl,?_,HV.out.bx,fun h0=>HV.out.o6 (Amw h0),?_,fun h0=>HV.out.o7 (Amw h0),?_,fun h=>Amu hun (HV.out.d6_0 (Amv h)),fun h=>Amu hun (HV.out.d7_3 (Amv h))⟩⟩
        all_goals exact Um (by assumption)
       ·simp at ho
        subst ho
        have h3x:L.getD 3 false=true:=hall {on:=3,ground:=Ground.data} (by simp) (by decide)
        have h4x:L.getD 4 false=true:=hall {on:=4,ground:=Ground.data} (by simp) (by decide)
        have H3:=hI h3x
        have H4:=hI h4x
        clear hall hi h3x h4x
        have e0:=HV.out.k3 H3.out
        subst e0
        have e1:=HV.out.k4 H4.out
        subst e1
        refine Am0 rfl fun K' HK=>?_
        go_simp
        refine (HMX.out _ HV.out.bx).mono ?_
        rintro e wn ⟨rfl,hbn⟩
        cases HV.out
        refine HK.out _ _ ⟨by simp[HJ.out.sz],⟨_,_,_,_,_,_,rfl,?_,?_,?_,?_,?_,fun _=>rfl,HV.out.bx.below hbn,fun h=>bkeep hbn (HV.out.o6 (Amw h)),fun h=>bkeep hbn (HV.out.n6 (Amv h)),fun h=>bkeep hbn (HV.out.o7 (Amw h)),fun h=>bkeep hbn (HV.out.n7 (Amv h)),fun h=>Amu hun (HV.out.d6_0 (Amv h)),fun h=>Amu hun (HV.out.d7_3 (Amv h))⟩⟩
        all_goals exact Um (by assumption)
       ·simp at ho
        subst ho
        have h2x:L.getD 2 false=true:=hall {on:=2,ground:=Ground.data} (by simp) (by decide)
        have h0x:L.getD 0 false=true:=hall {on:=0,ground:=Ground.phase} (by simp) (by decide)
        have H2:=hI h2x
        have H0:=hI h0x
        clear hall hi h2x h0x
        have e0:=HV.out.k2 H2.out
        subst e0
        have hko:=HV.out.o6 hoff
        have m0:=Aaa hko 0;have m1:=Aaa hko 1;have f0:=Aaf hko 0;have f1:=Aaf hko 1
        simp at m0 m1 f0 f1
        obtain⟨e1,e2,e3,e4,e5,e6,e7,e8,e9,e10,e11,e12,e13⟩:=HNE.out
        refine Am0 rfl fun K' HK=>?_
        go_simp
        cases HV.out
        refine HK.out _ _ ⟨by simp[HJ.out.sz],⟨_,_,_,_,_,_,rfl,?_,?_,?_,?_,?_,?_,HV.out.bx.far (b:=n17) (by omega) (by simp<;>omega) _ _,fun h=>(Amx h (Amr hun)).elim,fun _=>set2 hko _ _,fun h=>(set2_far (by omega) _ _).trans (HV.out.o7 (Amw h)),fun h=>(set2_far (by omega) _ _).trans (HV.out.n7 (Amv h)),fun _=>Amu hun H0.out,fun h=>Amu hun (HV.out.d7_3 (Amv h))⟩⟩
        all_goals exact Um (by assumption)
       ·simp at ho
        subst ho
        have h5x:L.getD 5 false=true:=hall {on:=5,ground:=Ground.data} (by simp) (by decide)
        have h3x:L.getD 3 false=true:=hall {on:=3,ground:=Ground.phase} (by simp) (by decide)
        have H5:=hI h5x
        have H3:=hI h3x
        clear hall hi h5x h3x
        have e0:=HV.out.k5 H5.out
        subst e0
        have hko:=HV.out.o7 hoff
        have m0:=Aaa hko 0;have m1:=Aaa hko 1;have f0:=Aaf hko 0;have f1:=Aaf hko 1
        simp at m0 m1 f0 f1
        obtain⟨e1,e2,e3,e4,e5,e6,e7,e8,e9,e10,e11,e12,e13⟩:=HNE.out
        refine Am0 rfl fun K' HK=>?_
        go_simp
        cases HV.out
        refine HK.out _ _ ⟨by simp[HJ.out.sz],⟨_,_,_,_,_,_,rfl,?_,?_,?_,?_,?_,?_,HV.out.bx.far (b:=n16) (by omega) (by simp<;>omega) _ _,fun h=>(set2_far (by omega) _ _).trans (HV.out.o6 (Amw h)),fun h=>(set2_far (by omega) _ _).trans (HV.out.n6 (Amv h)),fun h=>(Amx h (Amr hun)).elim,fun _=>set2 hko _ _,fun h=>Amu hun (HV.out.d6_0 (Amv h)),fun _=>Amu hun H3.out⟩⟩
        all_goals exact Um (by assumption)
     case stRPC =>
      intro L a w' hj i hi
      obtain⟨hun,o,ho,hall⟩:=mem_ready.1 hi
      have hoff:=Amt hun
      have hlt:=(Aab.1 ho).1
      simp at hlt
      obtain⟨n19,s19,s20,s100,s101,s102,s103,s104,s105,s106,s107,s108,rfl,hv⟩:=hj.fr
      have HV:=hI hv
      have HJ:=hI hj
      clear hv hj
      rcases (show i=0∨i=1∨i=2∨i=3∨i=4∨i=5∨i=6∨i=7∨i=8∨i=9∨i=10∨i=11 from by omega) with rfl|rfl|rfl|rfl|rfl|rfl|rfl|rfl|rfl|rfl|rfl|rfl
      ·simp at ho
       subst ho
       clear hall hi
       have hb:=HV.out.bx.get 2 rfl
       obtain⟨c0,c1,c2,c3,c4,c5,c6,c7,c8,c9,c10,c11,c12,c13,c14⟩:=Acs hb
       try simp[Inst.cells] at c0 c1 c2 c3 c4 c5 c6 c7 c8 c9 c10 c11 c12 c13 c14
       refine Am0 rfl fun K' HK=>?_
       go_simp
       cases HV.out
       refine HK.out _ _ ⟨by simp[HJ.out.sz],?_⟩
       iterate 12 apply Exists.intro
       refine⟨rfl,?_⟩
       constructor
       case k0=>exact fun _=>rfl
       case bx=>exact HV.out.bx
       case o10=>exact Un HV.out.o10
       case q10=>exact Uq hun HV.out.q10
       all_goals exact Um (by assumption)
      ·simp at ho
       subst ho
       clear hall hi
       refine Am0 rfl fun K' HK=>?_
       go_simp
       cases HV.out
       refine HK.out _ _ ⟨by simp[HJ.out.sz],?_⟩
       iterate 12 apply Exists.intro
       refine⟨rfl,?_⟩
       constructor
       case k1=>exact fun _=>rfl
       case bx=>exact HV.out.bx
       case o10=>exact Un HV.out.o10
       case q10=>exact Uq hun HV.out.q10
       all_goals exact Um (by assumption)
      ·simp at ho
       subst ho
       clear hall hi
       refine Am0 rfl fun K' HK=>?_
       go_simp
       cases HV.out
       refine HK.out _ _ ⟨by simp[HJ.out.sz],?_⟩
       iterate 12 apply Exists.intro
       refine⟨rfl,?_⟩
       constructor
       case k2=>exact fun _=>rfl
       case bx=>exact HV.out.bx
       case o10=>exact Un HV.out.o10
       case q10=>exact Uq hun HV.out.q10
       all_goals exact Um (by assumption)
      ·simp at ho
       subst ho
       have h0x:L.getD 0 false=true:=hall {on:=0,ground:=Ground.data} (by simp) (by decide)
       have h1x:L.getD 1 false=true:=hall {on:=1,ground:=Ground.data} (by simp) (by decide)
       have h2x:L.getD 2 false=true:=hall {on:=2,ground:=Ground.data} (by simp) (by decide)
       have H0:=hI h0x
       have H1:=hI h1x
       have H2:=hI h2x
       clear hall hi h0x h1x h2x
       have e0:=HV.out.k0 H0.out
       subst e0
       have e1:=HV.out.k1 H1.out
       subst e1
       have e2:=HV.out.k2 H2.out
       subst e2
       refine Am0 rfl fun K' HK=>?_
       go_simp
       refine (HFL.out _ HV.out.bx).mono ?_
       rintro e wn ⟨rfl,hbn⟩
       cases HV.out
       refine HK.out _ _ ⟨by simp[HJ.out.sz],?_⟩
       iterate 12 apply Exists.intro
       refine⟨rfl,?_⟩
       constructor
       case k3=>exact fun _=>rfl
       case bx=>exact HV.out.bx.below hbn
       case o10=>exact fun h j=>bkeep hbn (HV.out.o10 (Amv h) (Amw j))
       case n10=>exact fun h=>bkeep hbn (HV.out.n10 (Amv h))
       case q10=>exact Uq hun HV.out.q10
       all_goals exact Um (by assumption)
      ·simp at ho
       subst ho
       clear hall hi
       obtain⟨u0,u1⟩:=An6 (HV.out.bx.get 1 rfl)
       refine Am0 rfl fun K' HK=>?_
       go_simp
       cases HV.out
       refine HK.out _ _ ⟨by simp[HJ.out.sz],?_⟩
       iterate 12 apply Exists.intro
       refine⟨rfl,?_⟩
       constructor
       case k4=>exact fun _=>rfl
       case bx=>exact HV.out.bx
       case o10=>exact Un HV.out.o10
       case q10=>exact Uq hun HV.out.q10
       all_goals exact Um (by assumption)
      ·simp at ho
       subst ho
       have h3x:L.getD 3 false=true:=hall {on:=3,ground:=Ground.data} (by simp) (by decide)
       have h4x:L.getD 4 false=true:=hall {on:=4,ground:=Ground.data} (by simp) (by decide)
       have H3:=hI h3x
       have H4:=hI h4x
       clear hall hi h3x h4x
       have e0:=HV.out.k3 H3.out
       subst e0
       have e1:=HV.out.k4 H4.out
       subst e1
       refine Am0 rfl fun K' HK=>?_
       go_simp
       refine (HQU.out _ HV.out.bx).mono ?_
       rintro e wn ⟨rfl,hbn⟩
       cases HV.out
       refine HK.out _ _ ⟨by simp[HJ.out.sz],?_⟩
       iterate 12 apply Exists.intro
       refine⟨rfl,?_⟩
       constructor
       case k5=>exact fun _=>rfl
       case bx=>exact HV.out.bx.below hbn
       case o10=>exact fun h j=>bkeep hbn (HV.out.o10 (Amv h) (Amw j))
       case n10=>exact fun h=>bkeep hbn (HV.out.n10 (Amv h))
       case q10=>exact Uq hun HV.out.q10
       all_goals exact Um (by assumption)
      ·simp at ho
       subst ho
       have h5x:L.getD 5 false=true:=hall {on:=5,ground:=Ground.data} (by simp) (by decide)
       have H5:=hI h5x
       clear hall hi h5x
       have e0:=HV.out.k5 H5.out
       subst e0
       refine Am0 rfl fun K' HK=>?_
       go_simp
       cases HV.out
       refine HK.out _ _ ⟨by simp[HJ.out.sz],?_⟩
       iterate 12 apply Exists.intro
       refine⟨rfl,?_⟩
       constructor
       case k6=>exact fun _=>rfl
       case bx=>exact HV.out.bx
       case o10=>exact Un HV.out.o10
       case q10=>exact Uq hun HV.out.q10
       all_goals exact Um (by assumption)
      ·simp at ho
       subst ho
       have h6x:L.getD 6 false=true:=hall {on:=6,ground:=Ground.data} (by simp) (by decide)
       have H6:=hI h6x
       clear hall hi h6x
       have e0:=HV.out.k6 H6.out
       subst e0
       refine Am0 rfl fun K' HK=>?_
       go_simp
       cases HV.out
       refine HK.out _ _ ⟨by simp[HJ.out.sz],?_⟩
       iterate 12 apply Exists.intro
       refine⟨rfl,?_⟩
       constructor
       case k7=>exact fun _=>rfl
       case bx=>exact HV.out.bx
       case o10=>exact Un HV.out.o10
       case q10=>exact Uq hun HV.out.q10
       all_goals exact Um (by assumption)
      ·simp at ho
       subst ho
       have h6x:L.getD 6 false=true:=hall {on:=6,ground:=Ground.data} (by simp) (by decide)
       have H6:=hI h6x
       clear hall hi h6x
       have e0:=HV.out.k6 H6.out
       subst e0
       refine Am0 rfl fun K' HK=>?_
       go_simp
       cases HV.out
       refine HK.out _ _ ⟨by simp[HJ.out.sz],?_⟩
       iterate 12 apply Exists.intro
       refine⟨rfl,?_⟩
       constructor
       case k8=>exact fun _=>rfl
       case bx=>exact HV.out.bx
       case o10=>exact Un HV.out.o10
       case q10=>exact Uq hun HV.out.q10
       all_goals exact Um (by assumption)
      ·simp at ho
       subst ho
       clear hall hi
       refine Am0 rfl fun K' HK=>?_
       go_simp
       cases HV.out
       refine HK.out _ _ ⟨by simp[HJ.out.sz],w'.heap.size,?_⟩
       iterate 11 apply Exists.intro
       refine⟨rfl,?_⟩
       constructor
       case k9=>exact fun _=>rfl
       case bx=>exact HV.out.bx.below ((Below.refl _ w').alloc (Aad _) _)
       case o10=>exact fun _ _=>Aa0 w' _
       case b10=>exact fun _=>⟨HV.out.bx.1.size,fun x hx e=>by have:=(Aab.1 (HV.out.bx.2 x hx)).1;omega⟩
       case n10=>exact fun h=>(Amx hoff (HV.out.q10 (Amv h))).elim
       case q10=>exact Uq hun HV.out.q10
       all_goals exact Um (by assumption)
      ·simp at ho
       subst ho
       have h9x:L.getD 9 false=true:=hall {on:=9,ground:=Ground.data} (by simp) (by decide)
       have h7x:L.getD 7 false=true:=hall {on:=7,ground:=Ground.data} (by simp) (by decide)
       have H9:=hI h9x
       have H7:=hI h7x
       clear hall hi h9x h7x
       have e0:=HV.out.k9 H9.out
       subst e0
       have e1:=HV.out.k7 H7.out
       subst e1
       have hko:=HV.out.o10 H9.out hoff
       have m0:=Aaa hko 0;have m1:=Aaa hko 1;have f0:=Aaf hko 0;have f1:=Aaf hko 1
       simp at m0 m1 f0 f1
       refine Am0 rfl fun K' HK=>?_
       go_simp
       cases HV.out
       refine HK.out _ _ ⟨by simp[HJ.out.sz],?_⟩
       iterate 12 apply Exists.intro
       refine⟨rfl,?_⟩
       constructor
       case bx=>exact HV.out.bx.far (b:=n19) (HV.out.b10 H9.out).1 (HV.out.b10 H9.out).2 _ _
       case o10=>exact fun _ h=>(Amx h (Amr hun)).elim
       case b10=>exact fun _=>HV.out.b10 H9.out
       case n10=>exact fun _=>set2 hko _ _
       case q10=>exact fun _=>Amu hun H9.out
       all_goals exact Um (by assumption)
      ·simp at ho
       subst ho
       have h8x:L.getD 8 false=true:=hall {on:=8,ground:=Ground.data} (by simp) (by decide)
       have H8:=hI h8x
       clear hall hi h8x
       have e0:=HV.out.k8 H8.out
       subst e0
       refine Am0 rfl fun K' HK=>?_
       go_simp
       cases HV.out
       refine HK.out _ _ ⟨by simp[HJ.out.sz],?_⟩
       iterate 12 apply Exists.intro
       refine⟨rfl,?_⟩
       constructor
       case k11=>exact fun _=>rfl
       case bx=>exact HV.out.bx
       case o10=>exact Un HV.out.o10
       case q10=>exact Uq hun HV.out.q10
       all_goals exact Um (by assumption)
    ·have hcx:decide ((j:Int)<(N:Int))=false:=by simp;omega
     have hjN':j=N:=by omega
     have htot:sq=tot:=by
      have e:(amtL i).drop j=[]:=List.drop_eq_nil_of_le (by rw[Aqr,HN.out];omega)
      rw[e] at hsum
      rw[←hsum]
      show sq=sq+0
      rw[Rat.add_zero]
     have HTT:=hI htot
     obtain⟨u0,u1⟩:=An6 (HGX.out.get 0 rfl)
     have k2:=HGX.out.get 4 rfl
     have m0:=Aaa k2 0
     have m1:=Aaa k2 1
     have f0:=Aaf k2 0
     have f1:=Aaf k2 1
     simp at m0 m1 f0 f1
     have HK3:=hI k2
     have hcx2:decide (j<N)=false:=Aaz (by omega)
     clear k2 hsum hbp hbb hsb htot hkj hjN hjN'
     go_wp2_with fail
     refine bodyPost_ret (An1 rfl _ _ (w.heap.size+2) _ _ (0,0) _ rfl (Go.Proofs.YteennkgpeiafaaaGreatDoor.set2 HK3.out _ _) Tryz.underlying25 rfl (by kernel_rfl)) rfl ?_
     exact⟨by rw[HCC.out.1,HCC.out.2,←HTT.out];rfl,set2_below (by omega) HGX.out.1 _ _⟩
  case stRPB =>
   intro L a w' hj i hi
   obtain⟨hun,o,ho,hall⟩:=mem_ready.1 hi
   have hoff:=Amt hun
   have hlt:=(Aab.1 ho).1
   simp at hlt
   obtain⟨n16,s16,s87,s88,s89,s90,s91,rfl,hv⟩:=hj.fr
   have HV:=hI hv
   have HJ:=hI hj
   clear hv hj
   rcases (show i=0∨i=1∨i=2∨i=3∨i=4∨i=5∨i=6 from by omega) with rfl|rfl|rfl|rfl|rfl|rfl|rfl
   ·simp at ho
    subst ho
    clear hall hi
    obtain⟨u0,u1⟩:=An6 (HV.out.bx.get 5 rfl)
    refine Am0 rfl fun K' HK=>?_
    go_simp
    cases HV.out
    refine HK.out _ _ ⟨by simp[HJ.out.sz],?_⟩
    iterate 7 apply Exists.intro
    refine⟨rfl,?_⟩
    constructor
    case k0=>exact fun _=>rfl
    case bx=>exact HV.out.bx
    case o6=>exact Un HV.out.o6
    case q6=>exact Uq hun HV.out.q6
    all_goals exact Um (by assumption)
   ·simp at ho
    subst ho
    clear hall hi
    obtain⟨u0,u1⟩:=An6 (HV.out.bx.get 3 rfl)
    refine Am0 rfl fun K' HK=>?_
    go_simp
    cases HV.out
    refine HK.out _ _ ⟨by simp[HJ.out.sz],?_⟩
    iterate 7 apply Exists.intro
    refine⟨rfl,?_⟩
    constructor
    case k1=>exact fun _=>rfl
    case bx=>exact HV.out.bx
    case o6=>exact Un HV.out.o6
    case q6=>exact Uq hun HV.out.q6
    all_goals exact Um (by assumption)
   ·simp at ho
    subst ho
    clear hall hi
    obtain⟨u0,u1⟩:=An6 (HV.out.bx.get 0 rfl)
    refine Am0 rfl fun K' HK=>?_
    go_simp
    cases HV.out
    refine HK.out _ _ ⟨by simp[HJ.out.sz],?_⟩
    iterate 7 apply Exists.intro
    refine⟨rfl,?_⟩
    constructor
    case k2=>exact fun _=>rfl
    case bx=>exact HV.out.bx
    case o6=>exact Un HV.out.o6
    case q6=>exact Uq hun HV.out.q6
    all_goals exact Um (by assumption)
   ·simp at ho
    subst ho
    have h1x:L.getD 1 false=true:=hall {on:=1,ground:=Ground.data} (by simp) (by decide)
    have h2x:L.getD 2 false=true:=hall {on:=2,ground:=Ground.data} (by simp) (by decide)
    have H1:=hI h1x
    have H2:=hI h2x
    clear hall hi h1x h2x
    have e0:=HV.out.k1 H1.out
    subst e0
    have e1:=HV.out.k2 H2.out
    subst e1
    refine Am0 rfl fun K' HK=>?_
    go_simp
    refine (HML.out _ HV.out.bx).mono ?_
    rintro e wn ⟨rfl,hbn⟩
    cases HV.out
    refine HK.out _ _ ⟨by simp[HJ.out.sz],?_⟩
    iterate 7 apply Exists.intro
    refine⟨rfl,?_⟩
    constructor
    case k3=>exact fun _=>rfl
    case bx=>exact HV.out.bx.below hbn
    case o6=>exact fun h j=>bkeep hbn (HV.out.o6 (Amv h) (Amw j))
    case n6=>exact fun h=>bkeep hbn (HV.out.n6 (Amv h))
    case q6=>exact Uq hun HV.out.q6
    all_goals exact Um (by assumption)
   ·simp at ho
    subst ho
    have h0x:L.getD 0 false=true:=hall {on:=0,ground:=Ground.data} (by simp) (by decide)
    have h3x:L.getD 3 false=true:=hall {on:=3,ground:=Ground.data} (by simp) (by decide)
    have H0:=hI h0x
    have H3:=hI h3x
    clear hall hi h0x h3x
    have e0:=HV.out.k0 H0.out
    subst e0
    have e1:=HV.out.k3 H3.out
    subst e1
    refine Am0 rfl fun K' HK=>?_
    go_simp
    refine (HAD4.out _ HV.out.bx).mono ?_
    rintro e wn ⟨rfl,hbn⟩
    cases HV.out
    refine HK.out _ _ ⟨by simp[HJ.out.sz],?_⟩
    iterate 7 apply Exists.intro
    refine⟨rfl,?_⟩
    constructor
    case k4=>exact fun _=>rfl
    case bx=>exact HV.out.bx.below hbn
    case o6=>exact fun h j=>bkeep hbn (HV.out.o6 (Amv h) (Amw j))
    case n6=>exact fun h=>bkeep hbn (HV.out.n6 (Amv h))
    case q6=>exact Uq hun HV.out.q6
    all_goals exact Um (by assumption)
   ·simp at ho
    subst ho
    clear hall hi
    refine Am0 rfl fun K' HK=>?_
    go_simp
    cases HV.out
    refine HK.out _ _ ⟨by simp[HJ.out.sz],w'.heap.size,?_⟩
    iterate 6 apply Exists.intro
    refine⟨rfl,?_⟩
    constructor
    case k5=>exact fun _=>rfl
    case bx=>exact HV.out.bx.below ((Below.refl _ w').alloc (Aad _) _)
    case o6=>exact fun _ _=>Aa0 w' _
    case b6=>exact fun _=>⟨HV.out.bx.1.size,fun x hx e=>by have:=(Aab.1 (HV.out.bx.2 x hx)).1;omega⟩
    case n6=>exact fun h=>(Amx hoff (HV.out.q6 (Amv h))).elim
    case q6=>exact Uq hun HV.out.q6
    all_goals exact Um (by assumption)
   ·simp at ho
    subst ho
    have h5x:L.getD 5 false=true:=hall {on:=5,ground:=Ground.data} (by simp) (by decide)
    have h4x:L.getD 4 false=true:=hall {on:=4,ground:=Ground.data} (by simp) (by decide)
    have H5:=hI h5x
    have H4:=hI h4x
    clear hall hi h5x h4x
    have e0:=HV.out.k5 H5.out
    subst e0
    have e1:=HV.out.k4 H4.out
    subst e1
    have hko:=HV.out.o6 H5.out hoff
    have m0:=Aaa hko 0;have m1:=Aaa hko 1;have f0:=Aaf hko 0;have f1:=Aaf hko 1
    simp at m0 m1 f0 f1
    refine Am0 rfl fun K' HK=>?_
    go_simp
    cases HV.out
    refine HK.out _ _ ⟨by simp[HJ.out.sz],?_⟩
    iterate 7 apply Exists.intro
    refine⟨rfl,?_⟩
    constructor
    case bx=>exact HV.out.bx.far (b:=n16) (HV.out.b6 H5.out).1 (HV.out.b6 H5.out).2 _ _
    case o6=>exact fun _ h=>(Amx h (Amr hun)).elim
    case b6=>exact fun _=>HV.out.b6 H5.out
    case n6=>exact fun _=>set2 hko _ _
    case q6=>exact fun _=>Amu hun H5.out
    all_goals exact Um (by assumption)
 case stRPA =>
  intro L a w' hj i hi
  obtain⟨hun,o,ho,hall⟩:=mem_ready.1 hi
  have hoff:=Amt hun
  have hlt:=(Aab.1 ho).1
  simp at hlt
  obtain⟨n14,s14,s15,s63,s64,s65,s66,s67,s68,s69,s70,s71,s72,s73,s74,s75,s76,s77,s78,s79,s80,s81,s82,s83,s84,s85,s86,rfl,hv⟩:=hj.fr
  have HV:=hI hv
  have HJ:=hI hj
  clear hv hj
  rcases (show i=0∨i=1∨i=2∨i=3∨i=4∨i=5∨i=6∨i=7∨i=8∨i=9∨i=10∨i=11∨i=12∨i=13∨i=14∨i=15∨i=16∨i=17∨i=18∨i=19∨i=20∨i=21∨i=22∨i=23∨i=24∨i=25∨i=26 from by omega) with rfl|rfl|rfl|rfl|rfl|rfl|rfl|rfl|rfl|rfl|rfl|rfl|rfl|rfl|rfl|rfl|rfl|rfl|rfl|rfl|rfl|rfl|rfl|rfl|rfl|rfl|rfl
  ·simp at ho
   subst ho
   clear hall hi
   refine Am0 rfl fun K' HK=>?_
   go_simp
   cases HV.out
   refine HK.out _ _ ⟨by simp[HJ.out.sz],?_⟩
   iterate 27 apply Exists.intro
   refine⟨rfl,?_⟩
   constructor
   case k0=>exact fun _=>rfl
   case bx=>exact HV.out.bx
   case o25=>exact Un HV.out.o25
   case q25=>exact Uq hun HV.out.q25
   all_goals exact Um (by assumption)
  ·simp at ho
   subst ho
   clear hall hi
   refine Am0 rfl fun K' HK=>?_
   go_simp
   cases HV.out
   refine HK.out _ _ ⟨by simp[HJ.out.sz],?_⟩
   iterate 27 apply Exists.intro
   refine⟨rfl,?_⟩
   constructor
   case k1=>exact fun _=>rfl
   case bx=>exact HV.out.bx
   case o25=>exact Un HV.out.o25
   case q25=>exact Uq hun HV.out.q25
   all_goals exact Um (by assumption)
  ·simp at ho
   subst ho
   have h0x:L.getD 0 false=true:=hall {on:=0,ground:=Ground.data} (by simp) (by decide)
   have h1x:L.getD 1 false=true:=hall {on:=1,ground:=Ground.data} (by simp) (by decide)
   have H0:=hI h0x
   have H1:=hI h1x
   clear hall hi h0x h1x
   have e0:=HV.out.k0 H0.out
   subst e0
   have e1:=HV.out.k1 H1.out
   subst e1
   have hki:=HKI.out
   refine Am0 rfl fun K' HK=>?_
   go_simp
   cases HV.out
   refine HK.out _ _ ⟨by simp[HJ.out.sz],?_⟩
   iterate 27 apply Exists.intro
   refine⟨rfl,?_⟩
   constructor
   case k2=>exact fun _=>rfl
   case bx=>exact HV.out.bx
   case o25=>exact Un HV.out.o25
   case q25=>exact Uq hun HV.out.q25
   all_goals exact Um (by assumption)
  ·simp at ho
   subst ho
   have h2x:L.getD 2 false=true:=hall {on:=2,ground:=Ground.data} (by simp) (by decide)
   have H2:=hI h2x
   clear hall hi h2x
   have e0:=HV.out.k2 H2.out
   subst e0
   refine Am0 rfl fun K' HK=>?_
   go_simp
   cases HV.out
   refine HK.out _ _ ⟨by simp[HJ.out.sz],?_⟩
   iterate 27 apply Exists.intro
   refine⟨rfl,?_⟩
   constructor
   case k3=>exact fun _=>rfl
   case bx=>exact HV.out.bx
   case o25=>exact Un HV.out.o25
   case q25=>exact Uq hun HV.out.q25
   all_goals exact Um (by assumption)
  ·simp at ho
   subst ho
   have h3x:L.getD 3 false=true:=hall {on:=3,ground:=Ground.data} (by simp) (by decide)
   have H3:=hI h3x
   clear hall hi h3x
   have e0:=HV.out.k3 H3.out
   subst e0
   obtain⟨cx,cy⟩:=(HRB.out _ (HV.out.bx.get 1 rfl)).2 k (px,py) HPK.out
   simp only at cx cy
   refine Am0 rfl fun K' HK=>?_
   go_simp
   cases HV.out
   refine HK.out _ _ ⟨by simp[HJ.out.sz],?_⟩
   iterate 27 apply Exists.intro
   refine⟨rfl,?_⟩
   constructor
   case k4=>exact fun _=>rfl
   case bx=>exact HV.out.bx
   case o25=>exact Un HV.out.o25
   case q25=>exact Uq hun HV.out.q25
   all_goals exact Um (by assumption)
  ·simp at ho
   subst ho
   clear hall hi
   refine Am0 rfl fun K' HK=>?_
   go_simp
   cases HV.out
   refine HK.out _ _ ⟨by simp[HJ.out.sz],?_⟩
   iterate 27 apply Exists.intro
   refine⟨rfl,?_⟩
   constructor
   case k5=>exact fun _=>rfl
   case bx=>exact HV.out.bx
   case o25=>exact Un HV.out.o25
   case q25=>exact Uq hun HV.out.q25
   all_goals exact Um (by assumption)
  ·simp at ho
   subst ho
   have h4x:L.getD 4 false=true:=hall {on:=4,ground:=Ground.data} (by simp) (by decide)
   have h5x:L.getD 5 false=true:=hall {on:=5,ground:=Ground.data} (by simp) (by decide)
   have H4:=hI h4x
   have H5:=hI h5x
   clear hall hi h4x h5x
   have e0:=HV.out.k4 H4.out
   subst e0
   have e1:=HV.out.k5 H5.out
   subst e1
   refine Am0 rfl fun K' HK=>?_
   go_simp
   cases HV.out
   refine HK.out _ _ ⟨by simp[HJ.out.sz],?_⟩
   iterate 27 apply Exists.intro
   refine⟨rfl,?_⟩
   constructor
   case k6=>exact fun _=>by rw[show IntKind.i64.wrap (py-d)=py-d from by rw[Aav];omega]
   case bx=>exact HV.out.bx
   case o25=>exact Un HV.out.o25
   case q25=>exact Uq hun HV.out.q25
   all_goals exact Um (by assumption)
  ·simp at ho
   subst ho
   have h6x:L.getD 6 false=true:=hall {on:=6,ground:=Ground.data} (by simp) (by decide)
   have H6:=hI h6x
   clear hall hi h6x
   have e0:=HV.out.k6 H6.out
   subst e0
   refine Am0 rfl fun K' HK=>?_
   go_simp
   refine (HO1.out _ HV.out.bx).mono ?_
   rintro e wn ⟨rfl,hbn⟩
   cases HV.out
   refine HK.out _ _ ⟨by simp[HJ.out.sz],?_⟩
   iterate 27 apply Exists.intro
   refine⟨rfl,?_⟩
   constructor
   case k7=>exact fun _=>rfl
   case bx=>exact HV.out.bx.below hbn
   case o25=>exact fun h j=>bkeep hbn (HV.out.o25 (Amv h) (Amw j))
   case n25=>exact fun h=>bkeep hbn (HV.out.n25 (Amv h))
   case q25=>exact Uq hun HV.out.q25
   all_goals exact Um (by assumption)
  ·simp at ho
   subst ho
   clear hall hi
   refine Am0 rfl fun K' HK=>?_
   go_simp
   cases HV.out
   refine HK.out _ _ ⟨by simp[HJ.out.sz],?_⟩
   iterate 27 apply Exists.intro
   refine⟨rfl,?_⟩
   constructor
   case k8=>exact fun _=>rfl
   case bx=>exact HV.out.bx
   case o25=>exact Un HV.out.o25
   case q25=>exact Uq hun HV.out.q25
   all_goals exact Um (by assumption)
  ·simp at ho
   subst ho
   clear hall hi
   refine Am0 rfl fun K' HK=>?_
   go_simp
   cases HV.out
   refine HK.out _ _ ⟨by simp[HJ.out.sz],?_⟩
   iterate 27 apply Exists.intro
   refine⟨rfl,?_⟩
   constructor
   case k9=>exact fun _=>rfl
   case bx=>exact HV.out.bx
   case o25=>exact Un HV.out.o25
   case q25=>exact Uq hun HV.out.q25
   all_goals exact Um (by assumption)
  ·simp at ho
   subst ho
   have h8x:L.getD 8 false=true:=hall {on:=8,ground:=Ground.data} (by simp) (by decide)
   have h9x:L.getD 9 false=true:=hall {on:=9,ground:=Ground.data} (by simp) (by decide)
   have H8:=hI h8x
   have H9:=hI h9x
   clear hall hi h8x h9x
   have e0:=HV.out.k8 H8.out
   subst e0
   have e1:=HV.out.k9 H9.out
   subst e1
   have hki:=HKI.out
   refine Am0 rfl fun K' HK=>?_
   go_simp
   cases HV.out
   refine HK.out _ _ ⟨by simp[HJ.out.sz],?_⟩
   iterate 27 apply Exists.intro
   refine⟨rfl,?_⟩
   constructor
   case k10=>exact fun _=>rfl
   case bx=>exact HV.out.bx
   case o25=>exact Un HV.out.o25
   case q25=>exact Uq hun HV.out.q25
   all_goals exact Um (by assumption)
  ·simp at ho
   subst ho
   have h10x:L.getD 10 false=true:=hall {on:=10,ground:=Ground.data} (by simp) (by decide)
   have H10:=hI h10x
   clear hall hi h10x
   have e0:=HV.out.k10 H10.out
   subst e0
   refine Am0 rfl fun K' HK=>?_
   go_simp
   cases HV.out
   refine HK.out _ _ ⟨by simp[HJ.out.sz],?_⟩
   iterate 27 apply Exists.intro
   refine⟨rfl,?_⟩
   constructor
   case k11=>exact fun _=>rfl
   case bx=>exact HV.out.bx
   case o25=>exact Un HV.out.o25
   case q25=>exact Uq hun HV.out.q25
   all_goals exact Um (by assumption)
  ·simp at ho
   subst ho
   have h11x:L.getD 11 false=true:=hall {on:=11,ground:=Ground.data} (by simp) (by decide)
   have H11:=hI h11x
   clear hall hi h11x
   have e0:=HV.out.k11 H11.out
   subst e0
   obtain⟨cx,cy⟩:=(HRB.out _ (HV.out.bx.get 1 rfl)).2 k (px,py) HPK.out
   simp only at cx cy
   refine Am0 rfl fun K' HK=>?_
   go_simp
   cases HV.out
   refine HK.out _ _ ⟨by simp[HJ.out.sz],?_⟩
   iterate 27 apply Exists.intro
   refine⟨rfl,?_⟩
   constructor
   case k12=>exact fun _=>rfl
   case bx=>exact HV.out.bx
   case o25=>exact Un HV.out.o25
   case q25=>exact Uq hun HV.out.q25
   all_goals exact Um (by assumption)
  ·simp at ho
   subst ho
   clear hall hi
   refine Am0 rfl fun K' HK=>?_
   go_simp
   cases HV.out
   refine HK.out _ _ ⟨by simp[HJ.out.sz],?_⟩
   iterate 27 apply Exists.intro
   refine⟨rfl,?_⟩
   constructor
   case k13=>exact fun _=>rfl
   case bx=>exact HV.out.bx
   case o25=>exact Un HV.out.o25
   case q25=>exact Uq hun HV.out.q25
   all_goals exact Um (by assumption)
  ·simp at ho
   subst ho
   clear hall hi
   refine Am0 rfl fun K' HK=>?_
   go_simp
   cases HV.out
   refine HK.out _ _ ⟨by simp[HJ.out.sz],?_⟩
   iterate 27 apply Exists.intro
   refine⟨rfl,?_⟩
   constructor
   case k14=>exact fun _=>rfl
   case bx=>exact HV.out.bx
   case o25=>exact Un HV.out.o25
   case q25=>exact Uq hun HV.out.q25
   all_goals exact Um (by assumption)
  ·simp at ho
   subst ho
   have h13x:L.getD 13 false=true:=hall {on:=13,ground:=Ground.data} (by simp) (by decide)
   have h14x:L.getD 14 false=true:=hall {on:=14,ground:=Ground.data} (by simp) (by decide)
   have H13:=hI h13x
   have H14:=hI h14x
   clear hall hi h13x h14x
   have e0:=HV.out.k13 H13.out
   subst e0
   have e1:=HV.out.k14 H14.out
   subst e1
   have hki:=HKI.out
   refine Am0 rfl fun K' HK=>?_
   go_simp
   cases HV.out
   refine HK.out _ _ ⟨by simp[HJ.out.sz],?_⟩
   iterate 27 apply Exists.intro
   refine⟨rfl,?_⟩
   constructor
   case k15=>exact fun _=>rfl
   case bx=>exact HV.out.bx
   case o25=>exact Un HV.out.o25
   case q25=>exact Uq hun HV.out.q25
   all_goals exact Um (by assumption)
  ·simp at ho
   subst ho
   have h15x:L.getD 15 false=true:=hall {on:=15,ground:=Ground.data} (by simp) (by decide)
   have H15:=hI h15x
   clear hall hi h15x
   have e0:=HV.out.k15 H15.out
   subst e0
   refine Am0 rfl fun K' HK=>?_
   go_simp
   cases HV.out
   refine HK.out _ _ ⟨by simp[HJ.out.sz],?_⟩
   iterate 27 apply Exists.intro
   refine⟨rfl,?_⟩
   constructor
   case k16=>exact fun _=>rfl
   case bx=>exact HV.out.bx
   case o25=>exact Un HV.out.o25
   case q25=>exact Uq hun HV.out.q25
   all_goals exact Um (by assumption)
  ·simp at ho
   subst ho
   have h16x:L.getD 16 false=true:=hall {on:=16,ground:=Ground.data} (by simp) (by decide)
   have H16:=hI h16x
   clear hall hi h16x
   have e0:=HV.out.k16 H16.out
   subst e0
   obtain⟨cx,cy⟩:=(HRB.out _ (HV.out.bx.get 1 rfl)).2 k (px,py) HPK.out
   simp only at cx cy
   refine Am0 rfl fun K' HK=>?_
   go_simp
   cases HV.out
   refine HK.out _ _ ⟨by simp[HJ.out.sz],?_⟩
   iterate 27 apply Exists.intro
   refine⟨rfl,?_⟩
   constructor
   case k17=>exact fun _=>rfl
   case bx=>exact HV.out.bx
   case o25=>exact Un HV.out.o25
   case q25=>exact Uq hun HV.out.q25
   all_goals exact Um (by assumption)
  ·simp at ho
   subst ho
   have h12x:L.getD 12 false=true:=hall {on:=12,ground:=Ground.data} (by simp) (by decide)
   have h17x:L.getD 17 false=true:=hall {on:=17,ground:=Ground.data} (by simp) (by decide)
   have H12:=hI h12x
   have H17:=hI h17x
   clear hall hi h12x h17x
   have e0:=HV.out.k12 H12.out
   subst e0
   have e1:=HV.out.k17 H17.out
   subst e1
   refine Am0 rfl fun K' HK=>?_
   go_simp
   cases HV.out
   refine HK.out _ _ ⟨by simp[HJ.out.sz],?_⟩
   iterate 27 apply Exists.intro
   refine⟨rfl,?_⟩
   constructor
   case k18=>exact fun _=>by rw[show IntKind.i64.wrap (py-px)=py-px from by rw[Aav];omega]
   case bx=>exact HV.out.bx
   case o25=>exact Un HV.out.o25
   case q25=>exact Uq hun HV.out.q25
   all_goals exact Um (by assumption)
  ·simp at ho
   subst ho
   have h18x:L.getD 18 false=true:=hall {on:=18,ground:=Ground.data} (by simp) (by decide)
   have H18:=hI h18x
   clear hall hi h18x
   have e0:=HV.out.k18 H18.out
   subst e0
   refine Am0 rfl fun K' HK=>?_
   go_simp
   refine (HO2.out _ HV.out.bx).mono ?_
   rintro e wn ⟨rfl,hbn⟩
   cases HV.out
   refine HK.out _ _ ⟨by simp[HJ.out.sz],?_⟩
   iterate 27 apply Exists.intro
   refine⟨rfl,?_⟩
   constructor
   case k19=>exact fun _=>rfl
   case bx=>exact HV.out.bx.below hbn
   case o25=>exact fun h j=>bkeep hbn (HV.out.o25 (Amv h) (Amw j))
   case n25=>exact fun h=>bkeep hbn (HV.out.n25 (Amv h))
   case q25=>exact Uq hun HV.out.q25
   all_goals exact Um (by assumption)
  ·simp at ho
   subst ho
   have h7x:L.getD 7 false=true:=hall {on:=7,ground:=Ground.data} (by simp) (by decide)
   have h19x:L.getD 19 false=true:=hall {on:=19,ground:=Ground.data} (by simp) (by decide)
   have H7:=hI h7x
   have H19:=hI h19x
   clear hall hi h7x h19x
   have e0:=HV.out.k7 H7.out
   subst e0
   have e1:=HV.out.k19 H19.out
   subst e1
   refine Am0 rfl fun K' HK=>?_
   go_simp
   refine (HNW.out _ HV.out.bx).mono ?_
   rintro e wn ⟨rfl,hbn⟩
   cases HV.out
   refine HK.out _ _ ⟨by simp[HJ.out.sz],?_⟩
   iterate 27 apply Exists.intro
   refine⟨rfl,?_⟩
   constructor
   case k20=>exact fun _=>rfl
   case bx=>exact HV.out.bx.below hbn
   case o25=>exact fun h j=>bkeep hbn (HV.out.o25 (Amv h) (Amw j))
   case n25=>exact fun h=>bkeep hbn (HV.out.n25 (Amv h))
   case q25=>exact Uq hun HV.out.q25
   all_goals exact Um (by assumption)
  ·simp at ho
   subst ho
   have h20x:L.getD 20 false=true:=hall {on:=20,ground:=Ground.data} (by simp) (by decide)
   have H20:=hI h20x
   clear hall hi h20x
   have e0:=HV.out.k20 H20.out
   subst e0
   refine Am0 rfl fun K' HK=>?_
   go_simp
   cases HV.out
   refine HK.out _ _ ⟨by simp[HJ.out.sz],?_⟩
   iterate 27 apply Exists.intro
   refine⟨rfl,?_⟩
   constructor
   case k21=>exact fun _=>rfl
   case bx=>exact HV.out.bx
   case o25=>exact Un HV.out.o25
   case q25=>exact Uq hun HV.out.q25
   all_goals exact Um (by assumption)
  ·simp at ho
   subst ho
   have h21x:L.getD 21 false=true:=hall {on:=21,ground:=Ground.data} (by simp) (by decide)
   have H21:=hI h21x
   clear hall hi h21x
   have e0:=HV.out.k21 H21.out
   subst e0
   refine Am0 rfl fun K' HK=>?_
   go_simp
   cases HV.out
   refine HK.out _ _ ⟨by simp[HJ.out.sz],?_⟩
   iterate 27 apply Exists.intro
   refine⟨rfl,?_⟩
   constructor
   case k22=>exact fun _=>rfl
   case bx=>exact HV.out.bx
   case o25=>exact Un HV.out.o25
   case q25=>exact Uq hun HV.out.q25
   all_goals exact Um (by assumption)
  ·simp at ho
   subst ho
   have h21x:L.getD 21 false=true:=hall {on:=21,ground:=Ground.data} (by simp) (by decide)
   have H21:=hI h21x
   clear hall hi h21x
   have e0:=HV.out.k21 H21.out
   subst e0
   refine Am0 rfl fun K' HK=>?_
   go_simp
   cases HV.out
   refine HK.out _ _ ⟨by simp[HJ.out.sz],?_⟩
   iterate 27 apply Exists.intro
   refine⟨rfl,?_⟩
   constructor
   case k23=>exact fun _=>rfl
   case bx=>exact HV.out.bx
   case o25=>exact Un HV.out.o25
   case q25=>exact Uq hun HV.out.q25
   all_goals exact Um (by assumption)
  ·simp at ho
   subst ho
   clear hall hi
   refine Am0 rfl fun K' HK=>?_
   go_simp
   cases HV.out
   refine HK.out _ _ ⟨by simp[HJ.out.sz],w'.heap.size,?_⟩
   iterate 26 apply Exists.intro
   refine⟨rfl,?_⟩
   constructor
   case k24=>exact fun _=>rfl
   case bx=>exact HV.out.bx.below ((Below.refl _ w').alloc (Aad _) _)
   case o25=>exact fun _ _=>Aa0 w' _
   case b25=>exact fun _=>⟨HV.out.bx.1.size,fun x hx e=>by have:=(Aab.1 (HV.out.bx.2 x hx)).1;omega⟩
   case n25=>exact fun h=>(Amx hoff (HV.out.q25 (Amv h))).elim
   case q25=>exact Uq hun HV.out.q25
   all_goals exact Um (by assumption)
  ·simp at ho
   subst ho
   have h24x:L.getD 24 false=true:=hall {on:=24,ground:=Ground.data} (by simp) (by decide)
   have h22x:L.getD 22 false=true:=hall {on:=22,ground:=Ground.data} (by simp) (by decide)
   have H24:=hI h24x
   have H22:=hI h22x
   clear hall hi h24x h22x
   have e0:=HV.out.k24 H24.out
   subst e0
   have e1:=HV.out.k22 H22.out
   subst e1
   have hko:=HV.out.o25 H24.out hoff
   have m0:=Aaa hko 0;have m1:=Aaa hko 1;have f0:=Aaf hko 0;have f1:=Aaf hko 1
   simp at m0 m1 f0 f1
   refine Am0 rfl fun K' HK=>?_
   go_simp
   cases HV.out
   refine HK.out _ _ ⟨by simp[HJ.out.sz],?_⟩
   iterate 27 apply Exists.intro
   refine⟨rfl,?_⟩
   constructor
   case bx=>exact HV.out.bx.far (b:=n14) (HV.out.b25 H24.out).1 (HV.out.b25 H24.out).2 _ _
   case o25=>exact fun _ h=>(Amx h (Amr hun)).elim
   case b25=>exact fun _=>HV.out.b25 H24.out
   case n25=>exact fun _=>set2 hko _ _
   case q25=>exact fun _=>Amu hun H24.out
   all_goals exact Um (by assumption)
  ·simp at ho
   subst ho
   have h23x:L.getD 23 false=true:=hall {on:=23,ground:=Ground.data} (by simp) (by decide)
   have H23:=hI h23x
   clear hall hi h23x
   have e0:=HV.out.k23 H23.out
   subst e0
   refine Am0 rfl fun K' HK=>?_
   go_simp
   cases HV.out
   refine HK.out _ _ ⟨by simp[HJ.out.sz],?_⟩
   iterate 27 apply Exists.intro
   refine⟨rfl,?_⟩
   constructor
   case k26=>exact fun _=>rfl
   case bx=>exact HV.out.bx
   case o25=>exact Un HV.out.o25
   case q25=>exact Uq hun HV.out.q25
   all_goals exact Um (by assumption)
end Go.Proofs.YteennkgpeiafaaaGreatDoor
