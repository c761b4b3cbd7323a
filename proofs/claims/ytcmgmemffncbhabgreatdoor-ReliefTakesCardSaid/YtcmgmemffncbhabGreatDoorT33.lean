/-
  slices.rotateCmpFunc and slices.symMergeCmpFunc over lots. (Printed by gen_srt3.py.)
-/
import Derived.Test.YtcmgmemffncbhabGreatDoorT32
set_option linter.unusedVariables false
set_option linter.unusedSimpArgs false
set_option maxHeartbeats 16000000
set_option maxRecDepth 100000
namespace Go.Proofs.YtcmgmemffncbhabGreatDoor
open Go.RowKit Tr Go.Shelf
theorem Ass(V:Lot→Prop)(w0:World)(g N c a m b f:Nat)(bd:Array Value)(sp:List Value)(P L R Q:List Lot)(hN:(P++(L++(R++Q))).length=N)(hm:N≤1000000)(ha:P.length=a)(hl:a+L.length=m)(hr:m+R.length=b)(h0:a<m)(h1:m<b)(w:World)(hrow:SRow V w0 g sp (P++(L++(R++Q))) w):
 Calls Tryz.prog 188 #[.slice (some ⟨g,0,none⟩) N c,.int .i64 (a:Int),.int .i64 (m:Int),.int .i64 (b:Int),.func (.func f) #[] bd] w fun e w'=>e=.returned (.tuple #[])∧SRow V w0 g sp (P++(R++(L++Q))) w':=by
 have hbN:b≤N:=by rw[←hN];simp;omega
 have HST:Hid (RotSt (P++(R++(L++Q))) m (m-a) (b-m) (P++(L++(R++Q)))):=⟨P,L,R,Q,rfl,rfl,by omega,by omega,by omega,by omega,by omega⟩
 obtain⟨T,hT⟩:∃T,P++(R++(L++Q))=T:=⟨_,rfl⟩
 obtain⟨D0,hD0⟩:∃D,P++(L++(R++Q))=D:=⟨_,rfl⟩
 rw[hT] at HST ⊢
 rw[hD0] at HST hrow hN
 obtain⟨i0,hi0⟩:∃i,i+a=m:=⟨m-a,by omega⟩
 obtain⟨j0,hj0⟩:∃j,j+m=b:=⟨b-m,by omega⟩
 rw[show m-a=i0 from by omega,show b-m=j0 from by omega] at HST
 have hw1:IntKind.i64.wrap ((m:Int)-(a:Int))=(i0:Int):=by rw[Aay];omega
 have hw2:IntKind.i64.wrap ((b:Int)-(m:Int))=(j0:Int):=by rw[Aay];omega
 have HROW:=hI hrow
 have HNN:=hI hN
 have HB:Hid (m+j0≤N∧i0≤m∧0<i0∧0<j0):=⟨by omega,by omega,by omega,by omega⟩
 clear hrow hN hT hD0 ha hl hr h0 h1 hbN hi0 hj0
 go_enter Tryz.func188,Tryz.ntmps188
 go_wp2_with fail
 go_loopw [10,11] (fun v10 v11 wr=>∃(i j:Nat) (D:List Lot),v10=.int .i64 (i:Int)∧v11=.int .i64 (j:Int)∧D.length=N∧m+j≤N∧i≤m∧0<i∧0<j∧RotSt T m i j D∧SRow V w0 g sp D wr) (fun v10 v11 _=>(intOf v10).toNat+(intOf v11).toNat)
 case atStart=>exact⟨i0,j0,D0,rfl,rfl,HNN.out,HB.out.1,HB.out.2.1,HB.out.2.2.1,HB.out.2.2.2,HST.out,HROW.out⟩
 case round =>
  clear hw1 hw2 HB HST HROW
  obtain⟨i,j,D,rfl,rfl,hlen,hjN,him,hi,hj,hst,hrow⟩:=hrel
  have HR:=hI hrow
  have HS:=hI hst
  have HLEN:=hI hlen
  obtain⟨q,hq⟩:∃q,q+i=m:=⟨m-i,by omega⟩
  have HQ:=hI hq
  have hw1:IntKind.i64.wrap ((m:Int)-(i:Int))=(q:Int):=by rw[Aay];omega
  clear hrow hst hlen
  rcases Nat.lt_trichotomy i j with hij|hij|hij
  ·have t1:((i:Int)==(j:Int))=false:=Aaj.2 (by omega)
   have t2:((i:Int) != (j:Int))=true:=by rw[bne,t1];rfl
   have t3:decide ((i:Int) > (j:Int))=false:=Aa4 (by omega)
   have t4:decide ((j:Int)<(i:Int))=false:=t3
   obtain⟨u,hu⟩:∃u,u=m+j:=⟨_,rfl⟩
   obtain⟨v,hv⟩:∃v,v+i=u:=⟨u-i,by omega⟩
   obtain⟨r,hr⟩:∃r,r+i=j:=⟨j-i,by omega⟩
   have hw2:IntKind.i64.wrap ((m:Int)+(j:Int))=(u:Int):=by rw[Aay];omega
   have hw3:IntKind.i64.wrap ((u:Int)-(i:Int))=(v:Int):=by rw[Aay];omega
   have hw4:IntKind.i64.wrap ((j:Int)-(i:Int))=(r:Int):=by rw[Aay];omega
   have HCALL:=hI (Ase V w0 g N c q v i f bd sp D HLEN.out hm (by omega) (by omega) (.inl (by omega)) wr HR.out)
   have HST2:Hid (RotSt T m i r (swR D q v i)):=by
    have h:=HS.out.right hij
    rw[show m-i=q from by omega,show m+j-i=v from by omega,show j-i=r from by omega] at h
    exact h
   have HUV:Hid (r+i=j):=hr
   clear hu hv hr hq
   go_wp2_with fail
   refine HCALL.out.mono ?_
   rintro e w1 ⟨rfl,hr1⟩
   have HR1:=hI hr1
   clear hr1
   go_wp2_with fail
   go_roundw
   case rel=>exact⟨i,r,_,rfl,rfl,by rw[Adm];exact HLEN.out,by have:=HUV.out;omega,him,hi,by have:=HUV.out;omega,HST2.out,HR1.out⟩
   case measure=>have:=HUV.out;simp[intOf];omega
  ·subst hij
   have t1:((i:Int)==(i:Int))=true:=by simp
   have t2:((i:Int) != (i:Int))=false:=by simp
   have HCALL:=hI (Ase V w0 g N c q m i f bd sp D HLEN.out hm (by omega) (by omega) (.inl (by omega)) wr HR.out)
   have HF:Hid (swR D q m i=T):=by
    have h:=HS.out.done
    rw[show m-i=q from by omega] at h
    exact h
   clear hq
   go_wp2_with fail
   refine HCALL.out.mono ?_
   rintro e w1 ⟨rfl,hr1⟩
   have HR1:=hI (hr1.same HF.out)
   clear hr1
   go_wp2_with fail
   go_end0
   exact⟨rfl,HR1.out⟩
  ·have t1:((i:Int)==(j:Int))=false:=Aaj.2 (by omega)
   have t2:((i:Int) != (j:Int))=true:=by rw[bne,t1];rfl
   have t3:decide ((i:Int) > (j:Int))=true:=Aa3 (by omega)
   have t4:decide ((j:Int)<(i:Int))=true:=t3
   obtain⟨r,hr⟩:∃r,r+j=i:=⟨i-j,by omega⟩
   have hw4:IntKind.i64.wrap ((i:Int)-(j:Int))=(r:Int):=by rw[Aay];omega
   have HCALL:=hI (Ase V w0 g N c q m j f bd sp D HLEN.out hm (by omega) (by omega) (.inl (by omega)) wr HR.out)
   have HST2:Hid (RotSt T m r j (swR D q m j)):=by
    have h:=HS.out.left hij
    rw[show m-i=q from by omega,show i-j=r from by omega] at h
    exact h
   have HUV:Hid (r+j=i):=hr
   clear hr hq
   go_wp2_with fail
   refine HCALL.out.mono ?_
   rintro e w1 ⟨rfl,hr1⟩
   have HR1:=hI hr1
   clear hr1
   go_wp2_with fail
   go_roundw
   case rel=>exact⟨r,j,_,rfl,rfl,by rw[Adm];exact HLEN.out,hjN,by have:=HUV.out;omega,by have:=HUV.out;omega,hj,HST2.out,HR1.out⟩
   case measure=>have:=HUV.out;simp[intOf];omega
structure YLV(V:Lot→Prop)(w0:World)(g:Nat)(sp:List Value)(D:List Lot)(ad:Addr)(N c:Nat)(f:Nat)(bd:Array Value)(a_ m_ b_ i_ j_ h_:Nat)(x y:Lot)(zc:Int)(t:Bool)  (L:Array Bool) (W:World) (s40 s41 s42 s43 s44 s45 s46 s47 s48 s49 s50:Value):Prop where
 k0:L.getD 0 false=true→s40=.func (.func f) #[] bd
 k1:L.getD 1 false=true→s41=.slice (some ad) N c
 k2:L.getD 2 false=true→s42=.int .i64 (h_:Int)
 k3:L.getD 3 false=true→s43=.pointer (some (ad.add (h_*7)))
 k4:L.getD 4 false=true→s44=.agg #[.string x.id,.string x.inst,.int .i64 x.acq,.int .i64 x.opn,.string x.qty,.string x.cost,.string x.used]
 k5:L.getD 5 false=true→s45=.slice (some ad) N c
 k6:L.getD 6 false=true→s46=.int .i64 (a_:Int)
 k7:L.getD 7 false=true→s47=.pointer (some (ad.add (a_*7)))
 k8:L.getD 8 false=true→s48=.agg #[.string y.id,.string y.inst,.int .i64 y.acq,.int .i64 y.opn,.string y.qty,.string y.cost,.string y.used]
 k9:L.getD 9 false=true→s49=.int .i64 zc
 k10:L.getD 10 false=true→s50=.bool t
 r:SRow V w0 g sp D W
structure YLJ(V:Lot→Prop)(w0:World)(g:Nat)(sp:List Value)(D:List Lot)(ad:Addr)(N c:Nat)(f:Nat)(bd:Array Value)(a_ m_ b_ i_ j_ h_:Nat)(x y:Lot)(zc:Int)(t:Bool)(x5 x6 x7 x8 x9 x13 x14 x15 x16 x17 x18 x19 x20 x21 x22 x23 x24 x25 x26 x27 x28 x29 x30 x31 x32 x33 x34 x35 x36 x37 x38 x39 x51 x52 x53 x54 x55 x56 x57 x58 x59 x60 x61 x62 x63 x64 x65 x66 x67 x68 x69 x70 x71 x72 x73 x74 x75 x76 x77 x78 x79 x80 x81 x82 x83 x84 x85 x86 x87 x88 x89 x90 x91 x92 x93 x94 x95 x96 x97 x98 x99 x100 x101 x102 x103 x104 x105 x106 x107 x108 x109 x110 x111 x112 x113 x114 x115 x116 x117 x118 x119 x120 x121 x122 x123 x124 x125 x126 x127 x128 x129 x130 x131 x132 x133 x134 x135 x136 x137 x138 x139 x140 x141 x142 x143 x144 x145 x146 x147 x148 x149 x150 x151 x152 x153 x154 x155 x156 x157 x158 x159 x160 x161 x162 x163 x164 x165 x166 x167 x168 x169 x170 x171 x172 x173 x174 x175 x176 x177 x178 x179 x180 x181 x182 x183 x184 x185 x186 x187 x188 x189 x190 x191 x192 x193 x194 x195 x196 x197 x198 x199 x200 x201 x202 x203 x204 x205 x206 x207 x208 x209 x210 x211 x212 x213 x214 x215 x216 x217 x218 x219:Value)(L:Array Bool)(a:Act)(W:World):Prop where
 sz:L.size=11
 fr:∃s40 s41 s42 s43 s44 s45 s46 s47 s48 s49 s50:Value,a={tmps:=#[.slice (some ad) N c,.int .i64 (a_:Int),.int .i64 (m_:Int),.int .i64 (b_:Int),.func (.func f) #[] bd,x5,x6,x7,x8,x9,.int .i64 (i_:Int),.int .i64 (j_:Int),.int .i64 (h_:Int),x13,x14,x15,x16,x17,x18,x19,x20,x21,x22,x23,x24,x25,x26,x27,x28,x29,x30,x31,x32,x33,x34,x35,x36,x37,x38,x39,s40,s41,s42,s43,s44,s45,s46,s47,s48,s49,s50,x51,x52,x53,x54,x55,x56,x57,x58,x59,x60,x61,x62,x63,x64,x65,x66,x67,x68,x69,x70,x71,x72,x73,x74,x75,x76,x77,x78,x79,x80,x81,x82,x83,x84,x85,x86,x87,x88,x89,x90,x91,x92,x93,x94,x95,x96,x97,x98,x99,x100,x101,x102,x103,x104,x105,x106,x107,x108,x109,x110,x111,x112,x113,x114,x115,x116,x117,x118,x119,x120,x121,x122,x123,x124,x125,x126,x127,x128,x129,x130,x131,x132,x133,x134,x135,x136,x137,x138,x139,x140,x141,x142,x143,x144,x145,x146,x147,x148,x149,x150,x151,x152,x153,x154,x155,x156,x157,x158,x159,x160,x161,x162,x163,x164,x165,x166,x167,x168,x169,x170,x171,x172,x173,x174,x175,x176,x177,x178,x179,x180,x181,x182,x183,x184,x185,x186,x187,x188,x189,x190,x191,x192,x193,x194,x195,x196,x197,x198,x199,x200,x201,x202,x203,x204,x205,x206,x207,x208,x209,x210,x211,x212,x213,x214,x215,x216,x217,x218,x219],defers:=[]}∧YLV V w0 g sp D ad N c f bd a_ m_ b_ i_ j_ h_ x y zc t  L W s40 s41 s42 s43 s44 s45 s46 s47 s48 s49 s50
structure YUV(V:Lot→Prop)(w0:World)(g:Nat)(sp:List Value)(D:List Lot)(ad:Addr)(N c:Nat)(f:Nat)(bd:Array Value)(a_ m_ b_ i_ k_ kp_:Nat)(x y:Lot)  (L:Array Bool) (W:World) (s61 s62 s63 s64 s65 s66 s67 s68 s69 s70 s71 s72 s73 s74 s75 s76:Value):Prop where
 k0:L.getD 0 false=true→s61=.slice (some ad) N c
 k1:L.getD 1 false=true→s62=.int .i64 (k_:Int)
 k2:L.getD 2 false=true→s63=.slice (some ad) N c
 k3:L.getD 3 false=true→s64=.int .i64 (k_:Int)
 k4:L.getD 4 false=true→s65=.int .i64 (kp_:Int)
 k5:L.getD 5 false=true→s66=.slice (some ad) N c
 k6:L.getD 6 false=true→s67=.int .i64 (k_:Int)
 k7:L.getD 7 false=true→s68=.int .i64 (kp_:Int)
 k8:L.getD 8 false=true→s69=.pointer (some (ad.add (kp_*7)))
 k9:L.getD 9 false=true→s70=.agg #[.string y.id,.string y.inst,.int .i64 y.acq,.int .i64 y.opn,.string y.qty,.string y.cost,.string y.used]
 k10:L.getD 10 false=true→s71=.slice (some ad) N c
 k11:L.getD 11 false=true→s72=.int .i64 (k_:Int)
 k12:L.getD 12 false=true→s73=.pointer (some (ad.add (k_*7)))
 k13:L.getD 13 false=true→s74=.agg #[.string x.id,.string x.inst,.int .i64 x.acq,.int .i64 x.opn,.string x.qty,.string x.cost,.string x.used]
 k14:L.getD 14 false=true→s75=.pointer (some (ad.add (k_*7)))
 k16:L.getD 16 false=true→s76=.pointer (some (ad.add (kp_*7)))
 r0:L.getD 15 false=false→SRow V w0 g sp D W
 r1:L.getD 15 false=true→L.getD 17 false=false→SRow V w0 g sp (D.set k_ y) W
 r2:L.getD 17 false=true→SRow V w0 g sp ((D.set k_ y).set kp_ x) W
 q1:L.getD 15 false=true→L.getD 13 false=true∧L.getD 9 false=true
 q2:L.getD 17 false=true→L.getD 15 false=true
structure YUJ(V:Lot→Prop)(w0:World)(g:Nat)(sp:List Value)(D:List Lot)(ad:Addr)(N c:Nat)(f:Nat)(bd:Array Value)(a_ m_ b_ i_ k_ kp_:Nat)(x y:Lot)(x5 x6 x7 x8 x9 x11 x12 x14 x15 x16 x17 x18 x19 x20 x21 x22 x23 x24 x25 x26 x27 x28 x29 x30 x31 x32 x33 x34 x35 x36 x37 x38 x39 x40 x41 x42 x43 x44 x45 x46 x47 x48 x49 x50 x51 x52 x53 x54 x55 x56 x57 x58 x59 x60 x77 x78 x79 x80 x81 x82 x83 x84 x85 x86 x87 x88 x89 x90 x91 x92 x93 x94 x95 x96 x97 x98 x99 x100 x101 x102 x103 x104 x105 x106 x107 x108 x109 x110 x111 x112 x113 x114 x115 x116 x117 x118 x119 x120 x121 x122 x123 x124 x125 x126 x127 x128 x129 x130 x131 x132 x133 x134 x135 x136 x137 x138 x139 x140 x141 x142 x143 x144 x145 x146 x147 x148 x149 x150 x151 x152 x153 x154 x155 x156 x157 x158 x159 x160 x161 x162 x163 x164 x165 x166 x167 x168 x169 x170 x171 x172 x173 x174 x175 x176 x177 x178 x179 x180 x181 x182 x183 x184 x185 x186 x187 x188 x189 x190 x191 x192 x193 x194 x195 x196 x197 x198 x199 x200 x201 x202 x203 x204 x205 x206 x207 x208 x209 x210 x211 x212 x213 x214 x215 x216 x217 x218 x219:Value)(L:Array Bool)(a:Act)(W:World):Prop where
 sz:L.size=18
 fr:∃s61 s62 s63 s64 s65 s66 s67 s68 s69 s70 s71 s72 s73 s74 s75 s76:Value,a={tmps:=#[.slice (some ad) N c,.int .i64 (a_:Int),.int .i64 (m_:Int),.int .i64 (b_:Int),.func (.func f) #[] bd,x5,x6,x7,x8,x9,.int .i64 (i_:Int),x11,x12,.int .i64 (k_:Int),x14,x15,x16,x17,x18,x19,x20,x21,x22,x23,x24,x25,x26,x27,x28,x29,x30,x31,x32,x33,x34,x35,x36,x37,x38,x39,x40,x41,x42,x43,x44,x45,x46,x47,x48,x49,x50,x51,x52,x53,x54,x55,x56,x57,x58,x59,x60,s61,s62,s63,s64,s65,s66,s67,s68,s69,s70,s71,s72,s73,s74,s75,s76,x77,x78,x79,x80,x81,x82,x83,x84,x85,x86,x87,x88,x89,x90,x91,x92,x93,x94,x95,x96,x97,x98,x99,x100,x101,x102,x103,x104,x105,x106,x107,x108,x109,x110,x111,x112,x113,x114,x115,x116,x117,x118,x119,x120,x121,x122,x123,x124,x125,x126,x127,x128,x129,x130,x131,x132,x133,x134,x135,x136,x137,x138,x139,x140,x141,x142,x143,x144,x145,x146,x147,x148,x149,x150,x151,x152,x153,x154,x155,x156,x157,x158,x159,x160,x161,x162,x163,x164,x165,x166,x167,x168,x169,x170,x171,x172,x173,x174,x175,x176,x177,x178,x179,x180,x181,x182,x183,x184,x185,x186,x187,x188,x189,x190,x191,x192,x193,x194,x195,x196,x197,x198,x199,x200,x201,x202,x203,x204,x205,x206,x207,x208,x209,x210,x211,x212,x213,x214,x215,x216,x217,x218,x219],defers:=[]}∧YUV V w0 g sp D ad N c f bd a_ m_ b_ i_ k_ kp_ x y  L W s61 s62 s63 s64 s65 s66 s67 s68 s69 s70 s71 s72 s73 s74 s75 s76
theorem Ast(V:Lot→Prop)(cf:Lot→Lot→Int)(lt:Lot→Lot→Bool)(hw:Weak lt)(w0:World)(g N c a m b f:Nat)(bd:Array Value)(hlt:∀x y,V x→V y→decide (cf x y<0)=lt x y)(hC:CmpS V cf f bd w0 g)(sp:List Value)(P L R Q:List Lot)(hN:(P++(L++(R++Q))).length=N)(hm:N≤1000000)(ha:P.length=a)(hl:a+L.length=m)(hr:m+R.length=b)(h0:a<m)(h1:m<b)(hL:AscS lt L)(hR:AscS lt R)(h1L:a+1=m)(w:World)(hrow:SRow V w0 g sp (P++(L++(R++Q))) w):
 Calls Tryz.prog 151 #[.slice (some ⟨g,0,none⟩) N c,.int .i64 (a:Int),.int .i64 (m:Int),.int .i64 (b:Int),.func (.func f) #[] bd] w fun e w'=>e=.returned (.tuple #[])∧SRow V w0 g sp (P++(mrg lt L R++Q)) w':=by
 obtain⟨ad,had⟩:∃ad:Addr,ad=⟨g,0,none⟩:=⟨_,rfl⟩
 rw[←had]
 have hbN:b≤N:=by rw[←hN];simp;omega
 obtain⟨D0,hD0⟩:∃D,D=P++(L++(R++Q)):=⟨_,rfl⟩
 rw[←hD0] at hrow hN
 have HAD:=hI had
 have HROW:=hI hrow
 have HNN:=hI hN
 have HLT:=hI hlt
 have HC:=hI hC
 obtain⟨x0,hx0⟩:∃x,L=[x]:=by
  cases L with
  | nil=>simp at hl;omega
  | cons x r=>cases r with
    | nil=>exact⟨x,rfl⟩
    | cons y r=>simp at hl;omega
 subst hx0
 have HEND:Hid (∀i,BSt (fun h=>ltAt lt D0 h a) m b i i→∃r1 r2,mrg lt [x0] R=r1++x0::r2∧m+r1.length=i∧Sh P r1 x0 (r2++Q) a D0 (fun _=>True)):=fun i hs=>by
  obtain⟨r1,r2,_,e2,e3,e4⟩:=Adz lt hw hD0 ha h1L hr hR hs
  exact⟨r1,r2,e2,e3,e4⟩
 have HPL:Hid (P.length=a):=ha
 have hw0:IntKind.i64.wrap ((m:Int)-(a:Int))=1:=by rw[Aay];omega
 clear had hrow hN hlt hC hw hD0 hL hR hl hr ha
 go_enter Tryz.func151,Tryz.ntmps151
 go_wp2_with fail
 go_loopw [10,11,12] (fun v10 v11 _ wr=>∃(i j:Nat),v10=.int .i64 (i:Int)∧v11=.int .i64 (j:Int)∧BSt (fun h=>ltAt lt D0 h a) m b i j∧SRow V w0 g sp D0 wr) (fun v10 v11 _ _=>(intOf v11).toNat-(intOf v10).toNat)
 case atStart=>exact⟨m,b,rfl,rfl,BSt.start (by omega),HROW.out⟩
 case round =>
  clear hw0
  obtain⟨i,j,rfl,rfl,hbs,hrow⟩:=hrel
  have hbl:=hbs.l
  have hbr:=hbs.r
  have hbm:=hbs.m
  have HBS:=hI hbs
  have HR:=hI hrow
  clear hbs hrow
  rcases Aam i j with hij|hij
  ·have hcx:decide ((i:Int)<(j:Int))=true:=Aa3 (by omega)
   obtain⟨h,hh⟩:∃h,h=(i+j) / 2:=⟨_,rfl⟩
   have hih:i≤h:=by omega
   have hhj:h<j:=by omega
   have hw1:IntKind.i64.wrap ((i:Int)+(j:Int))=((i+j:Nat):Int):=by rw[Aay];omega
   have hz2:((i:Int)+(j:Int)) / 2=(h:Int):=by omega
   have hwh:IntKind.i64.wrap ((h:Int)+1)=((h+1:Nat):Int):=by rw[Aay];omega
   obtain⟨x,hx⟩:∃x,D0[h]?=some x:=⟨_,Aae (by have:=HNN.out;omega)⟩
   obtain⟨y,hy⟩:∃y,D0[a]?=some y:=⟨_,Aae (by have:=HNN.out;omega)⟩
   have HX:Hid (D0[h]?=some x):=hx
   have HY:Hid (D0[a]?=some y):=hy
   have HVX:Hid (V x):=HR.out.ok x (Aas hx)
   have HVY:Hid (V y):=HR.out.ok y (Aas hy)
   have HL_h:Hid ((h:Int)<(N:Int)):=by show (h:Int)<_;omega
   have HL_a:Hid ((a:Int)<(N:Int)):=by show (a:Int)<_;omega
   obtain⟨zc,hzc⟩:∃zc,cf x y=zc:=⟨_,rfl⟩
   obtain⟨t,ht⟩:∃t,lt x y=t:=⟨_,rfl⟩
   have hzt:=HLT.out x y HVX.out HVY.out
   rw[ht,hzc] at hzt
   have HZT:=hI hzt
   have hcr:=fun W (h:SRow V w0 g sp D0 W)=>HC.out.at HVX.out HVY.out W h
   rw[hzc] at hcr
   have HCR:=hI hcr
   have HAT:Hid (ltAt lt D0 h a=t):=by rw[Hid,Adq lt hx hy,ht]
   have hrow0:=HR.out.drew
   clear hx hy hzc ht hzt hcr
   clear hh
   go_upto_region 5 with fail
   have mixed:Tryz.prog.follows .mixedOrders=true:=by kernel_rfl
   refine wp_region_any mixed (Akw (YLJ V w0 g sp D0 ad N c f bd a m b i j h x y zc t _ _ _ _ _ _ _ _ _ _ _ _ _ _ _ _ _ _ _ _ _ _ _ _ _ _ _ _ _ _ _ _ _ _ _ _ _ _ _ _ _ _ _ _ _ _ _ _ _ _ _ _ _ _ _ _ _ _ _ _ _ _ _ _ _ _ _ _ _ _ _ _ _ _ _ _ _ _ _ _ _ _ _ _ _ _ _ _ _ _ _ _ _ _ _ _ _ _ _ _ _ _ _ _ _ _ _ _ _ _ _ _ _ _ _ _ _ _ _ _ _ _ _ _ _ _ _ _ _ _ _ _ _ _ _ _ _ _ _ _ _ _ _ _ _ _ _ _ _ _ _ _ _ _ _ _ _ _ _ _ _ _ _ _ _ _ _ _ _ _ _ _ _ _ _ _ _ _ _ _ _ _ _ _ _ _ _ _ _ _ _ _ _ _ _ _ _ _ _ _ _) ?stYL ?dnYL _ _ _ _ ⟨by simp,⟨_,_,_,_,_,_,_,_,_,_,_,rfl,fun h=>by simp at h,fun h=>by simp at h,fun h=>by simp at h,fun h=>by simp at h,fun h=>by simp at h,fun h=>by simp at h,fun h=>by simp at h,fun h=>by simp at h,fun h=>by simp at h,fun h=>by simp at h,fun h=>by simp at h,hrow0⟩⟩ (by decide))
   case dnYL =>
    intro L a w' hj hr
    have all:=Akv hr hj.sz (by kernel_rfl)
    obtain⟨s40,s41,s42,s43,s44,s45,s46,s47,s48,s49,s50,rfl,hv⟩:=hj.fr
    have e10:=hv.k10 (all 10 (by omega))
    subst e10
    have HR1:=hI hv.r
    clear all hv hj hr
    cases t
    case false =>
     go_wp2_with fail
     go_roundw
     case rel=>exact⟨i,h,rfl,rfl,HBS.out.no hih hhj HAT.out,HR1.out⟩
     case measure=>simp[intOf];omega
    case true =>
     go_wp2_with fail
     go_roundw
     case rel=>exact⟨h+1,j,by go_num,rfl,HBS.out.yes hih hhj HAT.out,HR1.out⟩
     case measure=>simp[intOf];omega
   case stYL =>
    intro L a w' hj i hi
    obtain⟨hun,o,ho,hall⟩:=mem_ready.1 hi
    have hoff:=Akk hun
    have hlt:=(Aab.1 ho).1
    simp at hlt
    obtain⟨s40,s41,s42,s43,s44,s45,s46,s47,s48,s49,s50,rfl,hv⟩:=hj.fr
    have HV:=hI hv
    have HJ:=hI hj
    clear hv hj
    rcases (show i=0∨i=1∨i=2∨i=3∨i=4∨i=5∨i=6∨i=7∨i=8∨i=9∨i=10 from by omega) with rfl|rfl|rfl|rfl|rfl|rfl|rfl|rfl|rfl|rfl|rfl
    all_goals simp at ho
    all_goals subst ho
    rotate_left
    rotate_left
    rotate_left
    cases HV.out.k1 (Hq hall 1).out
    cases HV.out.k2 (Hq hall 2).out
    have h0:=HL_h.out
    rotate_left
    cases HV.out.k3 (Hq hall 3).out
    obtain⟨c0,c1,c2,c3,c4,c5,c6⟩:=HV.out.r.at' HAD.out HX.out
    rotate_left
    rotate_left
    rotate_left
    cases HV.out.k5 (Hq hall 5).out
    cases HV.out.k6 (Hq hall 6).out
    have h0:=HL_a.out
    rotate_left
    cases HV.out.k7 (Hq hall 7).out
    obtain⟨c0,c1,c2,c3,c4,c5,c6⟩:=HV.out.r.at' HAD.out HY.out
    rotate_left
    ·cases HV.out.k0 (Hq hall 0).out
     cases HV.out.k4 (Hq hall 4).out
     cases HV.out.k8 (Hq hall 8).out
     clear hall hi
     have hen:=HC.out.en
     refine Akt rfl fun K' HK=>?_
     go_simp
     refine (HCR.out w' HV.out.r).mono ?_
     rintro e wn ⟨rfl,bn⟩
     cases HV.out
     refine HK.out _ _ ⟨by simp[HJ.out.sz],⟨_,_,_,_,_,_,_,_,_,_,_,rfl,?_,?_,?_,?_,?_,?_,?_,?_,?_,fun _=>rfl,?_,HV.out.r.below bn⟩⟩
     all_goals exact Um (by assumption)
    cases HV.out.k9 (Hq hall 9).out
    have hzt:=HZT.out
    rotate_left
    all_goals
     clear hall hi
     refine Akt rfl fun K' HK=>?_
     go_simp
     cases HV.out
     refine HK.out _ _ ⟨by simp[HJ.out.sz],?_⟩
     iterate 11 apply Exists.intro
     refine⟨rfl,?_⟩
     constructor
     all_goals first|exact Um (by assumption)|exact Un (by assumption)|exact Uf (by assumption)|exact fun _=>rfl|assumption
  ·have hcx:decide ((i:Int)<(j:Int))=false:=Aa4 (by omega)
   obtain rfl:i=j:=by omega
   obtain⟨r1,r2,e1,e2,hsh⟩:=HEND.out i HBS.out
   obtain⟨i1,hi1⟩:∃k,k+1=i:=⟨i-1,by omega⟩
   have hw1:IntKind.i64.wrap ((i:Int)-1)=(i1:Int):=by rw[Aay];omega
   have HSH:=hI hsh
   have HE1:=hI e1
   have HTOP:Hid (P.length+r1.length=i1):=by rw[Hid,HPL.out];omega
   have HI1:=hI hi1
   have hai1:a≤i1:=by omega
   have hi1N:i1<N:=by omega
   clear e1 e2 hsh hi1
   go_wp2_with fail
   go_loopw [13] (fun v wr=>∃(k:Nat) (D:List Lot),v=.int .i64 (k:Int)∧a≤k∧k≤i1∧D.length=N∧Sh P r1 x0 (r2++Q) k D (fun _=>True)∧SRow V w0 g sp D wr) (fun v _=>i1-(intOf v).toNat)
   case atStart=>exact⟨a,D0,rfl,Aad _,hai1,HNN.out,HSH.out,HR.out⟩
   case round =>
    clear HR HSH HBS
    obtain⟨k,D,rfl,hak,hki,hlen,hsh,hrow⟩:=hrel
    have HR:=hI hrow
    have HSH:=hI hsh
    have HLEN:=hI hlen
    rcases Aam k i1 with hlt|hge
    ·have hcx:decide ((k:Int)<(i1:Int))=true:=Aa3 (by omega)
     obtain⟨kp,hkp⟩:∃kp,kp=k+1:=⟨_,rfl⟩
     have HKP:=hI hkp
     have HW_kp:Hid (IntKind.i64.wrap ((k:Int)+1)=(kp:Int)):=by rw[Hid,Aay];omega
     obtain⟨x,hx⟩:∃x,D[k]?=some x:=⟨_,Aae (by omega)⟩
     obtain⟨y,hy⟩:∃y,D[kp]?=some y:=⟨_,Aae (by omega)⟩
     have HX:Hid (D[k]?=some x):=hx
     have HY:Hid (D[kp]?=some y):=hy
     have HYV:Hid ((D.set k y)[kp]?=some y):=by rw[Hid,List.getElem?_set_ne (by omega)];exact hy
     have HVX:Hid (V x):=HR.out.ok x (Aas hx)
     have HVY:Hid (V y):=HR.out.ok y (Aas hy)
     have HL_k:Hid ((k:Int)<(N:Int)):=by show (k:Int)<_;omega
     have HL_kp:Hid ((kp:Int)<(N:Int)):=by show (kp:Int)<_;omega
     have HSTEP:Hid (Sh P r1 x0 (r2++Q) kp (swp D k kp) (fun _=>True)):=by
      have h:=HSH.out.up (by rw[HTOP.out];exact hlt)
      rw[←hkp] at h;exact h
     have hrow0:=HR.out.drew
     clear hx hy hlen hsh hrow hkp
     go_upto_region 11 with fail
     have mixed:Tryz.prog.follows .mixedOrders=true:=by kernel_rfl
     refine wp_region_any mixed (Akw (YUJ V w0 g sp D ad N c f bd a m b i k kp x y _ _ _ _ _ _ _ _ _ _ _ _ _ _ _ _ _ _ _ _ _ _ _ _ _ _ _ _ _ _ _ _ _ _ _ _ _ _ _ _ _ _ _ _ _ _ _ _ _ _ _ _ _ _ _ _ _ _ _ _ _ _ _ _ _ _ _ _ _ _ _ _ _ _ _ _ _ _ _ _ _ _ _ _ _ _ _ _ _ _ _ _ _ _ _ _ _ _ _ _ _ _ _ _ _ _ _ _ _ _ _ _ _ _ _ _ _ _ _ _ _ _ _ _ _ _ _ _ _ _ _ _ _ _ _ _ _ _ _ _ _ _ _ _ _ _ _ _ _ _ _ _ _ _ _ _ _ _ _ _ _ _ _ _ _ _ _ _ _ _ _ _ _ _ _ _ _ _ _ _ _ _ _ _ _ _ _ _ _ _ _ _ _ _ _ _ _) ?stYU ?dnYU _ _ _ _ ⟨by simp,⟨_,_,_,_,_,_,_,_,_,_,_,_,_,_,_,_,rfl,fun h=>by simp at h,fun h=>by simp at h,fun h=>by simp at h,fun h=>by simp at h,fun h=>by simp at h,fun h=>by simp at h,fun h=>by simp at h,fun h=>by simp at h,fun h=>by simp at h,fun h=>by simp at h,fun h=>by simp at h,fun h=>by simp at h,fun h=>by simp at h,fun h=>by simp at h,fun h=>by simp at h,fun h=>by simp at h,fun _=>hrow0,fun h=>by simp at h,fun h=>by simp at h,fun h=>by simp at h,fun h=>by simp at h⟩⟩ (by decide))
     case dnYU =>
      intro L a w' hj hr
      have all:=Akv hr hj.sz (by kernel_rfl)
      obtain⟨s61,s62,s63,s64,s65,s66,s67,s68,s69,s70,s71,s72,s73,s74,s75,s76,rfl,hv⟩:=hj.fr
      have HRW:=hI (hv.r2 (all 17 (by omega)))
      clear all hv hj hr
      have hwr:=HW_kp.out
      go_wp2_with fail
      go_roundw
      case rel=>exact⟨kp,_,rfl,by have:=HKP.out;omega,by have:=HKP.out;omega,by rw[List.length_set,List.length_set];exact HLEN.out,by have h:=HSTEP.out;rw[Adh HX.out HY.out] at h;exact h,HRW.out⟩
      case measure=>have:=HKP.out;simp[intOf];omega
     case stYU =>
      intro L a w' hj i hi
      obtain⟨hun,o,ho,hall⟩:=mem_ready.1 hi
      have hoff:=Akk hun
      have hlt:=(Aab.1 ho).1
      simp at hlt
      obtain⟨s61,s62,s63,s64,s65,s66,s67,s68,s69,s70,s71,s72,s73,s74,s75,s76,rfl,hv⟩:=hj.fr
      have HV:=hI hv
      have HJ:=hI hj
      clear hv hj
      rcases (show i=0∨i=1∨i=2∨i=3∨i=4∨i=5∨i=6∨i=7∨i=8∨i=9∨i=10∨i=11∨i=12∨i=13∨i=14∨i=15∨i=16∨i=17 from by omega) with rfl|rfl|rfl|rfl|rfl|rfl|rfl|rfl|rfl|rfl|rfl|rfl|rfl|rfl|rfl|rfl|rfl|rfl
      all_goals simp at ho
      all_goals subst ho
      rotate_left
      rotate_left
      rotate_left
      rotate_left
      cases HV.out.k3 (Hq hall 3).out
      have h0:=HW_kp.out
      rotate_left
      rotate_left
      rotate_left
      cases HV.out.k6 (Hq hall 6).out
      have h0:=HW_kp.out
      rotate_left
      cases HV.out.k5 (Hq hall 5).out
      cases HV.out.k7 (Hq hall 7).out
      have h0:=HL_kp.out
      rotate_left
      cases HV.out.k8 (Hq hall 8).out
      have ho:L.getD 15 false=false:=by rcases Akr L 15 with h|h;exact h;exact (Akq hoff (HV.out.q1 h).2).elim
      obtain⟨c0,c1,c2,c3,c4,c5,c6⟩:=(HV.out.r0 ho).at' HAD.out HY.out
      rotate_left
      rotate_left
      rotate_left
      cases HV.out.k10 (Hq hall 10).out
      cases HV.out.k11 (Hq hall 11).out
      have h0:=HL_k.out
      rotate_left
      cases HV.out.k12 (Hq hall 12).out
      have ho:L.getD 15 false=false:=by rcases Akr L 15 with h|h;exact h;exact (Akq hoff (HV.out.q1 h).1).elim
      obtain⟨c0,c1,c2,c3,c4,c5,c6⟩:=(HV.out.r0 ho).at' HAD.out HX.out
      rotate_left
      cases HV.out.k0 (Hq hall 0).out
      cases HV.out.k1 (Hq hall 1).out
      have h0:=HL_k.out
      rotate_left
      ·have H9:=Hq hall 9
       have H13:=Hq hall 13
       cases HV.out.k14 (Hq hall 14).out
       cases HV.out.k9 (Hq hall 9).out
       clear hall hi
       have ho2:L.getD 17 false=false:=by rcases Akr L 17 with h|h;exact h;exact (Akq hoff (HV.out.q2 h)).elim
       obtain⟨wn,hrun,hrow⟩:=(HV.out.r0 hoff).st HAD.out HX.out HVY.out
       refine Akt rfl fun K' HK=>?_
       refine Ar7 hrun rfl _ _ rfl rfl rfl ?_
       go_simp
       cases HV.out
       refine HK.out _ _ ⟨by simp[HJ.out.sz],⟨_,_,_,_,_,_,_,_,_,_,_,_,_,_,_,_,rfl,?_,?_,?_,?_,?_,?_,?_,?_,?_,?_,?_,?_,?_,?_,?_,?_,fun h=>(Akq h (Aki hun)).elim,fun _ _=>hrow,fun h=>(Akq hoff (HV.out.q2 (Uz h))).elim,fun _=>⟨Akm hun H13.out,Akm hun H9.out⟩,fun h=>(Akq hoff (HV.out.q2 (Uz h))).elim⟩⟩
       all_goals exact Um (by assumption)
      cases HV.out.k2 (Hq hall 2).out
      cases HV.out.k4 (Hq hall 4).out
      have h0:=HL_kp.out
      rotate_left
      ·have H15:=Hq hall 15
       cases HV.out.k16 (Hq hall 16).out
       cases HV.out.k13 (Hq hall 13).out
       clear hall hi
       obtain⟨wn,hrun,hrow⟩:=(HV.out.r1 H15.out hoff).st HAD.out HYV.out HVX.out
       refine Akt rfl fun K' HK=>?_
       refine Ar7 hrun rfl _ _ rfl rfl rfl ?_
       go_simp
       cases HV.out
       refine HK.out _ _ ⟨by simp[HJ.out.sz],⟨_,_,_,_,_,_,_,_,_,_,_,_,_,_,_,_,rfl,?_,?_,?_,?_,?_,?_,?_,?_,?_,?_,?_,?_,?_,?_,?_,?_,fun h=>(Akq (Dz h) H15.out).elim,fun _ h=>(Akq h (Aki hun)).elim,fun _=>hrow,fun h=>⟨Akm hun (HV.out.q1 (Uz h)).1,Akm hun (HV.out.q1 (Uz h)).2⟩,fun _=>Akm hun H15.out⟩⟩
       all_goals exact Um (by assumption)
      all_goals
       clear hall hi
       refine Akt rfl fun K' HK=>?_
       go_simp
       cases HV.out
       refine HK.out _ _ ⟨by simp[HJ.out.sz],?_⟩
       iterate 16 apply Exists.intro
       refine⟨rfl,?_⟩
       constructor
       all_goals first|exact Um (by assumption)|exact Un (by assumption)|exact Uf (by assumption)|exact fun _=>rfl|assumption|exact Uq hun (by assumption)|exact Uq2 hun (by assumption)|exact Uq3 hun (by assumption)
    ·have hcx:decide ((k:Int)<(i1:Int))=false:=Aa4 (by omega)
     have HF:Hid (SRow V w0 g sp (P++(mrg lt [x0] R++Q)) wr):=HR.out.same (by rw[HE1.out,HSH.out.top (by have:=HTOP.out;omega)];simp)
     clear hsh hrow hlen
     go_wp2_with fail
     refine bodyPost_ret (results_none rfl _ _ _) rfl ?_
     exact⟨rfl,HF.out⟩
structure YRV(V:Lot→Prop)(w0:World)(g:Nat)(sp:List Value)(D:List Lot)(ad:Addr)(N c:Nat)(f:Nat)(bd:Array Value)(a_ m_ b_ i_ j_ h_:Nat)(x y:Lot)(zc:Int)(t:Bool)  (L:Array Bool) (W:World) (s92 s93 s94 s95 s96 s97 s98 s99 s100 s101 s102 s103:Value):Prop where
 k0:L.getD 0 false=true→s92=.func (.func f) #[] bd
 k1:L.getD 1 false=true→s93=.slice (some ad) N c
 k2:L.getD 2 false=true→s94=.int .i64 (m_:Int)
 k3:L.getD 3 false=true→s95=.pointer (some (ad.add (m_*7)))
 k4:L.getD 4 false=true→s96=.agg #[.string x.id,.string x.inst,.int .i64 x.acq,.int .i64 x.opn,.string x.qty,.string x.cost,.string x.used]
 k5:L.getD 5 false=true→s97=.slice (some ad) N c
 k6:L.getD 6 false=true→s98=.int .i64 (h_:Int)
 k7:L.getD 7 false=true→s99=.pointer (some (ad.add (h_*7)))
 k8:L.getD 8 false=true→s100=.agg #[.string y.id,.string y.inst,.int .i64 y.acq,.int .i64 y.opn,.string y.qty,.string y.cost,.string y.used]
 k9:L.getD 9 false=true→s101=.int .i64 zc
 k10:L.getD 10 false=true→s102=.bool t
 k11:L.getD 11 false=true→s103=.bool (!t)
 r:SRow V w0 g sp D W
structure YRJ(V:Lot→Prop)(w0:World)(g:Nat)(sp:List Value)(D:List Lot)(ad:Addr)(N c:Nat)(f:Nat)(bd:Array Value)(a_ m_ b_ i_ j_ h_:Nat)(x y:Lot)(zc:Int)(t:Bool)(x5 x6 x7 x8 x9 x10 x11 x12 x13 x17 x18 x19 x20 x21 x22 x23 x24 x25 x26 x27 x28 x29 x30 x31 x32 x33 x34 x35 x36 x37 x38 x39 x40 x41 x42 x43 x44 x45 x46 x47 x48 x49 x50 x51 x52 x53 x54 x55 x56 x57 x58 x59 x60 x61 x62 x63 x64 x65 x66 x67 x68 x69 x70 x71 x72 x73 x74 x75 x76 x77 x78 x79 x80 x81 x82 x83 x84 x85 x86 x87 x88 x89 x90 x91 x104 x105 x106 x107 x108 x109 x110 x111 x112 x113 x114 x115 x116 x117 x118 x119 x120 x121 x122 x123 x124 x125 x126 x127 x128 x129 x130 x131 x132 x133 x134 x135 x136 x137 x138 x139 x140 x141 x142 x143 x144 x145 x146 x147 x148 x149 x150 x151 x152 x153 x154 x155 x156 x157 x158 x159 x160 x161 x162 x163 x164 x165 x166 x167 x168 x169 x170 x171 x172 x173 x174 x175 x176 x177 x178 x179 x180 x181 x182 x183 x184 x185 x186 x187 x188 x189 x190 x191 x192 x193 x194 x195 x196 x197 x198 x199 x200 x201 x202 x203 x204 x205 x206 x207 x208 x209 x210 x211 x212 x213 x214 x215 x216 x217 x218 x219:Value)(L:Array Bool)(a:Act)(W:World):Prop where
 sz:L.size=12
 fr:∃s92 s93 s94 s95 s96 s97 s98 s99 s100 s101 s102 s103:Value,a={tmps:=#[.slice (some ad) N c,.int .i64 (a_:Int),.int .i64 (m_:Int),.int .i64 (b_:Int),.func (.func f) #[] bd,x5,x6,x7,x8,x9,x10,x11,x12,x13,.int .i64 (i_:Int),.int .i64 (j_:Int),.int .i64 (h_:Int),x17,x18,x19,x20,x21,x22,x23,x24,x25,x26,x27,x28,x29,x30,x31,x32,x33,x34,x35,x36,x37,x38,x39,x40,x41,x42,x43,x44,x45,x46,x47,x48,x49,x50,x51,x52,x53,x54,x55,x56,x57,x58,x59,x60,x61,x62,x63,x64,x65,x66,x67,x68,x69,x70,x71,x72,x73,x74,x75,x76,x77,x78,x79,x80,x81,x82,x83,x84,x85,x86,x87,x88,x89,x90,x91,s92,s93,s94,s95,s96,s97,s98,s99,s100,s101,s102,s103,x104,x105,x106,x107,x108,x109,x110,x111,x112,x113,x114,x115,x116,x117,x118,x119,x120,x121,x122,x123,x124,x125,x126,x127,x128,x129,x130,x131,x132,x133,x134,x135,x136,x137,x138,x139,x140,x141,x142,x143,x144,x145,x146,x147,x148,x149,x150,x151,x152,x153,x154,x155,x156,x157,x158,x159,x160,x161,x162,x163,x164,x165,x166,x167,x168,x169,x170,x171,x172,x173,x174,x175,x176,x177,x178,x179,x180,x181,x182,x183,x184,x185,x186,x187,x188,x189,x190,x191,x192,x193,x194,x195,x196,x197,x198,x199,x200,x201,x202,x203,x204,x205,x206,x207,x208,x209,x210,x211,x212,x213,x214,x215,x216,x217,x218,x219],defers:=[]}∧YRV V w0 g sp D ad N c f bd a_ m_ b_ i_ j_ h_ x y zc t  L W s92 s93 s94 s95 s96 s97 s98 s99 s100 s101 s102 s103
structure YDV(V:Lot→Prop)(w0:World)(g:Nat)(sp:List Value)(D:List Lot)(ad:Addr)(N c:Nat)(f:Nat)(bd:Array Value)(a_ m_ b_ i_ k_ kp_:Nat)(x y:Lot)  (L:Array Bool) (W:World) (s113 s114 s115 s116 s117 s118 s119 s120 s121 s122 s123 s124 s125 s126 s127 s128:Value):Prop where
 k0:L.getD 0 false=true→s113=.slice (some ad) N c
 k1:L.getD 1 false=true→s114=.int .i64 (k_:Int)
 k2:L.getD 2 false=true→s115=.slice (some ad) N c
 k3:L.getD 3 false=true→s116=.int .i64 (k_:Int)
 k4:L.getD 4 false=true→s117=.int .i64 (kp_:Int)
 k5:L.getD 5 false=true→s118=.slice (some ad) N c
 k6:L.getD 6 false=true→s119=.int .i64 (k_:Int)
 k7:L.getD 7 false=true→s120=.int .i64 (kp_:Int)
 k8:L.getD 8 false=true→s121=.pointer (some (ad.add (kp_*7)))
 k9:L.getD 9 false=true→s122=.agg #[.string y.id,.string y.inst,.int .i64 y.acq,.int .i64 y.opn,.string y.qty,.string y.cost,.string y.used]
 k10:L.getD 10 false=true→s123=.slice (some ad) N c
 k11:L.getD 11 false=true→s124=.int .i64 (k_:Int)
 k12:L.getD 12 false=true→s125=.pointer (some (ad.add (k_*7)))
 k13:L.getD 13 false=true→s126=.agg #[.string x.id,.string x.inst,.int .i64 x.acq,.int .i64 x.opn,.string x.qty,.string x.cost,.string x.used]
 k14:L.getD 14 false=true→s127=.pointer (some (ad.add (k_*7)))
 k16:L.getD 16 false=true→s128=.pointer (some (ad.add (kp_*7)))
 r0:L.getD 15 false=false→SRow V w0 g sp D W
 r1:L.getD 15 false=true→L.getD 17 false=false→SRow V w0 g sp (D.set k_ y) W
 r2:L.getD 17 false=true→SRow V w0 g sp ((D.set k_ y).set kp_ x) W
 q1:L.getD 15 false=true→L.getD 13 false=true∧L.getD 9 false=true
 q2:L.getD 17 false=true→L.getD 15 false=true
structure YDJ(V:Lot→Prop)(w0:World)(g:Nat)(sp:List Value)(D:List Lot)(ad:Addr)(N c:Nat)(f:Nat)(bd:Array Value)(a_ m_ b_ i_ k_ kp_:Nat)(x y:Lot)(x5 x6 x7 x8 x9 x10 x11 x12 x13 x15 x16 x18 x19 x20 x21 x22 x23 x24 x25 x26 x27 x28 x29 x30 x31 x32 x33 x34 x35 x36 x37 x38 x39 x40 x41 x42 x43 x44 x45 x46 x47 x48 x49 x50 x51 x52 x53 x54 x55 x56 x57 x58 x59 x60 x61 x62 x63 x64 x65 x66 x67 x68 x69 x70 x71 x72 x73 x74 x75 x76 x77 x78 x79 x80 x81 x82 x83 x84 x85 x86 x87 x88 x89 x90 x91 x92 x93 x94 x95 x96 x97 x98 x99 x100 x101 x102 x103 x104 x105 x106 x107 x108 x109 x110 x111 x112 x129 x130 x131 x132 x133 x134 x135 x136 x137 x138 x139 x140 x141 x142 x143 x144 x145 x146 x147 x148 x149 x150 x151 x152 x153 x154 x155 x156 x157 x158 x159 x160 x161 x162 x163 x164 x165 x166 x167 x168 x169 x170 x171 x172 x173 x174 x175 x176 x177 x178 x179 x180 x181 x182 x183 x184 x185 x186 x187 x188 x189 x190 x191 x192 x193 x194 x195 x196 x197 x198 x199 x200 x201 x202 x203 x204 x205 x206 x207 x208 x209 x210 x211 x212 x213 x214 x215 x216 x217 x218 x219:Value)(L:Array Bool)(a:Act)(W:World):Prop where
 sz:L.size=18
 fr:∃s113 s114 s115 s116 s117 s118 s119 s120 s121 s122 s123 s124 s125 s126 s127 s128:Value,a={tmps:=#[.slice (some ad) N c,.int .i64 (a_:Int),.int .i64 (m_:Int),.int .i64 (b_:Int),.func (.func f) #[] bd,x5,x6,x7,x8,x9,x10,x11,x12,x13,.int .i64 (i_:Int),x15,x16,.int .i64 (k_:Int),x18,x19,x20,x21,x22,x23,x24,x25,x26,x27,x28,x29,x30,x31,x32,x33,x34,x35,x36,x37,x38,x39,x40,x41,x42,x43,x44,x45,x46,x47,x48,x49,x50,x51,x52,x53,x54,x55,x56,x57,x58,x59,x60,x61,x62,x63,x64,x65,x66,x67,x68,x69,x70,x71,x72,x73,x74,x75,x76,x77,x78,x79,x80,x81,x82,x83,x84,x85,x86,x87,x88,x89,x90,x91,x92,x93,x94,x95,x96,x97,x98,x99,x100,x101,x102,x103,x104,x105,x106,x107,x108,x109,x110,x111,x112,s113,s114,s115,s116,s117,s118,s119,s120,s121,s122,s123,s124,s125,s126,s127,s128,x129,x130,x131,x132,x133,x134,x135,x136,x137,x138,x139,x140,x141,x142,x143,x144,x145,x146,x147,x148,x149,x150,x151,x152,x153,x154,x155,x156,x157,x158,x159,x160,x161,x162,x163,x164,x165,x166,x167,x168,x169,x170,x171,x172,x173,x174,x175,x176,x177,x178,x179,x180,x181,x182,x183,x184,x185,x186,x187,x188,x189,x190,x191,x192,x193,x194,x195,x196,x197,x198,x199,x200,x201,x202,x203,x204,x205,x206,x207,x208,x209,x210,x211,x212,x213,x214,x215,x216,x217,x218,x219],defers:=[]}∧YDV V w0 g sp D ad N c f bd a_ m_ b_ i_ k_ kp_ x y  L W s113 s114 s115 s116 s117 s118 s119 s120 s121 s122 s123 s124 s125 s126 s127 s128
theorem Asu(V:Lot→Prop)(cf:Lot→Lot→Int)(lt:Lot→Lot→Bool)(hw:Weak lt)(w0:World)(g N c a m b f:Nat)(bd:Array Value)(hlt:∀x y,V x→V y→decide (cf x y<0)=lt x y)(hC:CmpS V cf f bd w0 g)(sp:List Value)(P L R Q:List Lot)(hN:(P++(L++(R++Q))).length=N)(hm:N≤1000000)(ha:P.length=a)(hl:a+L.length=m)(hr:m+R.length=b)(h0:a<m)(h1:m<b)(hL:AscS lt L)(hR:AscS lt R)(hnL:a+1≠m)(h1R:m+1=b)(w:World)(hrow:SRow V w0 g sp (P++(L++(R++Q))) w):
 Calls Tryz.prog 151 #[.slice (some ⟨g,0,none⟩) N c,.int .i64 (a:Int),.int .i64 (m:Int),.int .i64 (b:Int),.func (.func f) #[] bd] w fun e w'=>e=.returned (.tuple #[])∧SRow V w0 g sp (P++(mrg lt L R++Q)) w':=by
 obtain⟨ad,had⟩:∃ad:Addr,ad=⟨g,0,none⟩:=⟨_,rfl⟩
 rw[←had]
 have hbN:b≤N:=by rw[←hN];simp;omega
 obtain⟨D0,hD0⟩:∃D,D=P++(L++(R++Q)):=⟨_,rfl⟩
 rw[←hD0] at hrow hN
 have HAD:=hI had
 have HROW:=hI hrow
 have HNN:=hI hN
 have HLT:=hI hlt
 have HC:=hI hC
 obtain⟨x0,hx0⟩:∃x,R=[x]:=by
  cases R with
  | nil=>simp at hr;omega
  | cons x r=>cases r with
    | nil=>exact⟨x,rfl⟩
    | cons y r=>simp at hr;omega
 subst hx0
 have HEND:Hid (∀i,BSt (fun h=>!ltAt lt D0 m h) a m i i→∃l1 l2,mrg lt L [x0]=l1++x0::l2∧a+l1.length=i∧Sh (P++l1) l2 x0 Q m D0 (fun _=>True)):=fun i hs=>by
  obtain⟨r1,r2,_,e2,e3,e4⟩:=Ad0 lt hw hD0 ha hl hL hs
  exact⟨r1,r2,e2,e3,e4⟩
 have HPL:Hid (P.length=a):=ha
 obtain⟨la,hla⟩:∃k,k+a=m:=⟨m-a,by omega⟩
 have hw0:IntKind.i64.wrap ((m:Int)-(a:Int))=(la:Int):=by rw[Aay];omega
 have hq0:((la:Int)==1)=false:=Aaj.2 (by omega)
 have hw00:IntKind.i64.wrap ((b:Int)-(m:Int))=1:=by rw[Aay];omega
 clear had hrow hN hlt hC hw hD0 hL hR hl hr ha hla
 go_enter Tryz.func151,Tryz.ntmps151
 go_wp2_with fail
 go_loopw [14,15,16] (fun v10 v11 _ wr=>∃(i j:Nat),v10=.int .i64 (i:Int)∧v11=.int .i64 (j:Int)∧BSt (fun h=>!ltAt lt D0 m h) a m i j∧SRow V w0 g sp D0 wr) (fun v10 v11 _ _=>(intOf v11).toNat-(intOf v10).toNat)
 case atStart=>exact⟨a,m,rfl,rfl,BSt.start (by omega),HROW.out⟩
 case round =>
  clear hw0 hq0 hw00
  obtain⟨i,j,rfl,rfl,hbs,hrow⟩:=hrel
  have hbl:=hbs.l
  have hbr:=hbs.r
  have hbm:=hbs.m
  have HBS:=hI hbs
  have HR:=hI hrow
  clear hbs hrow
  rcases Aam i j with hij|hij
  ·have hcx:decide ((i:Int)<(j:Int))=true:=Aa3 (by omega)
   obtain⟨h,hh⟩:∃h,h=(i+j) / 2:=⟨_,rfl⟩
   have hih:i≤h:=by omega
   have hhj:h<j:=by omega
   have hw1:IntKind.i64.wrap ((i:Int)+(j:Int))=((i+j:Nat):Int):=by rw[Aay];omega
   have hz2:((i:Int)+(j:Int)) / 2=(h:Int):=by omega
   have hwh:IntKind.i64.wrap ((h:Int)+1)=((h+1:Nat):Int):=by rw[Aay];omega
   obtain⟨x,hx⟩:∃x,D0[m]?=some x:=⟨_,Aae (by have:=HNN.out;omega)⟩
   obtain⟨y,hy⟩:∃y,D0[h]?=some y:=⟨_,Aae (by have:=HNN.out;omega)⟩
   have HX:Hid (D0[m]?=some x):=hx
   have HY:Hid (D0[h]?=some y):=hy
   have HVX:Hid (V x):=HR.out.ok x (Aas hx)
   have HVY:Hid (V y):=HR.out.ok y (Aas hy)
   have HL_m:Hid ((m:Int)<(N:Int)):=by show (m:Int)<_;omega
   have HL_h:Hid ((h:Int)<(N:Int)):=by show (h:Int)<_;omega
   obtain⟨zc,hzc⟩:∃zc,cf x y=zc:=⟨_,rfl⟩
   obtain⟨t,ht⟩:∃t,lt x y=t:=⟨_,rfl⟩
   have hzt:=HLT.out x y HVX.out HVY.out
   rw[ht,hzc] at hzt
   have HZT:=hI hzt
   have hcr:=fun W (h:SRow V w0 g sp D0 W)=>HC.out.at HVX.out HVY.out W h
   rw[hzc] at hcr
   have HCR:=hI hcr
   have HAT:Hid (ltAt lt D0 m h=t):=by rw[Hid,Adq lt hx hy,ht]
   have hrow0:=HR.out.drew
   clear hx hy hzc ht hzt hcr
   clear hh
   go_upto_region 17 with fail
   have mixed:Tryz.prog.follows .mixedOrders=true:=by kernel_rfl
   refine wp_region_any mixed (Akw (YRJ V w0 g sp D0 ad N c f bd a m b i j h x y zc t _ _ _ _ _ _ _ _ _ _ _ _ _ _ _ _ _ _ _ _ _ _ _ _ _ _ _ _ _ _ _ _ _ _ _ _ _ _ _ _ _ _ _ _ _ _ _ _ _ _ _ _ _ _ _ _ _ _ _ _ _ _ _ _ _ _ _ _ _ _ _ _ _ _ _ _ _ _ _ _ _ _ _ _ _ _ _ _ _ _ _ _ _ _ _ _ _ _ _ _ _ _ _ _ _ _ _ _ _ _ _ _ _ _ _ _ _ _ _ _ _ _ _ _ _ _ _ _ _ _ _ _ _ _ _ _ _ _ _ _ _ _ _ _ _ _ _ _ _ _ _ _ _ _ _ _ _ _ _ _ _ _ _ _ _ _ _ _ _ _ _ _ _ _ _ _ _ _ _ _ _ _ _ _ _ _ _ _ _ _ _ _ _ _ _ _ _ _ _ _) ?stYR ?dnYR _ _ _ _ ⟨by simp,⟨_,_,_,_,_,_,_,_,_,_,_,_,rfl,fun h=>by simp at h,fun h=>by simp at h,fun h=>by simp at h,fun h=>by simp at h,fun h=>by simp at h,fun h=>by simp at h,fun h=>by simp at h,fun h=>by simp at h,fun h=>by simp at h,fun h=>by simp at h,fun h=>by simp at h,fun h=>by simp at h,hrow0⟩⟩ (by decide))
   case dnYR =>
    intro L a w' hj hr
    have all:=Akv hr hj.sz (by kernel_rfl)
    obtain⟨s92,s93,s94,s95,s96,s97,s98,s99,s100,s101,s102,s103,rfl,hv⟩:=hj.fr
    have e11:=hv.k11 (all 11 (by omega))
    subst e11
    have HR1:=hI hv.r
    clear all hv hj hr
    cases t
    case false =>
     go_wp2_with fail
     go_roundw
     case rel=>exact⟨h+1,j,by go_num,rfl,HBS.out.yes hih hhj (by rw[HAT.out];rfl),HR1.out⟩
     case measure=>simp[intOf];omega
    case true =>
     go_wp2_with fail
     go_roundw
     case rel=>exact⟨i,h,rfl,rfl,HBS.out.no hih hhj (by rw[HAT.out];rfl),HR1.out⟩
     case measure=>simp[intOf];omega
   case stYR =>
    intro L a w' hj i hi
    obtain⟨hun,o,ho,hall⟩:=mem_ready.1 hi
    have hoff:=Akk hun
    have hlt:=(Aab.1 ho).1
    simp at hlt
    obtain⟨s92,s93,s94,s95,s96,s97,s98,s99,s100,s101,s102,s103,rfl,hv⟩:=hj.fr
    have HV:=hI hv
    have HJ:=hI hj
    clear hv hj
    rcases (show i=0∨i=1∨i=2∨i=3∨i=4∨i=5∨i=6∨i=7∨i=8∨i=9∨i=10∨i=11 from by omega) with rfl|rfl|rfl|rfl|rfl|rfl|rfl|rfl|rfl|rfl|rfl|rfl
    all_goals simp at ho
    all_goals subst ho
    rotate_left
    rotate_left
    rotate_left
    cases HV.out.k1 (Hq hall 1).out
    cases HV.out.k2 (Hq hall 2).out
    have h0:=HL_m.out
    rotate_left
    cases HV.out.k3 (Hq hall 3).out
    obtain⟨c0,c1,c2,c3,c4,c5,c6⟩:=HV.out.r.at' HAD.out HX.out
    rotate_left
    rotate_left
    rotate_left
    cases HV.out.k5 (Hq hall 5).out
    cases HV.out.k6 (Hq hall 6).out
    have h0:=HL_h.out
    rotate_left
    cases HV.out.k7 (Hq hall 7).out
    obtain⟨c0,c1,c2,c3,c4,c5,c6⟩:=HV.out.r.at' HAD.out HY.out
    rotate_left
    ·cases HV.out.k0 (Hq hall 0).out
     cases HV.out.k4 (Hq hall 4).out
     cases HV.out.k8 (Hq hall 8).out
     clear hall hi
     have hen:=HC.out.en
     refine Akt rfl fun K' HK=>?_
     go_simp
     refine (HCR.out w' HV.out.r).mono ?_
     rintro e wn ⟨rfl,bn⟩
     cases HV.out
     refine HK.out _ _ ⟨by simp[HJ.out.sz],⟨_,_,_,_,_,_,_,_,_,_,_,_,rfl,?_,?_,?_,?_,?_,?_,?_,?_,?_,fun _=>rfl,?_,?_,HV.out.r.below bn⟩⟩
     all_goals exact Um (by assumption)
    cases HV.out.k9 (Hq hall 9).out
    have hzt:=HZT.out
    rotate_left
    cases HV.out.k10 (Hq hall 10).out
    rotate_left
    all_goals
     clear hall hi
     refine Akt rfl fun K' HK=>?_
     go_simp
     cases HV.out
     refine HK.out _ _ ⟨by simp[HJ.out.sz],?_⟩
     iterate 12 apply Exists.intro
     refine⟨rfl,?_⟩
     constructor
     all_goals first|exact Um (by assumption)|exact Un (by assumption)|exact Uf (by assumption)|exact fun _=>rfl|assumption
  ·have hcx:decide ((i:Int)<(j:Int))=false:=Aa4 (by omega)
   obtain rfl:i=j:=by omega
   obtain⟨r1,r2,e1,e2,hsh⟩:=HEND.out i HBS.out
   have HSH:=hI hsh
   have HE1:=hI e1
   have HBOT:Hid ((P++r1).length=i):=by rw[Hid,Aan,HPL.out];omega
   clear e1 e2 hsh
   go_wp2_with fail
   go_loopw [17] (fun v wr=>∃(k:Nat) (D:List Lot),v=.int .i64 (k:Int)∧i≤k∧k≤m∧D.length=N∧Sh (P++r1) r2 x0 Q k D (fun _=>True)∧SRow V w0 g sp D wr) (fun v _=>(intOf v).toNat)
   case atStart=>exact⟨m,D0,rfl,hbr,Aad _,HNN.out,HSH.out,HR.out⟩
   case round =>
    clear HR HSH HBS
    obtain⟨k,D,rfl,hak,hki,hlen,hsh,hrow⟩:=hrel
    have HR:=hI hrow
    have HSH:=hI hsh
    have HLEN:=hI hlen
    rcases Aam i k with hlt|hge
    ·have hcx:decide ((k:Int) > (i:Int))=true:=Aa3 (by omega)
     have hcx':decide ((i:Int)<(k:Int))=true:=hcx
     obtain⟨kp,hkp⟩:∃kp,kp+1=k:=⟨k-1,by omega⟩
     have HKP:=hI hkp
     have HW_kp:Hid (IntKind.i64.wrap ((k:Int)-1)=(kp:Int)):=by rw[Hid,Aay];omega
     obtain⟨x,hx⟩:∃x,D[k]?=some x:=⟨_,Aae (by omega)⟩
     obtain⟨y,hy⟩:∃y,D[kp]?=some y:=⟨_,Aae (by omega)⟩
     have HX:Hid (D[k]?=some x):=hx
     have HY:Hid (D[kp]?=some y):=hy
     have HYV:Hid ((D.set k y)[kp]?=some y):=by rw[Hid,List.getElem?_set_ne (by omega)];exact hy
     have HVX:Hid (V x):=HR.out.ok x (Aas hx)
     have HVY:Hid (V y):=HR.out.ok y (Aas hy)
     have HL_k:Hid ((k:Int)<(N:Int)):=by show (k:Int)<_;omega
     have HL_kp:Hid ((kp:Int)<(N:Int)):=by show (kp:Int)<_;omega
     have HSTEP:Hid (Sh (P++r1) r2 x0 Q kp (swp D k kp) (fun _=>True)):=by
      have h:=HSH.out.down (y:=y) (by rw[HBOT.out];exact hlt) (by rw[show k-1=kp from by omega];exact hy) trivial
      rw[show k-1=kp from by omega] at h;exact h
     have hrow0:=HR.out.drew
     clear hx hy hlen hsh hrow hkp
     go_upto_region 23 with fail
     have mixed:Tryz.prog.follows .mixedOrders=true:=by kernel_rfl
     refine wp_region_any mixed (Akw (YDJ V w0 g sp D ad N c f bd a m b i k kp x y _ _ _ _ _ _ _ _ _ _ _ _ _ _ _ _ _ _ _ _ _ _ _ _ _ _ _ _ _ _ _ _ _ _ _ _ _ _ _ _ _ _ _ _ _ _ _ _ _ _ _ _ _ _ _ _ _ _ _ _ _ _ _ _ _ _ _ _ _ _ _ _ _ _ _ _ _ _ _ _ _ _ _ _ _ _ _ _ _ _ _ _ _ _ _ _ _ _ _ _ _ _ _ _ _ _ _ _ _ _ _ _ _ _ _ _ _ _ _ _ _ _ _ _ _ _ _ _ _ _ _ _ _ _ _ _ _ _ _ _ _ _ _ _ _ _ _ _ _ _ _ _ _ _ _ _ _ _ _ _ _ _ _ _ _ _ _ _ _ _ _ _ _ _ _ _ _ _ _ _ _ _ _ _ _ _ _ _ _ _ _ _ _ _ _ _ _) ?stYD ?dnYD _ _ _ _ ⟨by simp,⟨_,_,_,_,_,_,_,_,_,_,_,_,_,_,_,_,rfl,fun h=>by simp at h,fun h=>by simp at h,fun h=>by simp at h,fun h=>by simp at h,fun h=>by simp at h,fun h=>by simp at h,fun h=>by simp at h,fun h=>by simp at h,fun h=>by simp at h,fun h=>by simp at h,fun h=>by simp at h,fun h=>by simp at h,fun h=>by simp at h,fun h=>by simp at h,fun h=>by simp at h,fun h=>by simp at h,fun _=>hrow0,fun h=>by simp at h,fun h=>by simp at h,fun h=>by simp at h,fun h=>by simp at h⟩⟩ (by decide))
     case dnYD =>
      intro L a w' hj hr
      have all:=Akv hr hj.sz (by kernel_rfl)
      obtain⟨s113,s114,s115,s116,s117,s118,s119,s120,s121,s122,s123,s124,s125,s126,s127,s128,rfl,hv⟩:=hj.fr
      have HRW:=hI (hv.r2 (all 17 (by omega)))
      clear all hv hj hr
      have hwr:=HW_kp.out
      go_wp2_with fail
      go_roundw
      case rel=>exact⟨kp,_,rfl,by have:=HKP.out;omega,by have:=HKP.out;omega,by rw[List.length_set,List.length_set];exact HLEN.out,by have h:=HSTEP.out;rw[Adh HX.out HY.out] at h;exact h,HRW.out⟩
      case measure=>have:=HKP.out;simp[intOf];omega
     case stYD =>
      intro L a w' hj i hi
      obtain⟨hun,o,ho,hall⟩:=mem_ready.1 hi
      have hoff:=Akk hun
      have hlt:=(Aab.1 ho).1
      simp at hlt
      obtain⟨s113,s114,s115,s116,s117,s118,s119,s120,s121,s122,s123,s124,s125,s126,s127,s128,rfl,hv⟩:=hj.fr
      have HV:=hI hv
      have HJ:=hI hj
      clear hv hj
      rcases (show i=0∨i=1∨i=2∨i=3∨i=4∨i=5∨i=6∨i=7∨i=8∨i=9∨i=10∨i=11∨i=12∨i=13∨i=14∨i=15∨i=16∨i=17 from by omega) with rfl|rfl|rfl|rfl|rfl|rfl|rfl|rfl|rfl|rfl|rfl|rfl|rfl|rfl|rfl|rfl|rfl|rfl
      all_goals simp at ho
      all_goals subst ho
      rotate_left
      rotate_left
      rotate_left
      rotate_left
      cases HV.out.k3 (Hq hall 3).out
      have h0:=HW_kp.out
      rotate_left
      rotate_left
      rotate_left
      cases HV.out.k6 (Hq hall 6).out
      have h0:=HW_kp.out
      rotate_left
      cases HV.out.k5 (Hq hall 5).out
      cases HV.out.k7 (Hq hall 7).out
      have h0:=HL_kp.out
      rotate_left
      cases HV.out.k8 (Hq hall 8).out
      have ho:L.getD 15 false=false:=by rcases Akr L 15 with h|h;exact h;exact (Akq hoff (HV.out.q1 h).2).elim
      obtain⟨c0,c1,c2,c3,c4,c5,c6⟩:=(HV.out.r0 ho).at' HAD.out HY.out
      rotate_left
      rotate_left
      rotate_left
      cases HV.out.k10 (Hq hall 10).out
      cases HV.out.k11 (Hq hall 11).out
      have h0:=HL_k.out
      rotate_left
      cases HV.out.k12 (Hq hall 12).out
      have ho:L.getD 15 false=false:=by rcases Akr L 15 with h|h;exact h;exact (Akq hoff (HV.out.q1 h).1).elim
      obtain⟨c0,c1,c2,c3,c4,c5,c6⟩:=(HV.out.r0 ho).at' HAD.out HX.out
      rotate_left
      cases HV.out.k0 (Hq hall 0).out
      cases HV.out.k1 (Hq hall 1).out
      have h0:=HL_k.out
      rotate_left
      ·have H9:=Hq hall 9
       have H13:=Hq hall 13
       cases HV.out.k14 (Hq hall 14).out
       cases HV.out.k9 (Hq hall 9).out
       clear hall hi
       have ho2:L.getD 17 false=false:=by rcases Akr L 17 with h|h;exact h;exact (Akq hoff (HV.out.q2 h)).elim
       obtain⟨wn,hrun,hrow⟩:=(HV.out.r0 hoff).st HAD.out HX.out HVY.out
       refine Akt rfl fun K' HK=>?_
       refine Ar7 hrun rfl _ _ rfl rfl rfl ?_
       go_simp
       cases HV.out
       refine HK.out _ _ ⟨by simp[HJ.out.sz],⟨_,_,_,_,_,_,_,_,_,_,_,_,_,_,_,_,rfl,?_,?_,?_,?_,?_,?_,?_,?_,?_,?_,?_,?_,?_,?_,?_,?_,fun h=>(Akq h (Aki hun)).elim,fun _ _=>hrow,fun h=>(Akq hoff (HV.out.q2 (Uz h))).elim,fun _=>⟨Akm hun H13.out,Akm hun H9.out⟩,fun h=>(Akq hoff (HV.out.q2 (Uz h))).elim⟩⟩
       all_goals exact Um (by assumption)
      cases HV.out.k2 (Hq hall 2).out
      cases HV.out.k4 (Hq hall 4).out
      have h0:=HL_kp.out
      rotate_left
      ·have H15:=Hq hall 15
       cases HV.out.k16 (Hq hall 16).out
       cases HV.out.k13 (Hq hall 13).out
       clear hall hi
       obtain⟨wn,hrun,hrow⟩:=(HV.out.r1 H15.out hoff).st HAD.out HYV.out HVX.out
       refine Akt rfl fun K' HK=>?_
       refine Ar7 hrun rfl _ _ rfl rfl rfl ?_
       go_simp
       cases HV.out
       refine HK.out _ _ ⟨by simp[HJ.out.sz],⟨_,_,_,_,_,_,_,_,_,_,_,_,_,_,_,_,rfl,?_,?_,?_,?_,?_,?_,?_,?_,?_,?_,?_,?_,?_,?_,?_,?_,fun h=>(Akq (Dz h) H15.out).elim,fun _ h=>(Akq h (Aki hun)).elim,fun _=>hrow,fun h=>⟨Akm hun (HV.out.q1 (Uz h)).1,Akm hun (HV.out.q1 (Uz h)).2⟩,fun _=>Akm hun H15.out⟩⟩
       all_goals exact Um (by assumption)
      all_goals
       clear hall hi
       refine Akt rfl fun K' HK=>?_
       go_simp
       cases HV.out
       refine HK.out _ _ ⟨by simp[HJ.out.sz],?_⟩
       iterate 16 apply Exists.intro
       refine⟨rfl,?_⟩
       constructor
       all_goals first|exact Um (by assumption)|exact Un (by assumption)|exact Uf (by assumption)|exact fun _=>rfl|assumption|exact Uq hun (by assumption)|exact Uq2 hun (by assumption)|exact Uq3 hun (by assumption)
    ·have hcx:decide ((k:Int) > (i:Int))=false:=Aa4 (by omega)
     have hcx':decide ((i:Int)<(k:Int))=false:=hcx
     have HF:Hid (SRow V w0 g sp (P++(mrg lt L [x0]++Q)) wr):=HR.out.same (by rw[HE1.out,HSH.out.bot (by rw[HBOT.out];omega)];simp)
     clear hsh hrow hlen
     go_wp2_with fail
     refine bodyPost_ret (results_none rfl _ _ _) rfl ?_
     exact⟨rfl,HF.out⟩
structure YXV(V:Lot→Prop)(w0:World)(g:Nat)(sp:List Value)(D:List Lot)(ad:Addr)(N c:Nat)(f:Nat)(bd:Array Value)(a_ m_ b_ mid_ n_ i_ j_ p_ h_ ph_:Nat)(x y:Lot)(zc:Int)(t:Bool)  (L:Array Bool) (W:World) (s158 s159 s160 s161 s162 s163 s164 s165 s166 s167 s168 s169 s170 s171:Value):Prop where
 k0:L.getD 0 false=true→s158=.func (.func f) #[] bd
 k1:L.getD 1 false=true→s159=.slice (some ad) N c
 k2:L.getD 2 false=true→s160=.int .i64 (p_:Int)
 k3:L.getD 3 false=true→s161=.int .i64 (h_:Int)
 k4:L.getD 4 false=true→s162=.int .i64 (ph_:Int)
 k5:L.getD 5 false=true→s163=.pointer (some (ad.add (ph_*7)))
 k6:L.getD 6 false=true→s164=.agg #[.string x.id,.string x.inst,.int .i64 x.acq,.int .i64 x.opn,.string x.qty,.string x.cost,.string x.used]
 k7:L.getD 7 false=true→s165=.slice (some ad) N c
 k8:L.getD 8 false=true→s166=.int .i64 (h_:Int)
 k9:L.getD 9 false=true→s167=.pointer (some (ad.add (h_*7)))
 k10:L.getD 10 false=true→s168=.agg #[.string y.id,.string y.inst,.int .i64 y.acq,.int .i64 y.opn,.string y.qty,.string y.cost,.string y.used]
 k11:L.getD 11 false=true→s169=.int .i64 zc
 k12:L.getD 12 false=true→s170=.bool t
 k13:L.getD 13 false=true→s171=.bool (!t)
 r:SRow V w0 g sp D W
structure YXJ(V:Lot→Prop)(w0:World)(g:Nat)(sp:List Value)(D:List Lot)(ad:Addr)(N c:Nat)(f:Nat)(bd:Array Value)(a_ m_ b_ mid_ n_ i_ j_ p_ h_ ph_:Nat)(x y:Lot)(zc:Int)(t:Bool)(x5 x6 x7 x8 x9 x10 x11 x12 x13 x14 x15 x16 x17 x24 x25 x26 x27 x28 x29 x30 x31 x32 x33 x34 x35 x36 x37 x38 x39 x40 x41 x42 x43 x44 x45 x46 x47 x48 x49 x50 x51 x52 x53 x54 x55 x56 x57 x58 x59 x60 x61 x62 x63 x64 x65 x66 x67 x68 x69 x70 x71 x72 x73 x74 x75 x76 x77 x78 x79 x80 x81 x82 x83 x84 x85 x86 x87 x88 x89 x90 x91 x92 x93 x94 x95 x96 x97 x98 x99 x100 x101 x102 x103 x104 x105 x106 x107 x108 x109 x110 x111 x112 x113 x114 x115 x116 x117 x118 x119 x120 x121 x122 x123 x124 x125 x126 x127 x128 x129 x130 x131 x132 x133 x134 x135 x136 x137 x138 x139 x140 x141 x142 x143 x144 x145 x146 x147 x148 x149 x150 x151 x152 x153 x154 x155 x156 x157 x172 x173 x174 x175 x176 x177 x178 x179 x180 x181 x182 x183 x184 x185 x186 x187 x188 x189 x190 x191 x192 x193 x194 x195 x196 x197 x198 x199 x200 x201 x202 x203 x204 x205 x206 x207 x208 x209 x210 x211 x212 x213 x214 x215 x216 x217 x218 x219:Value)(L:Array Bool)(a:Act)(W:World):Prop where
 sz:L.size=14
 fr:∃s158 s159 s160 s161 s162 s163 s164 s165 s166 s167 s168 s169 s170 s171:Value,a={tmps:=#[.slice (some ad) N c,.int .i64 (a_:Int),.int .i64 (m_:Int),.int .i64 (b_:Int),.func (.func f) #[] bd,x5,x6,x7,x8,x9,x10,x11,x12,x13,x14,x15,x16,x17,.int .i64 (mid_:Int),.int .i64 (n_:Int),.int .i64 (i_:Int),.int .i64 (j_:Int),.int .i64 (p_:Int),.int .i64 (h_:Int),x24,x25,x26,x27,x28,x29,x30,x31,x32,x33,x34,x35,x36,x37,x38,x39,x40,x41,x42,x43,x44,x45,x46,x47,x48,x49,x50,x51,x52,x53,x54,x55,x56,x57,x58,x59,x60,x61,x62,x63,x64,x65,x66,x67,x68,x69,x70,x71,x72,x73,x74,x75,x76,x77,x78,x79,x80,x81,x82,x83,x84,x85,x86,x87,x88,x89,x90,x91,x92,x93,x94,x95,x96,x97,x98,x99,x100,x101,x102,x103,x104,x105,x106,x107,x108,x109,x110,x111,x112,x113,x114,x115,x116,x117,x118,x119,x120,x121,x122,x123,x124,x125,x126,x127,x128,x129,x130,x131,x132,x133,x134,x135,x136,x137,x138,x139,x140,x141,x142,x143,x144,x145,x146,x147,x148,x149,x150,x151,x152,x153,x154,x155,x156,x157,s158,s159,s160,s161,s162,s163,s164,s165,s166,s167,s168,s169,s170,s171,x172,x173,x174,x175,x176,x177,x178,x179,x180,x181,x182,x183,x184,x185,x186,x187,x188,x189,x190,x191,x192,x193,x194,x195,x196,x197,x198,x199,x200,x201,x202,x203,x204,x205,x206,x207,x208,x209,x210,x211,x212,x213,x214,x215,x216,x217,x218,x219],defers:=[]}∧YXV V w0 g sp D ad N c f bd a_ m_ b_ mid_ n_ i_ j_ p_ h_ ph_ x y zc t  L W s158 s159 s160 s161 s162 s163 s164 s165 s166 s167 s168 s169 s170 s171
theorem Asv (V:Lot→Prop) (cf:Lot→Lot→Int) (lt:Lot→Lot→Bool) (hw:Weak lt) (w0:World) (g N c a m b f:Nat) (bd:Array Value) (hlt:∀x y,V x→V y→decide (cf x y<0)=lt x y) (hC:CmpS V cf f bd w0 g) (sp:List Value) (P L R Q:List Lot) (hN:(P++(L++(R++Q))).length=N) (hm:N≤1000000) (ha:P.length=a) (hl:a+L.length=m) (hr:m+R.length=b) (h0:a<m) (h1:m<b) (hL:AscS lt L) (hR:AscS lt R) (hnL:a+1≠m) (hnR:m+1≠b) (F:Nat) (hF:b-a≤F) (ih:∀(a m b:Nat) (P L R Q:List Lot),b-a<F→(P++(L++(R++Q))).length=N→P.length=a→a+L.length=m→m+R.length=b→a<m→m<b→AscS lt L→AscS lt R→∀w,SRow V w0 g sp (P++(L++(R++Q))) w →
 Calls Tryz.prog 151 #[.slice (some ⟨g,0,none⟩) N c,.int .i64 (a:Int),.int .i64 (m:Int),.int .i64 (b:Int),.func (.func f) #[] bd] w fun e w'=>e=.returned (.tuple #[])∧SRow V w0 g sp (P++(mrg lt L R++Q)) w') (w:World) (hrow:SRow V w0 g sp (P++(L++(R++Q))) w) :
 Calls Tryz.prog 151 #[.slice (some ⟨g,0,none⟩) N c,.int .i64 (a:Int),.int .i64 (m:Int),.int .i64 (b:Int),.func (.func f) #[] bd] w fun e w'=>e=.returned (.tuple #[])∧SRow V w0 g sp (P++(mrg lt L R++Q)) w':=by
 obtain⟨ad,had⟩:∃ad:Addr,ad=⟨g,0,none⟩:=⟨_,rfl⟩
 rw[←had]
 have hbN:b≤N:=by rw[←hN];simp;omega
 obtain⟨D0,hD0⟩:∃D,D=P++(L++(R++Q)):=⟨_,rfl⟩
 rw[←hD0] at hrow hN
 have HAD:=hI had
 have HROW:=hI hrow
 have HNN:=hI hN
 have HLT:=hI hlt
 have HC:=hI hC
 obtain⟨la,hla⟩:∃k,k+a=m:=⟨m-a,by omega⟩
 obtain⟨lb,hlb⟩:∃k,k+m=b:=⟨b-m,by omega⟩
 obtain⟨mid,hmid⟩:∃k,k=(a+b) / 2:=⟨_,rfl⟩
 obtain⟨n,hn⟩:∃k,k=mid+m:=⟨_,rfl⟩
 obtain⟨p,hp⟩:∃k,k+1=n:=⟨n-1,by omega⟩
 obtain⟨lo,hi,hlo⟩:∃lo hi,mid<m∧lo=n-b∧hi=mid∨m≤mid∧lo=a∧hi=m:=by
  rcases Aam mid m with h|h
  ·exact⟨_,_,.inl ⟨h,rfl,rfl⟩⟩
  ·exact⟨_,_,.inr ⟨h,rfl,rfl⟩⟩
 have HEND:Hid (∀i,BSt (fun h=>!ltAt lt D0 (n-1-h) h) lo hi i i→∃L1 L2 R1 R2,L=L1++L2∧R=R1++R2∧a+L1.length=i∧m+R1.length=n-i∧i≤mid∧i≤m∧m≤n-i∧n-i≤b∧a≤i∧mrg lt L R=mrg lt L1 R1++mrg lt L2 R2):=fun i hs =>
  sym_cut lt hw hD0 ha hl hr hL hR hmid hn hlo h0 h1 hs
 have HPL:Hid (P.length=a):=ha
 have HD0:Hid (D0=P++(L++(R++Q))):=hD0
 have HASC:=hI (And.intro hL hR)
 have HIH:=hI ih
 have HFF:=hI hF
 have HLR:Hid (a+L.length=m∧m+R.length=b):=⟨hl,hr⟩
 have hw0:IntKind.i64.wrap ((m:Int)-(a:Int))=(la:Int):=by rw[Aay];omega
 have hq0:((la:Int)==1)=false:=Aaj.2 (by omega)
 have hw00:IntKind.i64.wrap ((b:Int)-(m:Int))=(lb:Int):=by rw[Aay];omega
 have hq00:((lb:Int)==1)=false:=Aaj.2 (by omega)
 have hwm:IntKind.i64.wrap ((a:Int)+(b:Int))=((a+b:Nat):Int):=by rw[Aay];omega
 have hz3:((a:Int)+(b:Int)) / 2=(mid:Int):=by omega
 have hwn:IntKind.i64.wrap ((mid:Int)+(m:Int))=(n:Int):=by rw[Aay];omega
 have hwp:IntKind.i64.wrap ((n:Int)-1)=(p:Int):=by rw[Aay];omega
 have HHALF:=hI hmid
 have HNP:Hid (p+1=n∧n=mid+m∧b≤N∧a<m∧m<b):=⟨hp,hn,hbN,h0,h1⟩
 have HLO:=hI hlo
 clear had hrow hN hlt hC hw hD0 hL hR hl hr ha hla hlb ih hF hmid hn hp hlo
 go_enter Tryz.func151,Tryz.ntmps151
 go_upto_if 140 with fail
 go_cut [20,21] (fun v20 v21 wx=>v20=.int .i64 (lo:Int)∧v21=.int .i64 (hi:Int)∧w=wx)
 case first =>
  as_aux_lemma =>
   rcases HLO.out with⟨hc,hlo,hhi⟩|⟨hc,hlo,hhi⟩
   ·have t1:decide ((m:Int) > (mid:Int))=true:=Aa3 (by omega)
    have t1':decide ((mid:Int)<(m:Int))=true:=t1
    have t1n:decide (mid<m)=true:=Aa3 hc
    have t1q:mid<m:=hc
    have hwb:IntKind.i64.wrap ((n:Int)-(b:Int))=(lo:Int):=by have:=HNP.out;have:=HHALF.out;rw[Aay];omega
    have HE:=hI hhi
    clear hc hlo hhi
    go_wp2_with fail
    go_meet
    exact⟨rfl,by rw[HE.out],rfl⟩
   ·have t1:decide ((m:Int) > (mid:Int))=false:=Aa4 (by omega)
    have t1':decide ((mid:Int)<(m:Int))=false:=t1
    have t1n:decide (mid<m)=false:=Aa4 (by omega)
    have t1q:¬mid<m:=by omega
    have HE:=hI (And.intro hlo hhi)
    clear hc hlo hhi
    go_wp2_with fail
    go_meet
    exact⟨by rw[HE.out.1],by rw[HE.out.2],rfl⟩
 case rest =>
  obtain⟨rfl,rfl,rfl⟩:=hcut
  have HBD:Hid (lo≤hi∧hi≤m∧hi≤mid∧mid<b∧a<mid∧(∀k,lo≤k→k<hi→k≤p∧p-k<N)):=by
   have h1:=HNP.out
   have h2:=HHALF.out
   have h3:=HLO.out
   refine⟨by omega,by omega,by omega,by omega,by omega,fun k h4 h5=>⟨by omega,by omega⟩⟩
  clear hw0 hq0 hw00 hq00 hwm hwn hz3
  go_wp2_with fail
  go_loopw [20,21,23] (fun v10 v11 _ wr=>∃(i j:Nat),v10=.int .i64 (i:Int)∧v11=.int .i64 (j:Int)∧BSt (fun h=>!ltAt lt D0 (n-1-h) h) lo hi i j∧SRow V w0 g sp D0 wr) (fun v10 v11 _ _=>(intOf v11).toNat-(intOf v10).toNat)
  case atStart=>exact⟨lo,hi,rfl,rfl,BSt.start HBD.out.1,HROW.out⟩
  case round =>
   clear hwp
   obtain⟨i,j,rfl,rfl,hbs,hrow⟩:=hrel
   have hbl:=hbs.l
   have hbr:=hbs.r
   have hbm:=hbs.m
   have HBS:=hI hbs
   have HR:=hI hrow
   clear hbs hrow
   rcases Aam i j with hij|hij
   ·as_aux_lemma =>
    have hcx:decide ((i:Int)<(j:Int))=true:=Aa3 (by omega)
    have hbd:=HBD.out
    have hnp:=HNP.out
    have hhm:hi≤m:=hbd.2.1
    obtain⟨h,hh⟩:∃h,h=(i+j) / 2:=⟨_,rfl⟩
    have hih:i≤h:=by omega
    have hhj:h<j:=by omega
    have hw1:IntKind.i64.wrap ((i:Int)+(j:Int))=((i+j:Nat):Int):=by rw[Aay];omega
    have hz2:((i:Int)+(j:Int)) / 2=(h:Int):=by omega
    have hwh:IntKind.i64.wrap ((h:Int)+1)=((h+1:Nat):Int):=by rw[Aay];omega
    obtain⟨q1,q2⟩:=hbd.2.2.2.2.2 h (by omega) (by omega)
    obtain⟨ph,hph⟩:∃q,q=p-h:=⟨_,rfl⟩
    have HW_ph:Hid (IntKind.i64.wrap ((p:Int)-(h:Int))=(ph:Int)):=by rw[Hid,Aay];omega
    have HPH:Hid (n-1-h=ph):=by rw[Hid];omega
    obtain⟨x,hx⟩:∃x,D0[ph]?=some x:=⟨_,Aae (by have:=HNN.out;omega)⟩
    obtain⟨y,hy⟩:∃y,D0[h]?=some y:=⟨_,Aae (by have:=HNN.out;omega)⟩
    have HX:Hid (D0[ph]?=some x):=hx
    have HY:Hid (D0[h]?=some y):=hy
    have HVX:Hid (V x):=HR.out.ok x (Aas hx)
    have HVY:Hid (V y):=HR.out.ok y (Aas hy)
    have HL_ph:Hid ((ph:Int)<(N:Int)):=by show (ph:Int)<_;omega
    have HL_h:Hid ((h:Int)<(N:Int)):=by show (h:Int)<_;omega
    obtain⟨zc,hzc⟩:∃zc,cf x y=zc:=⟨_,rfl⟩
    obtain⟨t,ht⟩:∃t,lt x y=t:=⟨_,rfl⟩
    have hzt:=HLT.out x y HVX.out HVY.out
    rw[ht,hzc] at hzt
    have HZT:=hI hzt
    have hcr:=fun W (h:SRow V w0 g sp D0 W)=>HC.out.at HVX.out HVY.out W h
    rw[hzc] at hcr
    have HCR:=hI hcr
    have HAT:Hid (ltAt lt D0 ph h=t):=by rw[Hid,Adq lt hx hy,ht]
    have hrow0:=HR.out.drew
    clear hx hy hzc ht hzt hcr
    clear hh hbd hnp q1 q2 hph
    go_upto_region 35 with fail
    have mixed:Tryz.prog.follows .mixedOrders=true:=by kernel_rfl
    refine wp_region_any mixed (Akw (YXJ V w0 g sp D0 ad N c f bd a m b mid n i j p h ph x y zc t _ _ _ _ _ _ _ _ _ _ _ _ _ _ _ _ _ _ _ _ _ _ _ _ _ _ _ _ _ _ _ _ _ _ _ _ _ _ _ _ _ _ _ _ _ _ _ _ _ _ _ _ _ _ _ _ _ _ _ _ _ _ _ _ _ _ _ _ _ _ _ _ _ _ _ _ _ _ _ _ _ _ _ _ _ _ _ _ _ _ _ _ _ _ _ _ _ _ _ _ _ _ _ _ _ _ _ _ _ _ _ _ _ _ _ _ _ _ _ _ _ _ _ _ _ _ _ _ _ _ _ _ _ _ _ _ _ _ _ _ _ _ _ _ _ _ _ _ _ _ _ _ _ _ _ _ _ _ _ _ _ _ _ _ _ _ _ _ _ _ _ _ _ _ _ _ _ _ _ _ _ _ _ _ _ _ _ _ _ _ _ _ _ _ _) ?stYX ?dnYX _ _ _ _ ⟨by simp,⟨_,_,_,_,_,_,_,_,_,_,_,_,_,_,rfl,fun h=>by simp at h,fun h=>by simp at h,fun h=>by simp at h,fun h=>by simp at h,fun h=>by simp at h,fun h=>by simp at h,fun h=>by simp at h,fun h=>by simp at h,fun h=>by simp at h,fun h=>by simp at h,fun h=>by simp at h,fun h=>by simp at h,fun h=>by simp at h,fun h=>by simp at h,hrow0⟩⟩ (by decide))
    case dnYX =>
     intro L a w' hj hr
     have all:=Akv hr hj.sz (by kernel_rfl)
     obtain⟨s158,s159,s160,s161,s162,s163,s164,s165,s166,s167,s168,s169,s170,s171,rfl,hv⟩:=hj.fr
     have e13:=hv.k13 (all 13 (by omega))
     subst e13
     have HR1:=hI hv.r
     clear all hv hj hr
     cases t
     case false =>
      go_wp2_with fail
      go_roundw
      case rel=>exact⟨h+1,j,by go_num,rfl,HBS.out.yes hih hhj (by rw[HPH.out,HAT.out];rfl),HR1.out⟩
      case measure=>simp[intOf];omega
     case true =>
      go_wp2_with fail
      go_roundw
      case rel=>exact⟨i,h,rfl,rfl,HBS.out.no hih hhj (by rw[HPH.out,HAT.out];rfl),HR1.out⟩
      case measure=>simp[intOf];omega
    case stYX =>
     intro L a w' hj i hi
     obtain⟨hun,o,ho,hall⟩:=mem_ready.1 hi
     have hoff:=Akk hun
     have hlt:=(Aab.1 ho).1
     simp at hlt
     obtain⟨s158,s159,s160,s161,s162,s163,s164,s165,s166,s167,s168,s169,s170,s171,rfl,hv⟩:=hj.fr
     have HV:=hI hv
     have HJ:=hI hj
     clear hv hj
     rcases (show i=0∨i=1∨i=2∨i=3∨i=4∨i=5∨i=6∨i=7∨i=8∨i=9∨i=10∨i=11∨i=12∨i=13 from by omega) with rfl|rfl|rfl|rfl|rfl|rfl|rfl|rfl|rfl|rfl|rfl|rfl|rfl|rfl
     all_goals simp at ho
     all_goals subst ho
     rotate_left
     rotate_left
     rotate_left
     rotate_left
     cases HV.out.k2 (Hq hall 2).out
     cases HV.out.k3 (Hq hall 3).out
     have h0:=HW_ph.out
     rotate_left
     cases HV.out.k1 (Hq hall 1).out
     cases HV.out.k4 (Hq hall 4).out
     have h0:=HL_ph.out
     rotate_left
     cases HV.out.k5 (Hq hall 5).out
     obtain⟨c0,c1,c2,c3,c4,c5,c6⟩:=HV.out.r.at' HAD.out HX.out
     rotate_left
     rotate_left
     rotate_left
     cases HV.out.k7 (Hq hall 7).out
     cases HV.out.k8 (Hq hall 8).out
     have h0:=HL_h.out
     rotate_left
     cases HV.out.k9 (Hq hall 9).out
     obtain⟨c0,c1,c2,c3,c4,c5,c6⟩:=HV.out.r.at' HAD.out HY.out
     rotate_left
     ·cases HV.out.k0 (Hq hall 0).out
      cases HV.out.k6 (Hq hall 6).out
      cases HV.out.k10 (Hq hall 10).out
      clear hall hi
      have hen:=HC.out.en
      refine Akt rfl fun K' HK=>?_
      go_simp
      refine (HCR.out w' HV.out.r).mono ?_
      rintro e wn ⟨rfl,bn⟩
      cases HV.out
      refine HK.out _ _ ⟨by simp[HJ.out.sz],⟨_,_,_,_,_,_,_,_,_,_,_,_,_,_,rfl,?_,?_,?_,?_,?_,?_,?_,?_,?_,?_,?_,fun _=>rfl,?_,?_,HV.out.r.below bn⟩⟩
      all_goals exact Um (by assumption)
     cases HV.out.k11 (Hq hall 11).out
     have hzt:=HZT.out
     rotate_left
     cases HV.out.k12 (Hq hall 12).out
     rotate_left
     all_goals
      clear hall hi
      refine Akt rfl fun K' HK=>?_
      go_simp
      cases HV.out
      refine HK.out _ _ ⟨by simp[HJ.out.sz],?_⟩
      iterate 14 apply Exists.intro
      refine⟨rfl,?_⟩
      constructor
      all_goals first|exact Um (by assumption)|exact Un (by assumption)|exact Uf (by assumption)|exact fun _=>rfl|assumption
   ·have hcx:decide ((i:Int)<(j:Int))=false:=Aa4 (by omega)
    obtain rfl:i=j:=by omega
    have hbd:=HBD.out
    have hnp:=HNP.out
    have hhalf:=HHALF.out
    obtain⟨e,he⟩:∃e,e=n-i:=⟨_,rfl⟩
    obtain⟨L1,L2,R1,R2,hLL,hRR,hl1,hr1,hs1,hs2,hs3,hs4,hs5,hmg⟩:=HEND.out i HBS.out
    rw[←he] at hr1 hs3 hs4
    have hwe:IntKind.i64.wrap ((n:Int)-(i:Int))=(e:Int):=by rw[Aay];omega
    obtain⟨hAL,hAR⟩:=HASC.out
    rw[hLL,Adr] at hAL
    rw[hRR,Adr] at hAR
    have hll:L1.length+L2.length=L.length:=by rw[hLL,Aan]
    have hrl:R1.length+R2.length=R.length:=by rw[hRR,Aan]
    have hlr:=HLR.out
    have hpl:=HPL.out
    have hff:=HFF.out
    have eD:D0=(P++L1)++(L2++(R1++(R2++Q))):=by rw[HD0.out,hLL,hRR];simp
    have hDl:D0.length=N:=HNN.out
    have HROT:Hid (i<m→m<e→∀W,SRow V w0 g sp D0 W→Calls Tryz.prog 188 #[.slice (some ad) N c,.int .i64 (i:Int),.int .i64 (m:Int),.int .i64 (e:Int),.func (.func f) #[] bd] W fun e w'=>e=.returned (.tuple #[])∧SRow V w0 g sp ((P++L1)++(R1++(L2++(R2++Q)))) w'):=fun c1 c2 W hW=>by
     rw[HAD.out]
     exact Ass V w0 g N c i m e f bd sp (P++L1) L2 R1 (R2++Q) (by rw[←eD];exact hDl) hm (by rw[Aan];omega) (by omega) (by omega) c1 c2 W (eD▸hW)
    have HN0:Hid (¬i<m∨¬m<e→D0=(P++L1)++(R1++(L2++(R2++Q)))):=fun h=>by
     rw[eD]
     rcases h with h|h
     ·rw[Aag (show L2.length=0 by omega)];simp
     ·rw[Aag (show R1.length=0 by omega)];simp
    have HI1:Hid (a<i→i<mid→∀W,SRow V w0 g sp ((P++L1)++(R1++(L2++(R2++Q)))) W→Calls Tryz.prog 151 #[.slice (some ad) N c,.int .i64 (a:Int),.int .i64 (i:Int),.int .i64 (mid:Int),.func (.func f) #[] bd] W fun e w'=>e=.returned (.tuple #[])∧SRow V w0 g sp (P++(mrg lt L1 R1++(L2++(R2++Q)))) w'):=fun c3 c4 W hW=>by
     rw[HAD.out]
     rw[show (P++L1)++(R1++(L2++(R2++Q)))=P++(L1++(R1++(L2++(R2++Q)))) from by simp] at hW
     exact HIH.out a i mid P L1 R1 (L2++(R2++Q)) (by omega) (by rw[←hDl,eD];simp;omega) hpl hl1 (by omega) c3 c4 hAL.1 hAR.1 W hW
    have HN1:Hid (¬a<i∨¬i<mid→(P++L1)++(R1++(L2++(R2++Q)))=P++(mrg lt L1 R1++(L2++(R2++Q)))):=fun h=>by
     rcases h with h|h
     ·rw[Aag (show L1.length=0 by omega),Ac3];simp
     ·rw[Aag (show R1.length=0 by omega),Ac2];simp
    have eF:P++(mrg lt L1 R1++(mrg lt L2 R2++Q))=P++(mrg lt L R++Q):=by rw[hmg];simp
    have hml:=mrg_len lt L1 R1
    have HI2:Hid (mid<e→e<b→∀W,SRow V w0 g sp (P++(mrg lt L1 R1++(L2++(R2++Q)))) W→Calls Tryz.prog 151 #[.slice (some ad) N c,.int .i64 (mid:Int),.int .i64 (e:Int),.int .i64 (b:Int),.func (.func f) #[] bd] W fun e w'=>e=.returned (.tuple #[])∧SRow V w0 g sp ((P++mrg lt L1 R1)++(mrg lt L2 R2++Q)) w'):=fun c5 c6 W hW=>by
     rw[HAD.out]
     rw[show P++(mrg lt L1 R1++(L2++(R2++Q)))=(P++mrg lt L1 R1)++(L2++(R2++Q)) from by simp] at hW
     exact HIH.out mid e b (P++mrg lt L1 R1) L2 R2 Q (by omega) (by rw[←hDl,eD];simp[hml];omega) (by rw[Aan,hml];omega) (by omega) (by omega) c5 c6 hAL.2.1 hAR.2.1 W hW
    have HE9:Hid ((P++mrg lt L1 R1)++(mrg lt L2 R2++Q)=P++(mrg lt L R++Q)):=by rw[Hid,←eF];simp
    have HN2:Hid (¬mid<e∨¬e<b→P++(mrg lt L1 R1++(L2++(R2++Q)))=P++(mrg lt L R++Q)):=fun h=>by
     rw[←eF]
     rcases h with h|h
     ·rw[Aag (show L2.length=0 by omega),Ac3];simp
     ·rw[Aag (show R2.length=0 by omega),Ac2];simp
    clear hbd hnp hhalf he hLL hRR hl1 hr1 hs1 hs2 hs3 hs4 hs5 hmg hAL hAR hll hrl hlr hpl hff eD hDl eF hml
    go_upto_region 39 with fail
    go_cut [185] (fun v wx=>v=.bool (decide (i<m∧m<e))∧wr=wx)
    case first =>
     as_aux_lemma =>
      rcases (show i<m∧m<e∨¬i<m∨i<m∧¬m<e from by omega) with⟨c1,c2⟩|c1|⟨c1,c2⟩
      ·have t1:decide ((i:Int)<(m:Int))=true:=Aa3 (by omega)
       have t1n:decide (i<m)=true:=Aa3 (by omega)
       have t2:decide ((m:Int)<(e:Int))=true:=Aa3 (by omega)
       have t2n:decide (m<e)=true:=Aa3 (by omega)
       have HB:Hid (decide (i<m∧m<e)=true):=Aa3 ⟨c1,c2⟩
       clear c1 c2
       go_wp2_with fail
       go_meet
       exact⟨by rw[HB.out],rfl⟩
      ·have t1:decide ((i:Int)<(m:Int))=false:=Aa4 (by omega)
       have t1n:decide (i<m)=false:=Aa4 (by omega)
       have HB:Hid (decide (i<m∧m<e)=false):=Aa4 (fun h=>c1 h.1)
       clear c1
       go_wp2_with fail
       go_meet
       exact⟨by rw[HB.out],rfl⟩
      ·have t1:decide ((i:Int)<(m:Int))=true:=Aa3 (by omega)
       have t1n:decide (i<m)=true:=Aa3 (by omega)
       have t2:decide ((m:Int)<(e:Int))=false:=Aa4 (by omega)
       have t2n:decide (m<e)=false:=Aa4 (by omega)
       have HB:Hid (decide (i<m∧m<e)=false):=Aa4 (fun h=>c2 h.2)
       clear c1 c2
       go_wp2_with fail
       go_meet
       exact⟨by rw[HB.out],rfl⟩
    case rest =>
     obtain⟨rfl,rfl⟩:=hcut
     obtain⟨b1,hb1⟩:∃q:Bool,decide (i<m∧m<e)=q:=⟨_,rfl⟩
     rw[hb1]
     have HB1:=hI hb1
     clear hb1
     go_upto_if 185 with fail
     go_cut [191] (fun _ wx=>∃W1,SRow V w0 g sp ((P++L1)++(R1++(L2++(R2++Q)))) W1∧W1=wx)
     case first =>
      as_aux_lemma =>
       cases b1
       ·have HR1:=hI (HR.out.same (HN0.out (by have h:=HB1.out;simp only[decide_eq_false_iff_not] at h;omega)))
        go_wp2_with fail
        go_meet
        exact⟨_,HR1.out,rfl⟩
       ·have hy:=HB1.out
        simp only[decide_eq_true_eq] at hy
        have HG:=hI (HROT.out hy.1 hy.2 _ HR.out)
        clear hy
        go_wp2_with fail
        refine HG.out.mono ?_
        rintro e2 w7 ⟨rfl,hr7⟩
        have HR1:=hI hr7
        clear hr7 HG
        go_wp2_with fail
        go_meet
        exact⟨_,HR1.out,rfl⟩
     case rest =>
      obtain⟨W1,hr7,rfl⟩:=hcut
      have HR1:=hI hr7
      clear hr7
      go_upto_region 41 with fail
      go_cut [199] (fun v wx=>v=.bool (decide (a<i∧i<mid))∧W1=wx)
      case first =>
       as_aux_lemma =>
        rcases (show a<i∧i<mid∨¬a<i∨a<i∧¬i<mid from by omega) with⟨c1,c2⟩|c1|⟨c1,c2⟩
        ·have t1:decide ((a:Int)<(i:Int))=true:=Aa3 (by omega)
         have t1n:decide (a<i)=true:=Aa3 (by omega)
         have t2:decide ((i:Int)<(mid:Int))=true:=Aa3 (by omega)
         have t2n:decide (i<mid)=true:=Aa3 (by omega)
         have HB:Hid (decide (a<i∧i<mid)=true):=Aa3 ⟨c1,c2⟩
         clear c1 c2
         go_wp2_with fail
         go_meet
         exact⟨by rw[HB.out],rfl⟩
        ·have t1:decide ((a:Int)<(i:Int))=false:=Aa4 (by omega)
         have t1n:decide (a<i)=false:=Aa4 (by omega)
         have HB:Hid (decide (a<i∧i<mid)=false):=Aa4 (fun h=>c1 h.1)
         clear c1
         go_wp2_with fail
         go_meet
         exact⟨by rw[HB.out],rfl⟩
        ·have t1:decide ((a:Int)<(i:Int))=true:=Aa3 (by omega)
         have t1n:decide (a<i)=true:=Aa3 (by omega)
         have t2:decide ((i:Int)<(mid:Int))=false:=Aa4 (by omega)
         have t2n:decide (i<mid)=false:=Aa4 (by omega)
         have HB:Hid (decide (a<i∧i<mid)=false):=Aa4 (fun h=>c2 h.2)
         clear c1 c2
         go_wp2_with fail
         go_meet
         exact⟨by rw[HB.out],rfl⟩
      case rest =>
       obtain⟨rfl,rfl⟩:=hcut
       obtain⟨b2,hb2⟩:∃q:Bool,decide (a<i∧i<mid)=q:=⟨_,rfl⟩
       rw[hb2]
       have HB2:=hI hb2
       clear hb2
       go_upto_if 199 with fail
       go_cut [205] (fun _ wx=>∃W2,SRow V w0 g sp (P++(mrg lt L1 R1++(L2++(R2++Q)))) W2∧W2=wx)
       case first =>
        as_aux_lemma =>
         cases b2
         ·have HR2:=hI (HR1.out.same (HN1.out (by have h:=HB2.out;simp only[decide_eq_false_iff_not] at h;omega)))
          go_wp2_with fail
          go_meet
          exact⟨_,HR2.out,rfl⟩
         ·have hy:=HB2.out
          simp only[decide_eq_true_eq] at hy
          have HG:=hI (HI1.out hy.1 hy.2 _ HR1.out)
          clear hy
          go_wp2_with fail
          refine HG.out.mono ?_
          rintro e2 w7 ⟨rfl,hr7⟩
          have HR2:=hI hr7
          clear hr7 HG
          go_wp2_with fail
          go_meet
          exact⟨_,HR2.out,rfl⟩
       case rest =>
        obtain⟨W2,hr7,rfl⟩:=hcut
        have HR2:=hI hr7
        clear hr7
        go_upto_region 43 with fail
        go_cut [213] (fun v wx=>v=.bool (decide (mid<e∧e<b))∧W2=wx)
        case first =>
         as_aux_lemma =>
          rcases (show mid<e∧e<b∨¬mid<e∨mid<e∧¬e<b from by omega) with⟨c1,c2⟩|c1|⟨c1,c2⟩
          ·have t1:decide ((mid:Int)<(e:Int))=true:=Aa3 (by omega)
           have t1n:decide (mid<e)=true:=Aa3 (by omega)
           have t2:decide ((e:Int)<(b:Int))=true:=Aa3 (by omega)
           have t2n:decide (e<b)=true:=Aa3 (by omega)
           have HB:Hid (decide (mid<e∧e<b)=true):=Aa3 ⟨c1,c2⟩
           clear c1 c2
           go_wp2_with fail
           go_meet
           exact⟨by rw[HB.out],rfl⟩
          ·have t1:decide ((mid:Int)<(e:Int))=false:=Aa4 (by omega)
           have t1n:decide (mid<e)=false:=Aa4 (by omega)
           have HB:Hid (decide (mid<e∧e<b)=false):=Aa4 (fun h=>c1 h.1)
           clear c1
           go_wp2_with fail
           go_meet
           exact⟨by rw[HB.out],rfl⟩
          ·have t1:decide ((mid:Int)<(e:Int))=true:=Aa3 (by omega)
           have t1n:decide (mid<e)=true:=Aa3 (by omega)
           have t2:decide ((e:Int)<(b:Int))=false:=Aa4 (by omega)
           have t2n:decide (e<b)=false:=Aa4 (by omega)
           have HB:Hid (decide (mid<e∧e<b)=false):=Aa4 (fun h=>c2 h.2)
           clear c1 c2
           go_wp2_with fail
           go_meet
           exact⟨by rw[HB.out],rfl⟩
        case rest =>
         obtain⟨rfl,rfl⟩:=hcut
         obtain⟨b3,hb3⟩:∃q:Bool,decide (mid<e∧e<b)=q:=⟨_,rfl⟩
         rw[hb3]
         have HB3:=hI hb3
         clear hb3
         cases b3
         ·have HR3:=hI (HR2.out.same (HN2.out (by have h:=HB3.out;simp only[decide_eq_false_iff_not] at h;omega)))
          go_wp2_with fail
          go_end0
          exact⟨rfl,HR3.out⟩
         ·have hy:=HB3.out
          simp only[decide_eq_true_eq] at hy
          have HG:=hI (HI2.out hy.1 hy.2 _ HR2.out)
          clear hy
          go_wp2_with fail
          refine HG.out.mono ?_
          rintro e2 w7 ⟨rfl,hr7⟩
          have HR3:=hI hr7
          clear hr7 HG
          go_wp2_with fail
          go_end0
          exact⟨rfl,HR3.out.same HE9.out⟩
theorem Asw(V:Lot→Prop)(cf:Lot→Lot→Int)(lt:Lot→Lot→Bool)(hw:Weak lt)(w0:World)(g N c f:Nat)(bd:Array Value)(hlt:∀x y,V x→V y→decide (cf x y<0)=lt x y)(hC:CmpS V cf f bd w0 g)(sp:List Value)(hm:N≤1000000):∀(F a m b:Nat) (P L R Q:List Lot),b-a≤F →
 (P++(L++(R++Q))).length=N→P.length=a→a+L.length=m→m+R.length=b→a<m→m<b→AscS lt L→AscS lt R→∀w,SRow V w0 g sp (P++(L++(R++Q))) w →
 Calls Tryz.prog 151 #[.slice (some ⟨g,0,none⟩) N c,.int .i64 (a:Int),.int .i64 (m:Int),.int .i64 (b:Int),.func (.func f) #[] bd] w fun e w'=>e=.returned (.tuple #[])∧SRow V w0 g sp (P++(mrg lt L R++Q)) w':=by
 intro F
 induction F using Nat.strongRecOn with
 | ind F ih =>
   intro a m b P L R Q hF hN ha hl hr h0 h1 hL hR w hrow
   by_cases e1:a+1=m
   ·exact Ast V cf lt hw w0 g N c a m b f bd hlt hC sp P L R Q hN hm ha hl hr h0 h1 hL hR e1 w hrow
   ·by_cases e2:m+1=b
    ·exact Asu V cf lt hw w0 g N c a m b f bd hlt hC sp P L R Q hN hm ha hl hr h0 h1 hL hR e1 e2 w hrow
    ·exact Asv V cf lt hw w0 g N c a m b f bd hlt hC sp P L R Q hN hm ha hl hr h0 h1 hL hR e1 e2 F hF
      (fun a' m' b' P' L' R' Q' h=>ih (b'-a') h a' m' b' P' L' R' Q' (Aad _)) w hrow
theorem Asx(V:Lot→Prop)(cf:Lot→Lot→Int)(lt:Lot→Lot→Bool)(hw:Weak lt)(w0:World)(g N c f:Nat)(bd:Array Value)(hlt:∀x y,V x→V y→decide (cf x y<0)=lt x y)(hC:CmpS V cf f bd w0 g)(sp:List Value)(D0:List Lot)(hN:D0.length=N)(hm:N≤100000)(w:World)(hrow:SRow V w0 g sp D0 w):
 Calls Tryz.prog 120 #[.slice (some ⟨g,0,none⟩) N c,.int .i64 (N:Int),.func (.func f) #[] bd] w fun e w'=>e=.returned (.tuple #[])∧SRow V w0 g sp (ssort lt D0) w':=by
 obtain⟨ad,had⟩:∃ad:Addr,ad=⟨g,0,none⟩:=⟨_,rfl⟩
 have HINS:=hI (fun (D:List Lot) (a b:Nat) (hD:D.length=N) (hab:a≤b) (hb:b≤N) (W:World) (hW:SRow V w0 g sp D W)=>Asf V cf lt hw w0 g N c a b f bd hlt hC sp D hD (by omega) hab hb W hW)
 have HSYM:=hI (fun (a m b:Nat) (P L R Q:List Lot) (h1:(P++(L++(R++Q))).length=N) (h2:P.length=a) (h3:a+L.length=m) (h4:m+R.length=b) (h5:a<m) (h6:m<b) (h7:AscS lt L) (h8:AscS lt R) (W:World) (hW:SRow V w0 g sp (P++(L++(R++Q))) W)=>Asw V cf lt hw w0 g N c f bd hlt hC sp (by omega) (b-a) a m b P L R Q (Aad _) h1 h2 h3 h4 h5 h6 h7 h8 W hW)
 rw[←had] at HINS HSYM ⊢
 have HROW:=hI hrow
 have HNN:=hI hN
 have HWK:=hI hw
 clear had hrow hN hlt hC hw
 go_enter Tryz.func120,Tryz.ntmps120
 go_wp2_with fail
 go_loopw [7,8] (fun v7 v8 wr=>∃(a b:Nat) (D:List Lot),v7=.int .i64 (a:Int)∧v8=.int .i64 (b:Int)∧b=a+20∧a≤N∧D.length=N∧Fst lt 20 D0 a D∧SRow V w0 g sp D wr) (fun v7 _ _=>N-(intOf v7).toNat)
 case atStart=>exact⟨0,20,D0,rfl,rfl,rfl,by omega,HNN.out,Fst.start lt 20 D0,HROW.out⟩
 case round =>
  obtain⟨a,b,D,rfl,rfl,hb,haN,hlen,hfst,hrow⟩:=hrel
  have HR:=hI hrow
  have HF:=hI hfst
  have HLEN:=hI hlen
  clear hrow hfst hlen
  rcases Aam N b with hlt|hge
  ·have hcx:decide ((b:Int)≤(N:Int))=false:=Aa4 (by omega);have hcn:decide (b≤N)=false:=Aa4 (by omega);have hcq:¬b≤N:=by omega
   have HC1:=hI (HINS.out D a N HLEN.out haN (Aad _) _ HR.out)
   obtain⟨cs0,R0,hchk⟩:=HF.out.last lt (by rw[HNN.out];omega)
   rw[HNN.out] at hchk
   have HCHK:=hI hchk
   have HSL:Hid ((Adt lt D a N).length=N):=by rw[Hid,Adw lt D haN (by rw[HLEN.out];exact Aad _),HLEN.out]
   clear hchk hlt hb
   go_wp2_with fail
   refine HC1.out.mono ?_
   rintro e w1 ⟨rfl,hr1⟩
   have HR1:=hI hr1
   clear hr1 HC1 HR HF HLEN
   go_wp2_with fail
   go_loopw [6,7,8,9] (fun v6 _ _ _ wr=>∃(bs:Nat) (cs:List (List Lot)) (R D:List Lot),v6=.int .i64 (bs:Int)∧0<bs∧bs≤2*N+20∧D.length=N∧Chk lt bs D0 cs R D∧SRow V w0 g sp D wr) (fun v6 _ _ _ _=>N-(intOf v6).toNat)
   case atStart=>exact⟨20,cs0,R0,_,rfl,by omega,by omega,HSL.out,HCHK.out,HR1.out⟩
   case round =>
    clear HCHK HSL HR1 HROW
    obtain⟨bs,cs,R,D,rfl,hb0,hb1,hlen,hchk,hrow⟩:=hrel
    have HR:=hI hrow
    have HCHK:=hI hchk
    have HLEN:=hI hlen
    clear hrow hchk hlen
    rcases Aam bs N with hlt|hge
    ·have hcx:decide ((bs:Int)<(N:Int))=true:=Aa3 (by omega);have hcxn:decide (bs<N)=true:=Aa3 (by omega);have hcxq:bs<N:=by omega
     obtain⟨b2,hb2⟩:∃b2,b2=2*bs:=⟨_,rfl⟩
     have hw2:IntKind.i64.wrap (2*(bs:Int))=(b2:Int):=by rw[Aay];omega
     have hw2':IntKind.i64.wrap ((bs:Int)*2)=(b2:Int):=by rw[Aay];omega
     have HB2:=hI hb2
     have HBS:Hid (bs<N∧0<bs):=⟨hlt,hb0⟩
     clear hb2 hlt
     go_wp2_with fail
     go_loopw [7,8] (fun v7 v8 wr=>∃(a b:Nat) (ds cs:List (List Lot)) (D:List Lot),v7=.int .i64 (a:Int)∧v8=.int .i64 (b:Int)∧b=a+b2∧a≤N∧D.length=N∧Pas lt bs D0 R a ds cs D∧SRow V w0 g sp D wr) (fun v7 _ _=>N-(intOf v7).toNat)
     case atStart=>exact⟨0,b2,[],cs,D,rfl,rfl,by omega,by omega,HLEN.out,Pas.start lt HCHK.out,HR.out⟩
     case round =>
      clear HCHK HR HLEN
      obtain⟨a,b,ds,cs,D,rfl,rfl,hb,haN,hlen,hpas,hrow⟩:=hrel
      have HR:=hI hrow
      have HPAS:=hI hpas
      have HLEN:=hI hlen
      clear hrow hpas hlen
      obtain⟨m,hm1⟩:∃m,m=a+bs:=⟨_,rfl⟩
      have hbb:=HB2.out
      have hbs:=HBS.out
      have hwm:IntKind.i64.wrap ((a:Int)+(bs:Int))=(m:Int):=by rw[Aay];omega
      rcases Aam N b with hlt|hge
      ·have hcx:decide ((b:Int)≤(N:Int))=false:=Aa4 (by omega);have hcn:decide (b≤N)=false:=Aa4 (by omega);have hcq:¬b≤N:=by omega
       rcases Aam m N with hmN|hmN
       ·have hcm:decide ((m:Int)<(N:Int))=true:=Aa3 (by omega);have hcmn:decide (m<N)=true:=Aa3 (by omega);have hcmq:m<N:=by omega
        obtain⟨P,L,R',hD,hP,hL,hR0,hR1,hA1,hA2,cs',R'',hchk⟩:=HPAS.out.odd lt HWK.out (by rw[HNN.out];omega) (by rw[HNN.out];omega)
        have HCALL:=hI (HSYM.out a m N P L R' [] (by rw[←hD];exact HLEN.out) hP (by omega) (by rw[HNN.out] at hR1;omega) (by omega) hmN hA1 hA2 _ (hD▸HR.out))
        have HLM:Hid ((P++(mrg lt L R'++[])).length=N):=by rw[Hid,←HLEN.out,hD];simp[mrg_len]
        rw[←hbb] at hchk
        have HCHK:=hI hchk
        clear hD hP hL hR0 hR1 hA1 hA2 hchk hb hm1 hbb hbs hlt hmN
        go_wp2_with fail
        refine HCALL.out.mono ?_
        rintro e w3 ⟨rfl,hr3⟩
        have HR3:=hI hr3
        clear hr3 HCALL
        go_wp2_with fail
        go_roundw
        case rel=>exact⟨b2,cs',R'',_,rfl,by have:=HB2.out;have:=HBS.out;omega,by have:=HB2.out;have:=HBS.out;omega,HLM.out,HCHK.out,HR3.out⟩
        case measure=>have:=HB2.out;have:=HBS.out;simp[intOf];omega
       ·have hcm:decide ((m:Int)<(N:Int))=false:=Aa4 (by omega);have hcmn:decide (m<N)=false:=Aa4 (by omega);have hcmq:¬m<N:=by omega
        obtain⟨cs',R'',hchk⟩:=HPAS.out.even lt (by rw[HNN.out];omega) (by rw[HNN.out];omega)
        rw[←hbb] at hchk
        have HCHK:=hI hchk
        clear hchk hb hm1 hbb hbs hlt hmN
        go_wp2_with fail
        go_roundw
        case rel=>exact⟨b2,cs',R'',_,rfl,by have:=HB2.out;have:=HBS.out;omega,by have:=HB2.out;have:=HBS.out;omega,HLEN.out,HCHK.out,HR.out⟩
        case measure=>have:=HB2.out;have:=HBS.out;simp[intOf];omega
      ·have hcx:decide ((b:Int)≤(N:Int))=true:=Aa3 (by omega);have hcn:decide (b≤N)=true:=Aa3 (by omega);have hcq:b≤N:=by omega
       obtain⟨P,L,R',Q,hD,hP,hL,hR1,hA1,hA2,ds',cs',hpas⟩:=HPAS.out.two lt HWK.out (by rw[HNN.out];omega)
       have HCALL:=hI (HSYM.out a m b P L R' Q (by rw[←hD];exact HLEN.out) hP (by omega) (by omega) (by omega) (by omega) hA1 hA2 _ (hD▸HR.out))
       have HLM:Hid ((P++(mrg lt L R'++Q)).length=N):=by rw[Hid,←HLEN.out,hD];simp[mrg_len];omega
       rw[←hbb,←hb] at hpas
       have HPAS2:=hI hpas
       obtain⟨b3,hb3⟩:∃b3,b3=b+b2:=⟨_,rfl⟩
       have hw3:IntKind.i64.wrap ((b:Int)+(b2:Int))=(b3:Int):=by rw[Aay];omega
       have HB3:Hid (b3=b+b2∧a<b∧b≤N):=⟨hb3,by omega,by omega⟩
       clear hD hP hL hR1 hA1 hA2 hpas hb hm1 hbb hbs hge hb3
       go_wp2_with fail
       refine HCALL.out.mono ?_
       rintro e w3 ⟨rfl,hr3⟩
       have HR3:=hI hr3
       clear hr3 HCALL
       go_wp2_with fail
       go_roundw
       case rel=>exact⟨b,b3,ds',cs',_,rfl,rfl,HB3.out.1,HB3.out.2.2,HLM.out,HPAS2.out,HR3.out⟩
       case measure=>have:=HB3.out;simp[intOf];omega
    ·have hcx:decide ((bs:Int)<(N:Int))=false:=Aa4 (by omega);have hcxn:decide (bs<N)=false:=Aa4 (by omega);have hcxq:¬bs<N:=by omega
     have HF:=hI (HR.out.same (HCHK.out.end_ lt (by rw[HNN.out];exact hge)))
     go_wp2_with fail
     go_end0
     exact⟨rfl,HF.out⟩
  ·have hcx:decide ((b:Int)≤(N:Int))=true:=Aa3 (by omega);have hcn:decide (b≤N)=true:=Aa3 (by omega);have hcq:b≤N:=by omega
   have HC1:=hI (HINS.out D a b HLEN.out (by omega) hge _ HR.out)
   have hst:=HF.out.step lt (by rw[HNN.out];omega)
   rw[←hb] at hst
   have HST:=hI hst
   have HSL:Hid ((Adt lt D a b).length=N):=by rw[Hid,Adw lt D (by omega) (by rw[HLEN.out];exact hge),HLEN.out]
   obtain⟨b3,hb3⟩:∃b3,b3=b+20:=⟨_,rfl⟩
   have hw3:IntKind.i64.wrap ((b:Int)+20)=(b3:Int):=by rw[Aay];omega
   have HB3:Hid (b3=b+20∧a<b∧b≤N):=⟨hb3,by omega,by omega⟩
   clear hst hb hb3 hge
   go_wp2_with fail
   refine HC1.out.mono ?_
   rintro e w1 ⟨rfl,hr1⟩
   have HR1:=hI hr1
   clear hr1 HC1 HR HF HLEN
   go_wp2_with fail
   go_roundw
   case rel=>exact⟨b,b3,_,rfl,rfl,HB3.out.1,HB3.out.2.2,HSL.out,HST.out,HR1.out⟩
   case measure=>have:=HB3.out;simp[intOf];omega
theorem Asy(V:Lot→Prop)(cf:Lot→Lot→Int)(lt:Lot→Lot→Bool)(hw:Weak lt)(w0:World)(g N c f:Nat)(bd:Array Value)(hlt:∀x y,V x→V y→decide (cf x y<0)=lt x y)(hC:CmpS V cf f bd w0 g)(sp:List Value)(D0:List Lot)(hN:D0.length=N)(hm:N≤100000)(w:World)(hrow:SRow V w0 g sp D0 w):
 Calls Tryz.prog 80 #[.slice (some ⟨g,0,none⟩) N c,.func (.func f) #[] bd] w fun e w'=>e=.returned (.tuple #[])∧SRow V w0 g sp (ssort lt D0) w':=by
 have HS:=hI (Asx V cf lt hw w0 g N c f bd hlt hC sp D0 hN hm w hrow)
 clear hlt hC hrow hw hN
 go_enter Tryz.func80,Tryz.ntmps80
 go_wp2_with fail
 refine HS.out.mono ?_
 rintro e w1 ⟨rfl,h1⟩
 have HR:=hI h1
 clear h1
 go_wp2_with fail
 go_end0
 exact⟨rfl,HR.out⟩
theorem Asz(A:Option Addr)(c:Nat)(fv:Value)(w:World):
 Calls Tryz.prog 150 #[.slice A 0 c,.int .i64 0,.int .i64 0,fv] w fun e w'=>e=.returned (.tuple #[])∧w'=w:=by
 go_enter Tryz.func150,Tryz.ntmps150
 go_wp2_with fail
 refine wp_loop_rounds 1 ?_
 rw[rounds_succ]
 go_wp2_with fail
 go_end0
 exact⟨rfl,rfl⟩
theorem As0(A:Option Addr)(c f:Nat)(bd:Array Value)(w:World):
 Calls Tryz.prog 80 #[.slice A 0 c,.func (.func f) #[] bd] w fun e w'=>e=.returned (.tuple #[])∧w'=w:=by
 have HI:=hI (fun W=>Asz A c (.func (.func f) #[] bd) W)
 have hs:Calls Tryz.prog 120 #[.slice A 0 c,.int .i64 0,.func (.func f) #[] bd] w fun e w'=>e=.returned (.tuple #[])∧w'=w:=by
  go_enter Tryz.func120,Tryz.ntmps120
  go_wp2_with fail
  refine wp_loop_rounds 1 ?_
  rw[rounds_succ]
  go_wp2_with fail
  refine (HI.out _).mono ?_
  rintro e w1 ⟨rfl,rfl⟩
  go_wp2_with fail
  refine wp_loop_rounds 1 ?_
  rw[rounds_succ]
  go_wp2_with fail
  go_end0
  exact⟨rfl,rfl⟩
 have HS:=hI hs
 clear hs
 go_enter Tryz.func80,Tryz.ntmps80
 go_wp2_with fail
 refine HS.out.mono ?_
 rintro e w1 ⟨rfl,rfl⟩
 go_wp2_with fail
 go_end0
 exact⟨rfl,rfl⟩
def RvSt{α:Type}(D0:List α)(i j:Nat)(D:List α):Prop:=∃A M B,D0=A++(M++B)∧D=B.reverse++(M++A.reverse)∧A.length=i∧B.length=i∧i+M.length=j
theorem RvSt.done{α:Type}{D0 D:List α}{i j:Nat}(h:RvSt D0 i j D)(hj:j≤i+1):D=D0.reverse:=by
 obtain⟨A,M,B,rfl,rfl,_,_,hM⟩:=h
 match M,hM with
 | [],_=>simp
 | [x],_=>simp
 | x::y::M,hM=>simp at hM;omega
theorem RvSt.step{α:Type}{D0 D:List α}{i jp:Nat}(h:RvSt D0 i (jp+1) D)(hj:i<jp):RvSt D0 (i+1) jp (swp D i jp):=by
 obtain⟨A,M,B,rfl,rfl,hA,hB,hM⟩:=h
 obtain⟨x,M1,y,rfl⟩:∃x M1 y,M=x::(M1++[y]):=by
  match M,hM with
  | [],hM=>simp at hM;omega
  | [x],hM=>simp at hM;omega
  | x::z::M,_=>exact⟨x,(z::M).dropLast,(z::M).getLast (by simp),by rw[List.dropLast_concat_getLast]⟩
 simp at hM
 have e:B.reverse++(x::(M1++[y])++A.reverse)=B.reverse++x::(M1++y::A.reverse):=by simp
 rw[e,Adk B.reverse M1 A.reverse x y (by simp;omega) (by omega)]
 exact⟨A++[x],M1,y::B,by simp,by simp,by simp;omega,by simp;omega,by omega⟩
structure RVV(V:Lot→Prop)(w0:World)(g:Nat)(sp:List Value)(D:List Lot)(ad:Addr)(N c:Nat)(f:Nat)(i_ jp_:Nat)(x y:Lot)  (L:Array Bool) (W:World) (s14 s15 s16 s17 s18 s19 s20 s21 s22 s23 s24 s25 s26 s27:Value):Prop where
 k0:L.getD 0 false=true→s14=.slice (some ad) N c
 k1:L.getD 1 false=true→s15=.int .i64 (i_:Int)
 k2:L.getD 2 false=true→s16=.slice (some ad) N c
 k3:L.getD 3 false=true→s17=.int .i64 (jp_:Int)
 k4:L.getD 4 false=true→s18=.slice (some ad) N c
 k5:L.getD 5 false=true→s19=.int .i64 (jp_:Int)
 k6:L.getD 6 false=true→s20=.pointer (some (ad.add (jp_*7)))
 k7:L.getD 7 false=true→s21=.agg #[.string y.id,.string y.inst,.int .i64 y.acq,.int .i64 y.opn,.string y.qty,.string y.cost,.string y.used]
 k8:L.getD 8 false=true→s22=.slice (some ad) N c
 k9:L.getD 9 false=true→s23=.int .i64 (i_:Int)
 k10:L.getD 10 false=true→s24=.pointer (some (ad.add (i_*7)))
 k11:L.getD 11 false=true→s25=.agg #[.string x.id,.string x.inst,.int .i64 x.acq,.int .i64 x.opn,.string x.qty,.string x.cost,.string x.used]
 k12:L.getD 12 false=true→s26=.pointer (some (ad.add (i_*7)))
 k14:L.getD 14 false=true→s27=.pointer (some (ad.add (jp_*7)))
 r0:L.getD 13 false=false→SRow V w0 g sp D W
 r1:L.getD 13 false=true→L.getD 15 false=false→SRow V w0 g sp (D.set i_ y) W
 r2:L.getD 15 false=true→SRow V w0 g sp ((D.set i_ y).set jp_ x) W
 q1:L.getD 13 false=true→L.getD 11 false=true∧L.getD 7 false=true
 q2:L.getD 15 false=true→L.getD 13 false=true
structure RVJ(V:Lot→Prop)(w0:World)(g:Nat)(sp:List Value)(D:List Lot)(ad:Addr)(N c:Nat)(f:Nat)(i_ jp_:Nat)(x y:Lot)(x1 x4 x5 x6 x7 x8 x9 x10 x11 x12 x13:Value)(L:Array Bool)(a:Act)(W:World):Prop where
 sz:L.size=16
 fr:∃s14 s15 s16 s17 s18 s19 s20 s21 s22 s23 s24 s25 s26 s27:Value,a={tmps:=#[.slice (some ad) N c,x1,.int .i64 (i_:Int),.int .i64 (jp_:Int),x4,x5,x6,x7,x8,x9,x10,x11,x12,x13,s14,s15,s16,s17,s18,s19,s20,s21,s22,s23,s24,s25,s26,s27],defers:=[]}∧RVV V w0 g sp D ad N c f i_ jp_ x y  L W s14 s15 s16 s17 s18 s19 s20 s21 s22 s23 s24 s25 s26 s27
theorem As1(V:Lot→Prop)(w0:World)(g N c:Nat)(sp:List Value)(D0:List Lot)(hN:D0.length=N)(hm:N≤1000000)(w:World)(hrow:SRow V w0 g sp D0 w):
 Calls Tryz.prog 81 #[.slice (some ⟨g,0,none⟩) N c] w fun e w'=>e=.returned (.tuple #[])∧SRow V w0 g sp D0.reverse w':=by
 obtain⟨ad,had⟩:∃ad:Addr,ad=⟨g,0,none⟩:=⟨_,rfl⟩
 rw[←had]
 have HAD:=hI had
 have HROW:=hI hrow
 have HNN:=hI hN
 obtain⟨j0,hj0⟩:∃z:Int,z=(N:Int)-1:=⟨_,rfl⟩
 have hw1:IntKind.i64.wrap ((N:Int)-1)=j0:=by rw[hj0,Aay];omega
 have HJ0:=hI hj0
 clear had hrow hN hj0
 go_enter Tryz.func81,Tryz.ntmps81
 go_wp2_with fail
 go_loopw [2,3] (fun v2 v3 wr=>∃(i j:Nat) (D:List Lot),v2=.int .i64 (i:Int)∧v3=.int .i64 ((j:Int)-1)∧i≤N∧j≤N∧D.length=N∧RvSt D0 i j D∧SRow V w0 g sp D wr) (fun _ v3 _=>(intOf v3+1).toNat)
 case atStart=>exact⟨0,N,D0,rfl,by rw[HJ0.out],by omega,Aad _,HNN.out,⟨[],D0,[],by simp,by simp,rfl,rfl,by simp;exact HNN.out⟩,HROW.out⟩
 case round =>
  clear hw1
  obtain⟨i,j,D,rfl,rfl,hiN,hjN,hlen,hrv,hr⟩:=hrel
  have HR:=hI hr
  have HLEN:=hI hlen
  have HRV:=hI hrv
  clear hr hrv
  rcases Aam (i+1) j with hlt|hge
  ·obtain⟨jp,rfl⟩:∃jp,j=jp+1:=⟨j-1,by omega⟩
   rw[show ((jp+1:Nat):Int)-1=(jp:Int) from by omega]
   have hcx:decide ((i:Int)<(jp:Int))=true:=Aa3 (by omega);have hcxn:decide (i<jp)=true:=Aa3 (by omega);have hcxq:i<jp:=by omega
   have HL_i:Hid ((i:Int)<(N:Int)):=by show (i:Int)<_;omega
   have HL_jp:Hid ((jp:Int)<(N:Int)):=by show (jp:Int)<_;omega
   obtain⟨x,hx⟩:∃x,D[i]?=some x:=⟨_,Aae (by omega)⟩
   obtain⟨y,hy⟩:∃y,D[jp]?=some y:=⟨_,Aae (by omega)⟩
   have HX:Hid (D[i]?=some x):=hx
   have HY:Hid (D[jp]?=some y):=hy
   have HYV:Hid ((D.set i y)[jp]?=some y):=by rw[Hid,List.getElem?_set_ne (by omega)];exact hy
   have HVX:Hid (V x):=HR.out.ok x (Aas hx)
   have HVY:Hid (V y):=HR.out.ok y (Aas hy)
   have HSTEP:=hI (HRV.out.step (by omega))
   obtain⟨j2,hj2⟩:∃z:Int,z=(jp:Int)-1:=⟨_,rfl⟩
   have HW2:Hid (IntKind.i64.wrap ((jp:Int)-1)=j2):=by rw[Hid,hj2,Aay];omega
   have HJI:Hid (Value.int .i64 j2=.int .i64 ((jp:Int)-1)):=by rw[Hid,hj2]
   have HJ2:Hid (i+1≤N∧jp≤N):=⟨by omega,by omega⟩
   have HJ3:Hid (j2=(jp:Int)-1):=hj2
   have hrow0:=HR.out.drew
   clear hx hy hlen hj2 hlt
   go_upto_region 3 with fail
   have mixed:Tryz.prog.follows .mixedOrders=true:=by kernel_rfl
   refine wp_region_any mixed (Akw (RVJ V w0 g sp D ad N c 0 i jp x y _ _ _ _ _ _ _ _ _ _ _) ?stRV ?dnRV _ _ _ _ ⟨by simp,⟨_,_,_,_,_,_,_,_,_,_,_,_,_,_,rfl,fun h=>by simp at h,fun h=>by simp at h,fun h=>by simp at h,fun h=>by simp at h,fun h=>by simp at h,fun h=>by simp at h,fun h=>by simp at h,fun h=>by simp at h,fun h=>by simp at h,fun h=>by simp at h,fun h=>by simp at h,fun h=>by simp at h,fun h=>by simp at h,fun h=>by simp at h,fun _=>hrow0,fun h=>by simp at h,fun h=>by simp at h,fun h=>by simp at h,fun h=>by simp at h⟩⟩ (by decide))
   case dnRV =>
    intro L a w' hj hr
    have all:=Akv hr hj.sz (by kernel_rfl)
    obtain⟨s14,s15,s16,s17,s18,s19,s20,s21,s22,s23,s24,s25,s26,s27,rfl,hv⟩:=hj.fr
    have HRW:=hI (hv.r2 (all 15 (by omega)))
    clear all hv hj hr
    have hwr:=HW2.out
    go_wp2_with fail
    go_roundw
    case rel=>exact⟨i+1,jp,_,by go_num,HJI.out,HJ2.out.1,HJ2.out.2,by rw[List.length_set,List.length_set];exact HLEN.out,by have h:=HSTEP.out;rw[Adh HX.out HY.out] at h;exact h,HRW.out⟩
    case measure=>have:=HJ3.out;simp[intOf];omega
   case stRV =>
    intro L a w' hj i hi
    obtain⟨hun,o,ho,hall⟩:=mem_ready.1 hi
    have hoff:=Akk hun
    have hlt:=(Aab.1 ho).1
    simp at hlt
    obtain⟨s14,s15,s16,s17,s18,s19,s20,s21,s22,s23,s24,s25,s26,s27,rfl,hv⟩:=hj.fr
    have HV:=hI hv
    have HJ:=hI hj
    clear hv hj
    rcases (show i=0∨i=1∨i=2∨i=3∨i=4∨i=5∨i=6∨i=7∨i=8∨i=9∨i=10∨i=11∨i=12∨i=13∨i=14∨i=15 from by omega) with rfl|rfl|rfl|rfl|rfl|rfl|rfl|rfl|rfl|rfl|rfl|rfl|rfl|rfl|rfl|rfl
    all_goals simp at ho
    all_goals subst ho
    rotate_left
    rotate_left
    rotate_left
    rotate_left
    rotate_left
    rotate_left
    cases HV.out.k4 (Hq hall 4).out
    cases HV.out.k5 (Hq hall 5).out
    have h0:=HL_jp.out
    rotate_left
    cases HV.out.k6 (Hq hall 6).out
    have ho:L.getD 13 false=false:=by rcases Akr L 13 with h|h;exact h;exact (Akq hoff (HV.out.q1 h).2).elim
    obtain⟨c0,c1,c2,c3,c4,c5,c6⟩:=(HV.out.r0 ho).at' HAD.out HY.out
    rotate_left
    rotate_left
    rotate_left
    cases HV.out.k8 (Hq hall 8).out
    cases HV.out.k9 (Hq hall 9).out
    have h0:=HL_i.out
    rotate_left
    cases HV.out.k10 (Hq hall 10).out
    have ho:L.getD 13 false=false:=by rcases Akr L 13 with h|h;exact h;exact (Akq hoff (HV.out.q1 h).1).elim
    obtain⟨c0,c1,c2,c3,c4,c5,c6⟩:=(HV.out.r0 ho).at' HAD.out HX.out
    rotate_left
    cases HV.out.k0 (Hq hall 0).out
    cases HV.out.k1 (Hq hall 1).out
    have h0:=HL_i.out
    rotate_left
    ·have H7:=Hq hall 7
     have H11:=Hq hall 11
     cases HV.out.k12 (Hq hall 12).out
     cases HV.out.k7 (Hq hall 7).out
     clear hall hi
     have ho2:L.getD 15 false=false:=by rcases Akr L 15 with h|h;exact h;exact (Akq hoff (HV.out.q2 h)).elim
     obtain⟨wn,hrun,hrow⟩:=(HV.out.r0 hoff).st HAD.out HX.out HVY.out
     refine Akt rfl fun K' HK=>?_
     refine Ar7 hrun rfl _ _ rfl rfl rfl ?_
     go_simp
     cases HV.out
     refine HK.out _ _ ⟨by simp[HJ.out.sz],⟨_,_,_,_,_,_,_,_,_,_,_,_,_,_,rfl,?_,?_,?_,?_,?_,?_,?_,?_,?_,?_,?_,?_,?_,?_,fun h=>(Akq h (Aki hun)).elim,fun _ _=>hrow,fun h=>(Akq hoff (HV.out.q2 (Uz h))).elim,fun _=>⟨Akm hun H11.out,Akm hun H7.out⟩,fun h=>(Akq hoff (HV.out.q2 (Uz h))).elim⟩⟩
     all_goals exact Um (by assumption)
    cases HV.out.k2 (Hq hall 2).out
    cases HV.out.k3 (Hq hall 3).out
    have h0:=HL_jp.out
    rotate_left
    ·have H13:=Hq hall 13
     cases HV.out.k14 (Hq hall 14).out
     cases HV.out.k11 (Hq hall 11).out
     clear hall hi
     obtain⟨wn,hrun,hrow⟩:=(HV.out.r1 H13.out hoff).st HAD.out HYV.out HVX.out
     refine Akt rfl fun K' HK=>?_
     refine Ar7 hrun rfl _ _ rfl rfl rfl ?_
     go_simp
     cases HV.out
     refine HK.out _ _ ⟨by simp[HJ.out.sz],⟨_,_,_,_,_,_,_,_,_,_,_,_,_,_,rfl,?_,?_,?_,?_,?_,?_,?_,?_,?_,?_,?_,?_,?_,?_,fun h=>(Akq (Dz h) H13.out).elim,fun _ h=>(Akq h (Aki hun)).elim,fun _=>hrow,fun h=>⟨Akm hun (HV.out.q1 (Uz h)).1,Akm hun (HV.out.q1 (Uz h)).2⟩,fun _=>Akm hun H13.out⟩⟩
     all_goals exact Um (by assumption)
    all_goals
     clear hall hi
     refine Akt rfl fun K' HK=>?_
     go_simp
     cases HV.out
     refine HK.out _ _ ⟨by simp[HJ.out.sz],?_⟩
     iterate 14 apply Exists.intro
     refine⟨rfl,?_⟩
     constructor
     all_goals first|exact Um (by assumption)|exact Un (by assumption)|exact Uf (by assumption)|exact fun _=>rfl|assumption|exact Uq hun (by assumption)|exact Uq2 hun (by assumption)|exact Uq3 hun (by assumption)
  ·have hcx:decide ((i:Int)<(j:Int)-1)=false:=Aa4 (by omega)
   have HF:=hI (HR.out.same (HRV.out.done (by omega)))
   clear hlen
   go_wp2_with fail
   go_end0
   exact⟨rfl,HF.out⟩
end Go.Proofs.YtcmgmemffncbhabGreatDoor
