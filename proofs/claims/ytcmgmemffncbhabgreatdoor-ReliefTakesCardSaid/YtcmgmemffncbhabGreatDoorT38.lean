/-
  The walk of relief.Order.
-/
import Derived.Test.YtcmgmemffncbhabGreatDoorT37
import Derived.Test.YtcmgmemffncbhabGreatDoorT34
import Derived.BigQuiet
import Derived.Deep.DeepCutAuto
set_option linter.unusedVariables false
set_option linter.unusedSimpArgs false
set_option maxHeartbeats 16000000
set_option maxRecDepth 100000
namespace Go.Proofs.YtcmgmemffncbhabGreatDoor
open Go.RowKit Tr Go.Shelf
theorem At3(m:Int)(D:List Lot):ordB (ltM m) (decide (m=2)) D=ordP m D:=by
 unfold ordB ordP
 by_cases h:m=2
 ·subst h;rfl
 ·rw[if_neg (by simpa using h),if_neg h]
theorem At4(m:Int)(bf:Nat)(n₀:Nat)(A:Option Addr)(ls:List SLot)(c:Nat)(hlen:ls.length≤100000)(w:World)(hR:RdB n₀ w A ls)(hn:n₀≤w.heap.size)(hA:A=none→ls.length=0∧c=0)(hq:∀l∈ls,0<vl l.1.qty)(hbf:FnBox w bf)(ht:Tabs w):
 Calls Tryz.prog 46 #[.agg (entM m bf),.slice A ls.length c] w fun e w'=>∃sl:List SLot,sl.map Subtype.val=ordP m (ls.map Subtype.val)∧Att w sl e w':=by
 have hbl:=(Aab.1 hbf).1
 refine (Atu (nmM m) (fnM m) (bdM m bf) (decide (m=2)) (cfM m) (ltM m) (Aqb m) (fun x y hx hy=>cfM_lt m hx.2 hy.2) n₀ A ls c hlen w hR hn hA hq
  (fun W g hb hg=>Asp m bf w W g ht hb hg ((hb.block bf hbl).trans hbf) (by omega))).mono ?_
 rintro e w' ⟨sl,h1,h2⟩
 exact⟨sl,by rw[h1,At3],h2⟩
theorem At5(w:World)(vals:Array Value)(hv:vals.size=3)(h1:∀u∈vals.toList,u.oneCell'=true):
 ∃W3 W4,w.alloc (.cells #[.string ⟨#[]⟩,.nilFunc,.bool false] 67)=W3∧(Instr.storeAt 67 (.pointer (some ⟨w.heap.size,0,none⟩)) (.agg vals)).run Tryz.prog W3=.ok () W4∧W4.heap[w.heap.size]?=some (.cells vals 67 (0,0))∧Below w.heap.size w W4:=by
 have k:(w.alloc (.cells #[.string ⟨#[]⟩,.nilFunc,.bool false] 67)).heap[w.heap.size]?=some (.cells #[.string ⟨#[]⟩,.nilFunc,.bool false] 67 (0,0)):=Aa5 w _
 exact⟨_,_,rfl,run_store_row _ w.heap.size 3 67 _ vals (by kernel_rfl) k rfl hv h1,setRow_heap _ _ _ _ _ _ k,below_setRow ((Below.refl _ w).alloc (Aad _) _) (Aad _) _⟩
theorem ent_one(m:Int)(bf:Nat):∀u∈(entM m bf).toList,u.oneCell'=true:=by
 intro u hu
 unfold entM at hu
 simp at hu
 rcases hu with rfl|rfl|rfl<;>rfl
def badP(p:Pk):Bool:=!(decide (I (vl p.qty)=p.qty)&&decide (0<vl p.qty))
theorem At6{p:Pk}(h:badP p=false):Can p.qty∧0<vl p.qty:=by
 unfold badP at h
 simp at h
 exact⟨h.1,h.2⟩
theorem At7(p:Pk)(hp:p.qty.size≤1000)(w:World):
 Calls Tryz.prog 37 #[p.enc] w fun e w'=>e=.returned (.bool (badP p))∧Below w.heap.size w w':=by
 obtain⟨W0,hW0⟩:∃W0,w.alloc (.cells p.cells 43)=W0:=⟨_,rfl⟩
 have hb:Below w.heap.size w W0:=by rw[←hW0];exact (Below.refl _ w).alloc (Aad _) _
 have k1:PkBox W0 w.heap.size p:=by rw[←hW0];exact Aa5 w _
 have d1:=Aaa k1 1
 simp[Pk.cells] at d1
 have HB:=hI hb
 have HK:=hI k1
 have HPO:=hI (fun W=>Ar0 p.qty (by omega) W)
 have HBP:Hid (badP p=!(decide (I (vl p.qty)=p.qty)&&decide (0<vl p.qty))):=rfl
 obtain⟨bp,hbp⟩:∃b,badP p=b:=⟨_,rfl⟩
 rw[hbp]
 have HE:=hI hbp
 clear k1 hb hbp
 unfold Pk.cells at hW0
 unfold Pk.enc Pk.cells
 by_cases hc:Can p.qty
 ·have HC:=hI (fun W=>Agq p.qty W (by omega) hc)
  have HD:Hid (decide (I (vl p.qty)=p.qty)=true):=Aa3 hc
  clear hc hp
  go_enter Tryz.func37,Tryz.ntmps37
  go_wp2_with fail
  refine (HC.out _).mono ?_
  rintro e w1 ⟨rfl,b1⟩
  have HB1:=hI (HB.out.trans (b1.mono HB.out.size))
  have hk:=HK.out.below b1
  have e1:=Aaa hk 1
  simp[Pk.cells] at e1
  clear b1 hk d1
  go_wp2_with fail
  refine (HPO.out _).mono ?_
  rintro e w2 ⟨rfl,b2⟩
  have HB2:=hI (HB1.out.trans (b2.mono HB1.out.size))
  clear b2 e1
  go_wp2_with fail
  go_ret
  exact⟨by rw[←HE.out,HBP.out,HD.out];cases decide (0<vl p.qty)<;>rfl,HB2.out⟩
 ·have HC:=hI (fun W=>Agr p.qty W (by omega) hc)
  have HD:Hid (decide (I (vl p.qty)=p.qty)=false):=Aa4 hc
  clear hc hp
  go_enter Tryz.func37,Tryz.ntmps37
  go_wp2_with fail
  refine (HC.out _).mono ?_
  rintro e w1 ⟨rfl,b1⟩
  have HB1:=hI (HB.out.trans (b1.mono HB.out.size))
  clear b1 d1
  go_wp2_with fail
  go_ret
  exact⟨by rw[←HE.out,HBP.out,HD.out];rfl,HB1.out⟩
theorem At8(w:World)(ps:List Pk)(h:∀p∈ps,p.qty.size≤1000):PkClo badP 37 #[] w ps :=
 ⟨enters_of Tryz.func37 (by kernel_rfl) rfl,fun W _ p hp=>At7 p (h p hp) W⟩
open Classical in
noncomputable def chsE(lz:List Lot)(s q:ByteArray)(m:Int)(ps:List Pk):Int :=
 if lall lz≠0∨¬Can q then 1
 else if m=5∧ps.any badP=true then 1
 else if ¬(1≤m∧m≤6) then 7
 else if vl q≤0 then 2
 else if totQ (ownB lz s)<vl q then 15 else 0
section
variable {lz:List Lot} {s q:ByteArray} {m:Int} {ps:List Pk}
theorem At9(h:lall lz≠0∨¬Can q):chsE lz s q m ps=1:=by unfold chsE;rw[if_pos h]
theorem Aua(h:lall lz=0)(hc:Can q)(h2:m=5∧ps.any badP=true):chsE lz s q m ps=1:=by unfold chsE;rw[if_neg (fun x=>x.elim (fun y=>y h) (fun y=>y hc)),if_pos h2]
theorem Aub(h:lall lz=0)(hc:Can q)(h2:¬(m=5∧ps.any badP=true))(h3:¬(1≤m∧m≤6)):chsE lz s q m ps=7:=by unfold chsE;rw[if_neg (fun x=>x.elim (fun y=>y h) (fun y=>y hc)),if_neg h2,if_pos h3]
theorem Auc(h:lall lz=0)(hc:Can q)(h2:¬(m=5∧ps.any badP=true))(h3:1≤m∧m≤6)(h4:vl q≤0):chsE lz s q m ps=2:=by unfold chsE;rw[if_neg (fun x=>x.elim (fun y=>y h) (fun y=>y hc)),if_neg h2,if_neg (fun x=>x h3),if_pos h4]
theorem Aud(h:lall lz=0)(hc:Can q)(h2:¬(m=5∧ps.any badP=true))(h3:1≤m∧m≤6)(h4:0<vl q)(h5:totQ (ownB lz s)<vl q):chsE lz s q m ps=15:=by unfold chsE;rw[if_neg (fun x=>x.elim (fun y=>y h) (fun y=>y hc)),if_neg h2,if_neg (fun x=>x h3),if_neg (by omega),if_pos h5]
theorem Aue(h:lall lz=0)(hc:Can q)(h2:¬(m=5∧ps.any badP=true))(h3:1≤m∧m≤6)(h4:0<vl q)(h5:vl q≤totQ (ownB lz s)):chsE lz s q m ps=0:=by unfold chsE;rw[if_neg (fun x=>x.elim (fun y=>y h) (fun y=>y hc)),if_neg h2,if_neg (fun x=>x h3),if_neg (by omega),if_neg (by omega)]
end
def Auf(w:World)(lz:List Lot)(s q:ByteArray)(m:Int)(ps:List Pk)(e:Ending)(w':World):Prop :=
 ∃(A:Option Addr) (c:Nat) (res:List Pk),e=.returned (.tuple #[.slice A res.length c,.int .i64 (chsE lz s q m ps)])∧Below w.heap.size w w'∧RdK w'.heap.size w' A res∧res.length≤c ∧
  (chsE lz s q m ps≠0→res=[])∧(chsE lz s q m ps=0→res=pksOf (chsSt (ownB lz s) m (vl q) ps).1)
theorem Aug{w w':World}{lz:List Lot}{s q:ByteArray}{m:Int}{ps:List Pk}{E:Int}(h:chsE lz s q m ps=E)(h0:E≠0)(hb:Below w.heap.size w w'):Auf w lz s q m ps (.returned (.tuple #[.slice none 0 0,.int .i64 E])) w' :=
 ⟨none,0,[],by rw[h];rfl,hb,RdK.nil _ _ _,Nat.zero_le _,fun _=>rfl,fun e=>absurd (h.symm.trans e) h0⟩
theorem Auh{z:Int}{a:ByteArray}(h0:0≤z)(h1:z≤vl a):(I z).size≤a.size+1:=by
 refine Aen ?_
 have h:=vl_lt a
 generalize (10:Nat)^a.size=K at *
 omega
theorem sumA_nn:∀ {out:Am},(∀a∈out,0<a.2)→0≤sumA out
 | [],_=>Int.le_refl _
 | a::r,h=>by
   have h1:=h a (Aaw ..)
   have h2:=sumA_nn (out:=r) (fun b hb=>h b (Aax _ hb))
   rw[sumA];omega
theorem InvA.q_le{own:List Lot}{q0:Int}{st:Am×Int}(h:InvA own q0 st):st.2≤q0:=by
 have h1:=sumA_nn h.pos
 have h2:=h.sum
 omega
theorem addA_len:∀(out:Am) (id:ByteArray) (n:Int),(addA out id n).length≤out.length+1
 | [],_,_=>Aad _
 | a::r,id,n=>by
   rw[addA]
   split
   ·simp
   ·have:=addA_len r id n
    simp only[Aa0];omega
theorem Aui(st:Am×Int)(x:Lot)(mo:Int):(tk st x mo).1.length≤st.1.length+1:=by
 unfold tk
 split
 ·exact addA_len _ _ _
 ·exact Nat.le_succ _
theorem LotAt.keep{w w':World}{p:Addr}{l:Lot}(h:LotAt w p l)(hk:w'.heap[p.block]?=w.heap[p.block]?):LotAt w' p l :=
 ⟨(World.cell?_of_block hk).trans h.c0,(World.cell?_of_block (a:=⟨p.block,p.off+1,none⟩) hk).trans h.c1,(World.cell?_of_block (a:=⟨p.block,p.off+2,none⟩) hk).trans h.c2,(World.cell?_of_block (a:=⟨p.block,p.off+3,none⟩) hk).trans h.c3,(World.cell?_of_block (a:=⟨p.block,p.off+4,none⟩) hk).trans h.c4,(World.cell?_of_block (a:=⟨p.block,p.off+5,none⟩) hk).trans h.c5,(World.cell?_of_block (a:=⟨p.block,p.off+6,none⟩) hk).trans h.c6⟩
theorem Auj(n:Nat)(hn:1000≤n)(sl:List SLot)(h:sl.length≤10000):(I (totQ (sl.map Subtype.val))).size≤n+6:=by
 suffices hh:(totQ (sl.map Subtype.val)).natAbs<10^(5+n) by
  have:=Aen hh
  omega
 rw[Arg]
 have h1:=sumBy_bd (f:=qtyOf) (K:=10^n) (fun x=>Aah (vl_lt x.1.qty) (Aep (Aap x.2.2.2.1 hn))) sl
 rw[Nat.pow_add]
 have h0:0<(10:Nat)^n:=Nat.pow_pos (by decide)
 generalize (10:Nat)^n=K at *
 have h2:sl.length*K≤10000*K:=Nat.mul_le_mul_right _ h
 omega
theorem ChS.lots{wT w0 W:World}{Bo Bq:Nat}{g0:Option Nat}{st:Am×Int}{v:Value}(h:ChS wT w0 Bo Bq g0 st v W){A:Option Addr}{sl:List SLot}(hR:RdB w0.heap.size w0 A sl)(hb:∀ad,A=some ad→ad.block<w0.heap.size→ad.block≠Bo∧ad.block≠Bq∧some ad.block≠g0):RdB w0.heap.size W A sl:=by
 intro hl
 obtain⟨ad,rfl,h1,h2⟩:=hR hl
 obtain⟨n1,n2,n3⟩:=hb ad rfl h1
 exact⟨ad,rfl,h1,fun j l hj=>(h2 j l hj).keep (by rw[Acv];exact h.keep _ h1 n1 n2 n3)⟩
theorem take_in(wT w0:World)(Bo Bq:Nat)(g0:Option Nat)(own:List Lot)(q:ByteArray)(hq:q.size≤1000)(hid:(own.map Lot.id).Nodup)(hne:Bo≠Bq)(ht:Tabs wT)(st:Am×Int)(v:Value)(x:Lot)(hx:x∈own)(hxs:x.sized)(hxc:Can x.qty)(mo:Int)(hmo:(I mo).size≤2000)
 (hinv:InvA own (vl q) st) (hos:∀y∈own,y.sized) (hlen:st.1.length≤100000) (W:World) (hS:ChS wT w0 Bo Bq g0 st v W) :
 Calls Tryz.prog 42 #[x.enc,.string (I mo),.pointer (some ⟨Bo,0,none⟩),.pointer (some ⟨Bq,0,none⟩)] W fun e w'=>e=.returned (.tuple #[])∧∃v',ChS wT w0 Bo Bq g0 (tk st x mo) v' w'∧InvA own (vl q) (tk st x mo)∧(tk st x mo).1.length≤st.1.length+1:=by
 have hxq:=hxs.2.2.1
 have h1:=hinv.le x hx
 have h2:=hinv.nn x.id
 refine (Ate wT w0 Bo Bq g0 st.1 st.2 v x hxs hxc mo hne hlen (Aap (Auh hinv.q hinv.q_le) (by omega)) (fun a ha=>?_) (Aap (Auh (a:=x.qty) (by omega) (by omega)) (by omega)) hmo ht W hS).mono ?_
 ·obtain⟨y,hy,e⟩:=hinv.sub a ha
  have hyq:=(hos y hy).2.2.1
  have h3:=hinv.le y hy
  rw[e,Aqh hinv.nd ha] at h3
  exact Aap (Auh (a:=y.qty) (Int.le_of_lt (hinv.pos a ha)) h3) (by omega)
 ·rintro e w' ⟨rfl,v',h⟩
  exact⟨rfl,v',h,hinv.tk hid hx mo,Aui st x mo⟩
end Go.Proofs.YtcmgmemffncbhabGreatDoor
namespace Go.Proofs.YtcmgmemffncbhabGreatDoor
open Go.RowKit Tr Go.Shelf
structure PBV(wS:World)(p:Pk)(x:Lot)(Bp:Nat)(ad:Addr)(N c i:Nat)(z:Int)(bz:Bool)  (L:Array Bool) (W:World) (s58 s59 s60 s61 s62 s63 s64 s65 s66 s67:Value):Prop where
 k0:L.getD 0 false=true→s59=.pointer (some ⟨Bp,1,none⟩)
 k1:L.getD 1 false=true→s60=.string p.qty
 k2:L.getD 2 false=true→s61=.slice (some ad) N c
 k3:L.getD 3 false=true→s62=.int .i64 (i:Int)
 k4:L.getD 4 false=true→s63=.pointer (some (ad.add (i*7)))
 k5:L.getD 5 false=true→s64=.pointer (some ⟨(ad.add (i*7)).block,(ad.add (i*7)).off+4,none⟩)
 k6:L.getD 6 false=true→s65=.string x.qty
 k7:L.getD 7 false=true→s66=.int .i64 z
 k8:L.getD 8 false=true→s67=.bool bz
 k9:L.getD 9 false=true→s58=.bool bz
 g:Below wS.heap.size wS W
structure PBJ(wS:World)(p:Pk)(x:Lot)(Bp:Nat)(ad:Addr)(N c i:Nat)(z:Int)(bz:Bool)(x1 x2 x3 x4 x5 x6 x7 x10 x11 x12 x13 x14 x15 x16 x17 x18 x19 x20 x21 x22 x23 x24 x25 x26 x27 x28 x29 x30 x31 x32 x33 x34 x35 x36 x37 x38 x39 x40 x41 x42 x43 x44 x45 x46 x47 x48 x49 x50 x51 x52 x53 x54 x55 x56 x57 x68:Value)(L:Array Bool)(a:Act)(W:World):Prop where
 sz:L.size=10
 fr:∃s58 s59 s60 s61 s62 s63 s64 s65 s66 s67:Value,a={tmps:=#[.slice (some ad) N c,x1,x2,x3,x4,x5,x6,x7,.pointer (some ⟨Bp,0,none⟩),.int .i64 (i:Int),x10,x11,x12,x13,x14,x15,x16,x17,x18,x19,x20,x21,x22,x23,x24,x25,x26,x27,x28,x29,x30,x31,x32,x33,x34,x35,x36,x37,x38,x39,x40,x41,x42,x43,x44,x45,x46,x47,x48,x49,x50,x51,x52,x53,x54,x55,x56,x57,s58,s59,s60,s61,s62,s63,s64,s65,s66,s67,x68],defers:=[]}∧PBV wS p x Bp ad N c i z bz  L W s58 s59 s60 s61 s62 s63 s64 s65 s66 s67
theorem Auk(p:Pk)(Bx:Nat)(a:Pk)(w:World)(h:PkBox w Bx p):
 Calls Tryz.prog 48 #[a.enc,.pointer (some ⟨Bx,0,none⟩)] w fun e w'=>e=.returned (.bool (decide (a.lot=p.lot)))∧Below w.heap.size w w':=by
 obtain⟨W0,hW0⟩:∃W0,w.alloc (.cells a.cells 43)=W0:=⟨_,rfl⟩
 have hb:Below w.heap.size w W0:=by rw[←hW0];exact (Below.refl _ w).alloc (Aad _) _
 have k1:PkBox W0 w.heap.size a:=by rw[←hW0];exact Aa5 w _
 have k0:PkBox W0 Bx p:=h.below hb
 have c0:=Aaa k0 0
 have d0:=Aaa k1 0
 simp[Pk.cells] at c0 d0
 have hse:=Aj8 a.lot p.lot
 have HB:=hI hb
 clear k0 k1 h hb
 unfold Pk.cells at hW0
 unfold Pk.enc Pk.cells
 go_enter Tryz.func48,Tryz.ntmps48
 go_wp2_with fail
 go_ret
 exact⟨rfl,HB.out⟩
theorem Aum(p:Pk)(Bx:Nat)(w:World)(ps:List Pk)(h:PkBox w Bx p):PkClo (fun a=>decide (a.lot=p.lot)) 48 #[.pointer (some ⟨Bx,0,none⟩)] w ps :=
 ⟨enters_of Tryz.func48 (by kernel_rfl) rfl,fun W hW q _=>Auk p Bx q W (h.below hW)⟩
theorem Aun(W:World)(ad:Addr)(m c j:Nat)(hj:j≤c):(Instr.sliceAt 24 (.slice (some ad) m c) none (some (.int .i64 (j:Int))) none).run Tryz.prog W=.ok (.slice (some ad) j c) W:=by
 have ht:Tryz.prog.underlying 24=some (.slice (Tryz.prog.elem 24)):=by kernel_rfl
 have hz:(sizeOf (Tryz.prog.elem 24)).run Tryz.prog W=.ok 2 W:=by kernel_rfl
 rw[run_sliceAt_slice W _ _ _ _ _ ht,run_slice_h W _ _ _ _ ht .i64 _ (by omega) (by omega),hz]
 have e:ad.add 0=ad:=by unfold Addr.add;simp
 simp[Result.andThen,sliced,e]
def IoAt(W:World)(io:Option ByteArray)(v:Value):Prop:=(io=none∧v=.pointer none)∨∃s Bi,io=some s∧v=.pointer (some ⟨Bi,0,none⟩)∧Boxed W Bi 9 (.string s)
theorem IoAt.below{W W':World}{io:Option ByteArray}{v:Value}(h:IoAt W io v)(hb:Below W.heap.size W W'):IoAt W' io v:=by
 rcases h with h|⟨s,Bi,h1,h2,h3⟩
 ·exact .inl h
 ·exact .inr ⟨s,Bi,h1,h2,(hb.block Bi h3.lt).trans h3⟩
theorem Aup(n₀:Nat)(A:Option Addr)(ls:List SLot)(c:Nat)(hlen:ls.length≤100000)(io:Option ByteArray)(pv:Value)(Ap:Option Addr)(ps:List Pk)(cp:Nat)(hpl:ps.length≤10000)(hcp:ps.length≤cp)(hps:∀p∈ps,p.qty.size≤1000)(w:World)
 (hR:RdB n₀ w A ls) (hn:n₀≤w.heap.size) (hK:RdK n₀ w Ap ps) (hio:IoAt w io pv) :
 Calls Tryz.prog 20 #[.slice A ls.length c,pv,.slice Ap ps.length cp] w fun e w'=>e=.returned (.int .i64 (posE (ls.map Subtype.val) io [] ps))∧Below w.heap.size w w':=by
 obtain⟨lz,hlz⟩:∃lz,ls.map Subtype.val=lz:=⟨_,rfl⟩
 have hlzn:lz.length=ls.length:=by rw[←hlz,Aar]
 have HFI:=fun (id:ByteArray) W (hW:Below w.heap.size w W)=>Aru n₀ A (ls.map Subtype.val) c id (by rw[Aar];omega) W ((hR.below (hW.mono hn)).rdb') (Aap hn hW.size)
 rw[Aar,hlz] at HFI
 rw[hlz]
 obtain⟨N,hN⟩:∃N,ls.length=N:=⟨_,rfl⟩
 obtain⟨P,hP⟩:∃P,ps.length=P:=⟨_,rfl⟩
 rw[hN] at HFI ⊢
 rw[hP] at hpl hcp ⊢
 replace HFI:=hI HFI
 have HCN0:=hI (fun (p:Pk) (Bp k:Nat) (hk:k≤P) W (hW:Below w.heap.size w W) (hb:PkBox W Bp p)=>Ar4 (fun a=>decide (a.lot=p.lot)) 48 #[.pointer (some ⟨Bp,0,none⟩)] n₀ Ap (ps.take k) cp (by rw[Aat];omega) W ((hK.below (hW.mono hn)).take k) (Aap hn hW.size) (Aum p Bp W _ hb))
 have HR:=hI hR
 have HKP:=hI hK
 have HPZ:=hI hps
 have HIOA:=hI hio
 have HN:=hI hN
 have HP:=hI hP
 have HLZ:=hI hlz
 clear hR hK hps hio hN hP hlz hlzn
 go_enter Tryz.func20,Tryz.ntmps20
 go_wp2_with fail
 go_loopw [13] (fun v wr=>∃k:Nat,v=.int .i64 (k:Int)∧k≤P∧posE lz io [] ps=posE lz io (ps.take k) (ps.drop k)∧Below w.heap.size w wr) (fun v _=>P-(intOf v).toNat)
 case atStart=>exact⟨0,rfl,by omega,rfl,Below.refl _ _⟩
 case round =>
  obtain⟨k,rfl,hkP,hrl,hb⟩:=hrel
  have HREL0:=hI hrl
  have HB:=hI hb
  clear hrl hb
  rcases Aam k P with hlt|hge
  ·obtain⟨p,hp⟩:∃p,ps[k]?=some p:=⟨_,Aae (by rw[HP.out];exact hlt)⟩
   obtain⟨ad,rfl,had,hcell⟩:=HKP.out (by intro e;rw[e] at hp;cases hp)
   have hcx:decide ((k:Int)<(P:Int))=true:=by simp;omega
   obtain⟨c0,c1⟩:=(hcell k p hp).below (HB.out.mono hn) (by rw[Acv];exact had)
   have hdr:ps.drop k=p::ps.drop (k+1):=by
    obtain⟨h1,h2⟩:=Aak.1 hp
    rw[←h2,Aa2 h1]
   have HREL:Hid (posE lz io [] ps=posE lz io (ps.take k) (p::ps.drop (k+1))):=by rw[Hid,←hdr];exact HREL0.out
   have HTK:Hid (ps.take k++[p]=ps.take (k+1)):=(Amq hp).symm
   have HPQ:Hid (p.qty.size≤1000):=HPZ.out p (Aas hp)
   obtain⟨W5,hW5⟩:∃W5,wr.alloc (.cells p.cells 43)=W5:=⟨_,rfl⟩
   have b5:Below wr.heap.size wr W5:=by rw[←hW5];exact (Below.refl _ wr).alloc (Aad _) _
   have k5:PkBox W5 wr.heap.size p:=by rw[←hW5];exact Aa5 wr _
   have HB5:=hI (HB.out.trans (b5.mono HB.out.size))
   have HK5:=hI k5
   have HF:=hI (HFI.out p.lot W5 HB5.out)
   have d0:=Aaa k5 0
   simp[Pk.cells] at d0
   clear b5 k5 hcell hp hdr had HREL0
   unfold Pk.cells at hW5
   go_wp2_with fail
   refine HF.out.mono ?_
   rintro e w6 ⟨rfl,b6⟩
   have HB6:=hI (HB5.out.trans (b6.mono HB5.out.size))
   have HK6:=hI (HK5.out.below b6)
   clear b6 HK5 HB5 d0 HF c0 c1
   cases hlo:lotOf lz p.lot with
   | none =>
     rw[Aqr hlo]
     have HE:=hI (Aq6 (io:=io) (pre:=ps.take k) (r:=ps.drop (k+1)) hlo)
     clear hlo
     go_wp2_with fail
     go_ret
     exact⟨by rw[HREL.out,HE.out];rfl,HB6.out⟩
   | some x =>
     obtain⟨g1,g2⟩:=Aqq hlo
     have HLO:=hI hlo
     generalize hfr:findR lz p.lot 0=fr at g1 g2 ⊢
     obtain⟨i,is⟩:=fr
     obtain rfl:is=true:=g1
     obtain⟨y,hy,hyx⟩:∃y:SLot,ls[i]?=some y∧y.1=x:=by
      have h:(ls.map Subtype.val)[i]?=some x:=by rw[HLZ.out];exact g2
      rw[List.getElem?_map] at h
      obtain⟨y,hy,e⟩:=Option.map_eq_some_iff.1 h
      exact⟨y,hy,e⟩
     obtain⟨ad2,rfl,had2,hcell2⟩:=HR.out (by intro e;rw[e] at hy;cases hy)
     have hx0:=(hcell2 i y hy).below (HB6.out.mono hn) (by rw[Acv];exact had2)
     rw[hyx] at hx0
     have hxs:x.sized:=by rw[←hyx];exact y.2
     have HXQ:Hid (x.qty.size≤1000):=hxs.2.2.1
     have HLX6:Hid (LotAt w6 (ad2.add (i*7)) x∧(ad2.add (i*7)).block<w6.heap.size):=⟨hx0,by rw[Acv];exact Aah had2 (Aap hn HB6.out.size)⟩
     have hiN:i<N:=by rw[←HN.out];exact (Aak.1 hy).1
     have HIN:=hI hiN
     have hIO6:=HIOA.out.below HB6.out
     have HIO6:=hI hIO6
     clear hlo g2 hfr hy hyx hcell2 had2 hx0 hxs hIO6
     go_upto_region 7 with fail
     go_cut [28] (fun v wx=>∃b:Bool,v=.bool b∧(b=false→∀s,io=some s→x.inst=s)∧(b=true→∃s,io=some s∧x.inst≠s)∧Below w6.heap.size w6 wx)
     case first =>
      rcases HIO6.out with⟨h1,rfl⟩|⟨s,Bi,h1,rfl,h3⟩
      ·have HI:=hI h1
       clear h1
       go_quiet (fail)
       go_wp2_with fail
       go_meet
       case rel=>exact⟨false,rfl,fun _ s e=>(by rw[HI.out] at e;cases e),fun e=>(Aaz e).elim,Acz (Below.refl _ _) _⟩
      ·obtain⟨x0,x1,x2,x3,x4,x5,x6⟩:=HLX6.out.1
       have cs:=h3.cell
       have hse:=Aj8 x.inst s
       have HI:=hI h1
       clear h1 h3
       by_cases hq:x.inst=s
       ·have t1:(x.inst.toList==s.toList)=true:=by rw[hse];exact Aa3 hq
        have t2:(x.inst.toList != s.toList)=false:=by rw[bne,t1];rfl
        have HQ:=hI hq
        clear hq hse
        go_quiet (fail)
        go_wp2_with fail
        go_meet
        case rel=>exact⟨false,by simp,fun _ t e=>(by rw[HI.out] at e;injection e with e;rw[←e];exact HQ.out),fun e=>(Aaz e).elim,Acz (Below.refl _ _) _⟩
       ·have t1:(x.inst.toList==s.toList)=false:=by rw[hse];exact Aa4 hq
        have t2:(x.inst.toList != s.toList)=true:=by rw[bne,t1];rfl
        have HQ:=hI hq
        clear hq hse
        go_quiet (fail)
        go_wp2_with fail
        go_meet
        case rel=>exact⟨true,by simp,fun e=>(Aaz e.symm).elim,fun _=>⟨s,HI.out,HQ.out⟩,Acz (Below.refl _ _) _⟩
     case rest =>
     obtain⟨b,rfl,hb0,hb1,hbw⟩:=hcut
     have HB7:=hI (HB6.out.trans (hbw.mono HB6.out.size))
     have HK7:=hI (HK6.out.below hbw)
     have HLX7:=hI (And.intro (HLX6.out.1.below hbw HLX6.out.2) (Aah HLX6.out.2 hbw.size))
     cases b
     case true =>
      obtain⟨s,hs,hne⟩:=hb1 rfl
      have HE:=hI (Aq7 (pre:=ps.take k) (r:=ps.drop (k+1)) HLO.out hs hne)
      clear hb0 hb1 hbw hs hne
      go_wp2_with fail
      go_ret
      exact⟨by rw[HREL.out,HE.out];rfl,HB7.out⟩
     have HIO:=hI (hb0 rfl)
     clear hb0 hb1 hbw HB6 HK6 HLX6 HIO6
     have hslc:=fun W=>Aun W ad P cp k (by omega)
     have hcn:=HCN0.out p wr.heap.size k hkP _ HB7.out HK7.out
     rw[show (ps.take k).length=k from by rw[Aat,HP.out];omega] at hcn
     have HCNC:=hI hcn
     clear hcn
     go_wp2_with fail
     refine HCNC.out.mono ?_
     rintro e w8 ⟨rfl,b8⟩
     have HB8:=hI (HB7.out.trans (b8.mono HB7.out.size))
     have HK8:=hI (HK7.out.below b8)
     have HLX8:=hI (And.intro (HLX7.out.1.below b8 HLX7.out.2) (Aah HLX7.out.2 b8.size))
     clear b8 HB7 HK7 HLX7 HCNC hslc
     cases hany:(ps.take k).any fun a=>decide (a.lot=p.lot)
     case true =>
      have hm:p.lot∈(ps.take k).map Pk.lot:=by
       obtain⟨a,ha,e⟩:=List.any_eq_true.1 hany
       exact List.mem_map.2 ⟨a,ha,by simpa using e⟩
      have HE:=hI (Aq8 (r:=ps.drop (k+1)) HLO.out HIO.out hm)
      clear hany hm
      go_wp2_with fail
      go_ret
      exact⟨by rw[HREL.out,HE.out];rfl,HB8.out⟩
     have HNM:Hid (p.lot ∉ (ps.take k).map Pk.lot):=fun hm=>by
      obtain⟨a,ha,e⟩:=List.mem_map.1 hm
      have:=List.any_eq_false.1 hany a ha
      exact this (by simp[e])
     clear hany
     have hq1:=Aaa HK8.out 1
     simp[Pk.cells] at hq1
     by_cases hcq:Can p.qty
     case neg =>
      have HC:=hI (Agr p.qty w8 (by have:=HPQ.out;omega) hcq)
      have HE:=hI (Aq9 (r:=ps.drop (k+1)) HLO.out HIO.out HNM.out hcq)
      clear hcq
      go_wp2_with fail
      refine HC.out.mono ?_
      rintro e w9 ⟨rfl,b9⟩
      have HB9:=hI (HB8.out.trans (b9.mono HB8.out.size))
      clear b9
      go_wp2_with fail
      go_ret
      exact⟨by rw[HREL.out,HE.out];rfl,HB9.out⟩
     have HC:=hI (Agq p.qty w8 (by have:=HPQ.out;omega) hcq)
     have HCN:=hI hcq
     clear hcq
     go_wp2_with fail
     refine HC.out.mono ?_
     rintro e w9 ⟨rfl,b9⟩
     have HB9:=hI (HB8.out.trans (b9.mono HB8.out.size))
     have HK9:=hI (HK8.out.below b9)
     have HLX9:=hI (And.intro (HLX8.out.1.below b9 HLX8.out.2) (Aah HLX8.out.2 b9.size))
     clear b9 HB8 HK8 HLX8 HC hq1
     have hq1:=Aaa HK9.out 1
     simp[Pk.cells] at hq1
     have HPO:=hI (Ar0 p.qty (by have:=HPQ.out;omega) w9)
     go_wp2_with fail
     refine HPO.out.mono ?_
     rintro e w8 ⟨rfl,b8⟩
     have HB8:=hI (HB9.out.trans (b8.mono HB9.out.size))
     have HPB:=hI (HK9.out.below b8)
     have HLX:=hI (And.intro (HLX9.out.1.below b8 HLX9.out.2) (Aah HLX9.out.2 b8.size))
     clear b8 HB9 HK9 HLX9 HPO hq1
     by_cases h0:0<vl p.qty
     case neg =>
      have HE:=hI (Ara (r:=ps.drop (k+1)) HLO.out HIO.out HNM.out HCN.out (by omega))
      rw[Aa4 h0]
      clear h0
      go_wp2_with fail
      go_ret
      exact⟨by rw[HREL.out,HE.out];rfl,HB8.out⟩
     rw[Aa3 h0]
     have HPS:=hI h0
     clear h0
     have HCMP:=hI (fun W=>Agu p.qty x.qty W (by have:=HPQ.out;omega) (by have:=HXQ.out;omega))
     obtain⟨bz,hbz⟩:∃bz,decide (cmpI (vl p.qty) (vl x.qty) > 0)=bz:=⟨_,rfl⟩
     have HZ2:=hI hbz
     have HZ:Hid (decide (0<cmpI (vl p.qty) (vl x.qty))=bz∧decide (cmpI (vl p.qty) (vl x.qty) > 0)=bz):=⟨hbz,hbz⟩
     have hgS:Below w8.heap.size w8 w8.drew:=(Below.refl _ _).drew
     clear hbz
     go_wp2_with fail
     have mixed:Tryz.prog.follows .mixedOrders=true:=by kernel_rfl
     refine wp_region_any mixed (Akw (PBJ w8 p x wr.heap.size ad2 N c i (cmpI (vl p.qty) (vl x.qty)) bz _ _ _ _ _ _ _ _ _ _ _ _ _ _ _ _ _ _ _ _ _ _ _ _ _ _ _ _ _ _ _ _ _ _ _ _ _ _ _ _ _ _ _ _ _ _ _ _ _ _ _ _ _ _ _ _) ?stPB ?dnPB _ _ _ _ ⟨by simp,⟨_,_,_,_,_,_,_,_,_,_,rfl,fun h=>by simp at h,fun h=>by simp at h,fun h=>by simp at h,fun h=>by simp at h,fun h=>by simp at h,fun h=>by simp at h,fun h=>by simp at h,fun h=>by simp at h,fun h=>by simp at h,fun h=>by simp at h,hgS⟩⟩ (by decide))
     case dnPB =>
      intro L a w' hj hr
      have all:=Akv hr hj.sz (by kernel_rfl)
      obtain⟨s58,s59,s60,s61,s62,s63,s64,s65,s66,s67,rfl,hv⟩:=hj.fr
      have e9:=hv.k9 (all 9 (by omega))
      subst e9
      have HB9:=hI (HB8.out.trans (hv.g.mono HB8.out.size))
      clear all hv hj hr
      dsimp only
      cases bz
      case true =>
       have HE:=hI (Arb (r:=ps.drop (k+1)) HLO.out HIO.out HNM.out HCN.out HPS.out (cmpI_gt.1 (of_decide_eq_true HZ2.out)))
       go_wp2_with fail
       go_ret
       exact⟨by rw[HREL.out,HE.out];rfl,HB9.out⟩
      have HLE:Hid (vl p.qty≤vl x.qty):=by
       have h:=of_decide_eq_false HZ2.out
       exact Int.not_lt.1 fun h2=>h (cmpI_gt.2 h2)
      have HE:=hI (Arc (⟨HLO.out,HIO.out,HCN.out,HPS.out,HLE.out⟩:PkOk lz io p x) HNM.out (r:=ps.drop (k+1)))
      go_wp2_with fail
      go_roundw
      case rel=>exact⟨k+1,by go_num,by omega,by rw[HREL.out,HE.out,HTK.out],HB9.out⟩
      case measure=>simp[intOf];omega
     case stPB =>
      intro L a w' hj i hi
      obtain⟨hun,o,ho,hall⟩:=mem_ready.1 hi
      have hoff:=Akk hun
      have hlt:=(Aab.1 ho).1
      simp at hlt
      obtain⟨s58,s59,s60,s61,s62,s63,s64,s65,s66,s67,rfl,hv⟩:=hj.fr
      have HV:=hI hv
      have HJ:=hI hj
      clear hv hj
      rcases (show i=0∨i=1∨i=2∨i=3∨i=4∨i=5∨i=6∨i=7∨i=8∨i=9 from by omega) with rfl|rfl|rfl|rfl|rfl|rfl|rfl|rfl|rfl|rfl
      all_goals simp at ho
      all_goals subst ho
      rotate_left
      cases HV.out.k0 (Hq hall 0).out
      have hp:=HPB.out.below HV.out.g
      have c1:=Aaa hp 1
      simp[Pk.cells] at c1
      rotate_left
      rotate_left
      rotate_left
      cases HV.out.k2 (Hq hall 2).out
      cases HV.out.k3 (Hq hall 3).out
      have hi:=HIN.out
      rotate_left
      cases HV.out.k4 (Hq hall 4).out
      rotate_left
      cases HV.out.k5 (Hq hall 5).out
      obtain⟨c0,c1,c2,c3,c4,c5,c6⟩:=HLX.out.1.below HV.out.g HLX.out.2
      rotate_left
      ·cases HV.out.k1 (Hq hall 1).out
       cases HV.out.k6 (Hq hall 6).out
       clear hall hi
       refine Akt rfl fun K' HK=>?_
       go_simp
       refine (HCMP.out w').mono ?_
       rintro e wn ⟨rfl,bn⟩
       cases HV.out
       refine HK.out _ _ ⟨by simp[HJ.out.sz],⟨_,_,_,_,_,_,_,_,_,_,rfl,?_,?_,?_,?_,?_,?_,?_,fun _=>rfl,?_,?_,HV.out.g.trans (bn.mono HV.out.g.size)⟩⟩
       all_goals exact Um (by assumption)
      cases HV.out.k7 (Hq hall 7).out
      obtain⟨hz1,hz2⟩:=HZ.out
      rotate_left
      cases HV.out.k8 (Hq hall 8).out
      rotate_left
      all_goals
       clear hall hi
       refine Akt rfl fun K' HK=>?_
       go_simp
       cases HV.out
       refine HK.out _ _ ⟨by simp[HJ.out.sz],?_⟩
       iterate 10 apply Exists.intro
       refine⟨rfl,?_⟩
       constructor
       all_goals first|exact Um (by assumption)|exact Un (by assumption)|exact Uf (by assumption)|exact fun _=>rfl|assumption
  ·have hcx:decide ((k:Int)<(P:Int))=false:=by simp;omega
   have HE:Hid (posE lz io [] ps=0):=by rw[Hid,HREL0.out,List.drop_eq_nil_of_le (by rw[HP.out];exact hge)];rw[posE]
   go_wp2_with fail
   go_ret
   exact⟨by rw[HE.out];rfl,HB.out⟩
theorem Auq(w Wb:World)(Bo Bq:Nat)(z:Int)(hb:Below w.heap.size w Wb)(h1:w.heap.size≤Bo)(h2:w.heap.size≤Bq)(bo:Boxed Wb Bo 24 (.slice none 0 0))(bq:Boxed Wb Bq 23 (.string (I z))):ChS w Wb Bo Bq none ([],z) (.slice none 0 0) Wb :=
 ⟨hb,⟨h1,h2,fun g e=>by cases e⟩,bo,bq,World.ownsRow_nil _ _ _ _,.inl rfl,rfl,rfl,rfl,Aad _,fun _ _ _ _ _=>rfl⟩
structure CWV(P0 P1:World→Prop)(Bo Bq Bp:Nat)(ad:Addr)(M c2 i:Nat)(x:Lot)(mo:Int)(fv:Value)  (L:Array Bool) (W:World) (s82 s83 s84 s85 s86 s87 s88 s89:Value):Prop where
 k0:L.getD 0 false=true→s82=fv
 k1:L.getD 1 false=true→s83=.slice (some ad) M c2
 k2:L.getD 2 false=true→s84=.int .i64 (i:Int)
 k3:L.getD 3 false=true→s85=.pointer (some (ad.add (i*7)))
 k4:L.getD 4 false=true→s86=.agg #[.string x.id,.string x.inst,.int .i64 x.acq,.int .i64 x.opn,.string x.qty,.string x.cost,.string x.used]
 k5:L.getD 5 false=true→s87=.pointer (some ⟨Bp,1,none⟩)
 k6:L.getD 6 false=true→s88=.string (I mo)
 r0:L.getD 7 false=false→P0 W
 r1:L.getD 7 false=true→P1 W
 q4:L.getD 7 false=true→L.getD 4 false=true
 q6:L.getD 7 false=true→L.getD 6 false=true
structure CWJ(P0 P1:World→Prop)(Bo Bq Bp:Nat)(ad:Addr)(M c2 i:Nat)(x:Lot)(mo:Int)(fv:Value)(x0 x1 x2 x3 x4 x5 x6 x7 x8 x9 x10 x11 x12 x13 x14 x15 x17 x19 x22 x23 x24 x25 x26 x27 x28 x29 x30 x31 x32 x33 x34 x35 x36 x37 x38 x39 x40 x41 x42 x43 x44 x45 x46 x47 x48 x49 x50 x51 x52 x53 x54 x55 x56 x57 x58 x59 x60 x61 x62 x63 x64 x65 x66 x67 x68 x69 x70 x71 x72 x73 x74 x75 x76 x77 x78 x79 x80 x81 x90 x91 x92 x93 x94 x95 x96 x97 x98 x99 x100 x101 x102 x103 x104 x105:Value)(L:Array Bool)(a:Act)(W:World):Prop where
 sz:L.size=8
 fr:∃s82 s83 s84 s85 s86 s87 s88 s89:Value,a={tmps:=#[x0,x1,x2,x3,x4,x5,x6,x7,x8,x9,x10,x11,x12,x13,x14,x15,.slice (some ad) M c2,x17,fv,x19,.pointer (some ⟨Bp,0,none⟩),.int .i64 (i:Int),x22,x23,x24,x25,x26,x27,x28,x29,x30,x31,x32,x33,x34,x35,x36,x37,x38,x39,x40,x41,x42,x43,x44,x45,x46,x47,x48,x49,x50,x51,x52,x53,x54,x55,x56,x57,x58,x59,x60,x61,x62,x63,x64,x65,x66,x67,x68,x69,x70,x71,x72,x73,x74,x75,x76,x77,x78,x79,x80,x81,s82,s83,s84,s85,s86,s87,s88,s89,x90,x91,x92,x93,x94,x95,x96,x97,x98,x99,x100,x101,x102,x103,x104,x105],defers:=[]}∧CWV P0 P1 Bo Bq Bp ad M c2 i x mo fv  L W s82 s83 s84 s85 s86 s87 s88 s89
theorem Aur(n₀:Nat)(A:Option Addr)(ls:List SLot)(c:Nat)(hc:ls.length≤c)(hlen:ls.length≤10000)(s q:ByteArray)(hq:q.size≤1000)(m:Int)(Ap:Option Addr)(ps:List Pk)(cp:Nat)(hpl:ps.length≤10000)(hps:∀p∈ps,p.qty.size≤1000)(w:World)
 (hR:RdB n₀ w A ls) (hn:n₀≤w.heap.size) (hA:A=none→ls.length=0∧c=0) (hK:RdK n₀ w Ap ps) (ht:Tabs w) :
 Calls Tryz.prog 18 #[.slice A ls.length c,.string s,.string q,.int .i64 m,.slice Ap ps.length cp] w (Auf w (ls.map Subtype.val) s q m ps):=by
 obtain⟨W0,hW0⟩:∃W0,w.alloc (.cells #[.string q] 23)=W0:=⟨_,rfl⟩
 have hb0:Below w.heap.size w W0:=by rw[←hW0];exact (Below.refl _ w).alloc (Aad _) _
 have k0:Boxed W0 w.heap.size 23 (.string q):=by rw[←hW0];exact Aa5 w _
 obtain⟨lz,hlz⟩:∃lz,ls.map Subtype.val=lz:=⟨_,rfl⟩
 have hlzn:lz.length=ls.length:=by rw[←hlz,Aar]
 have HCA:=hI (fun W (hW:Below w.heap.size w W)=>Amz A c (ls.map Subtype.val) (by rw[Aar];exact hc) (by rw[Aar];omega) W (((hR.below (hW.mono hn)).rdb').rdl (Aap hn hW.size)) (fun l hl=>by obtain⟨y,_,rfl⟩:=List.mem_map.1 hl;exact y.2) (ht.below hW))
 have HTO:=fun W (hW:Below w.heap.size w W)=>lTotal_any n₀ A ls c s W (by omega) (hR.below (hW.mono hn)) (Aap hn hW.size) (ht.below hW)
 have HOF:=fun W (hW:Below w.heap.size w W)=>lOf_n n₀ A ls c s W (by omega) (hR.below (hW.mono hn)) (Aap hn hW.size)
 have HBD:=fun W (hW:Below w.heap.size w W)=>Ar4 badP 37 #[] n₀ Ap ps cp (by omega) W (hK.below (hW.mono hn)) (Aap hn hW.size) (At8 W ps hps)
 have htot:sumBy qtyOf (ownL ls s)=totQ (ownB lz s):=by rw[←hlz,←Are,Arg]
 rw[htot] at HTO
 rw[Aar] at HCA
 rw[hlz] at HCA ⊢
 replace HTO:=hI HTO
 replace HOF:=hI HOF
 replace HBD:=hI HBD
 have HLZ:=hI hlz
 have HKP:=hI hK
 have HPS:=hI hps
 have HT:=hI ht
 have HNn:=hI hn
 have HQS:=hI hq
 have HLL:Hid (ls.length≤10000∧ps.length≤10000):=⟨hlen,hpl⟩
 have HB0:=hI hb0
 have HQ0:=hI k0
 have cq:=k0.cell
 obtain⟨N,hN⟩:∃N,ls.length=N:=⟨_,rfl⟩
 obtain⟨P,hP⟩:∃P,ps.length=P:=⟨_,rfl⟩
 rw[hN] at HCA HTO HOF ⊢
 rw[hP] at HBD ⊢
 have HN:=hI hN
 have HP:=hI hP
 clear hR hn hA hK ht hc hlen hq hpl hps hlz hlzn htot hb0 k0 hN hP
 go_enter Tryz.func18,Tryz.ntmps18
 go_wp2_with fail
 refine (HCA.out W0 HB0.out).mono ?_
 rintro e w1 ⟨rfl,b1⟩
 have HB1:=hI (HB0.out.trans (b1.mono HB0.out.size))
 have hq1:=(b1.block w.heap.size HQ0.out.lt).trans HQ0.out
 have HQ1:Hid (Boxed w1 w.heap.size 23 (.string q)):=hq1
 have cq1:=(show Boxed w1 w.heap.size _ _ from hq1).cell
 clear b1 hq1 HCA cq HQ0
 by_cases h0:lall lz=0
 case neg =>
  have t1:(lall lz==0)=false:=Aaj.2 h0
  have t2:(lall lz != 0)=true:=by rw[bne,t1];rfl
  have HE:=hI (At9 (lz:=lz) (s:=s) (q:=q) (m:=m) (ps:=ps) (.inl h0))
  clear h0
  go_wp2_with fail
  go_ret2
  exact Aug HE.out (by decide) HB1.out
 have H0:=hI h0
 rw[h0]
 clear h0
 by_cases hcq:Can q
 case neg =>
  have HC:=hI (Agr q w1 (by have:=HQS.out;omega) hcq)
  have HE:=hI (At9 (lz:=lz) (s:=s) (q:=q) (m:=m) (ps:=ps) (.inr hcq))
  clear hcq
  go_wp2_with fail
  refine HC.out.mono ?_
  rintro e w2 ⟨rfl,b2⟩
  have HB2:=hI (HB1.out.trans (b2.mono HB1.out.size))
  clear b2
  go_wp2_with fail
  go_ret2
  exact Aug HE.out (by decide) HB2.out
 have HC:=hI (Agq q w1 (by have:=HQS.out;omega) hcq)
 have HCQ:=hI hcq
 clear hcq
 go_wp2_with fail
 refine HC.out.mono ?_
 rintro e w2 ⟨rfl,b2⟩
 have HB2:=hI (HB1.out.trans (b2.mono HB1.out.size))
 have HQ2:Hid (Boxed w2 w.heap.size 23 (.string q)):=(b2.block w.heap.size HQ1.out.lt).trans HQ1.out
 clear b2 HC cq1 HQ1
 go_upto_region 3 with fail
 go_cut [38] (fun v38 wx=>∃b:Bool,v38=.bool b∧(b=true↔(m=5∧ps.any badP=true))∧Below w.heap.size w wx∧Boxed wx w.heap.size 23 (.string q))
 case first =>
  by_cases hm5:m=5
  ·subst hm5
   have HCN:=hI (HBD.out w2 HB2.out)
   have HX:Hid (ps.any badP=true↔((5:Int)=5∧ps.any badP=true)):=⟨fun h=>⟨rfl,h⟩,fun h=>h.2⟩
   go_wp2_with fail
   refine HCN.out.mono ?_
   rintro e w3 ⟨rfl,b3⟩
   have HB3:=hI (HB2.out.trans (b3.mono HB2.out.size))
   have HQ3:Hid (Boxed w3 w.heap.size 23 (.string q)):=(b3.block w.heap.size HQ2.out.lt).trans HQ2.out
   clear b3 HCN
   go_wp2_with fail
   go_meet
   case rel=>exact⟨_,rfl,HX.out,HB3.out,HQ3.out⟩
  ·have t1:(m==5)=false:=Aaj.2 hm5
   have HX:Hid (false=true↔(m=5∧ps.any badP=true)):=⟨fun h=>(Aaz h).elim,fun h=>(hm5 h.1).elim⟩
   clear hm5
   go_wp2_with fail
   go_meet
   case rel=>exact⟨_,rfl,HX.out,HB2.out,HQ2.out⟩
 case rest =>
  obtain⟨b,rfl,hb,hbw,hqw⟩:=hcut
  have HX:=hI hb
  have HB3:=hI hbw
  have HQ3:=hI hqw
  clear hb hbw hqw HB2 HQ2 HBD
  cases b
  case true =>
   have HE:=hI (Aua (s:=s) H0.out HCQ.out (HX.out.1 rfl))
   go_wp2_with fail
   go_ret2
   exact Aug HE.out (by decide) HB3.out
  have HNB:Hid (¬(m=5∧ps.any badP=true)):=fun h=>Aaz (HX.out.2 h)
  clear HX
  by_cases hm:1≤m∧m≤6
  case neg =>
   have HF:=hI (find20_no m hm wc)
   have HE:=hI (Aub (s:=s) H0.out HCQ.out HNB.out hm)
   clear hm
   go_wp2_with fail
   refine HF.out.mono ?_
   rintro e w4 ⟨rfl,b4⟩
   obtain⟨W5,W6,hW5,hrun,_,b6⟩:=At5 w4 #[.string ⟨#[]⟩,.nilFunc,.bool false] rfl (by intro u hu;simp at hu;rcases hu with rfl|rfl|rfl<;>rfl)
   have HB6:=hI (HB3.out.trans ((b4.trans (b6.mono b4.size)).mono HB3.out.size))
   have HTOT:=hI (HTO.out W6 HB6.out)
   clear b4 b6 HF
   go_wp2_with (refine wpList_store_run hrun rfl _ _ rfl rfl rfl ?_)
   refine HTOT.out.mono ?_
   rintro e w7 ⟨rfl,b7⟩
   have HB7:=hI (HB6.out.trans (b7.mono HB6.out.size))
   clear b7 hrun
   go_wp2_with fail
   go_ret2
   exact Aug HE.out (by decide) HB7.out
  have HF:=hI (find20_yes m hm.1 hm.2 wc)
  have HM:=hI hm
  clear hm
  go_wp2_with fail
  refine HF.out.mono ?_
  rintro e w4 ⟨bf,rfl,hbf,hfn,b4⟩
  obtain⟨W5,W6,hW5,hrun,k6,b6⟩:=At5 w4 (entM m bf) rfl (ent_one m bf)
  have hfl:=(Aab.1 hfn).1
  have HB6:=hI (HB3.out.trans ((b4.trans (b6.mono b4.size)).mono HB3.out.size))
  have hq6:Boxed W6 w.heap.size 23 (.string q):=((b4.trans (b6.mono b4.size)).block w.heap.size HQ3.out.lt).trans HQ3.out
  have HTOT:=hI (HTO.out W6 HB6.out)
  have HG6:Hid (W6.heap[w4.heap.size]?=some (.cells (entM m bf) 67 (0,0))∧FnBox W6 bf∧Boxed W6 w.heap.size 23 (.string q)∧w.heap.size<w4.heap.size∧w.heap.size<bf):=⟨k6,(b6.block bf hfl).trans hfn,hq6,Aah HQ3.out.lt b4.size,Aah HQ3.out.lt hbf⟩
  clear b4 b6 HF k6 hfn hfl hbf hq6 HQ3
  go_wp2_with (refine wpList_store_run hrun rfl _ _ rfl rfl rfl ?_)
  refine HTOT.out.mono ?_
  rintro e w7 ⟨rfl,b7⟩
  have HB7:=hI (HB6.out.trans (b7.mono HB6.out.size))
  have HG7:Hid (w7.heap[w4.heap.size]?=some (.cells (entM m bf) 67 (0,0))∧FnBox w7 bf∧Boxed w7 w.heap.size 23 (.string q)∧w.heap.size<w4.heap.size∧w.heap.size<bf) :=
   ⟨(b7.block _ (Aab.1 HG6.out.1).1).trans HG6.out.1,(b7.block _ (Aab.1 HG6.out.2.1).1).trans HG6.out.2.1,(b7.block _ HG6.out.2.2.1.lt).trans HG6.out.2.2.1,HG6.out.2.2.2⟩
  clear b7 HTOT HG6 HB6 hrun HTO
  have cq7:=HG7.out.2.2.1.cell
  have HPO:=hI (Ar0 q (by have:=HQS.out;omega) w7)
  go_wp2_with fail
  refine HPO.out.mono ?_
  rintro e w8 ⟨rfl,b8⟩
  have HB8:=hI (HB7.out.trans (b8.mono HB7.out.size))
  have HG8:Hid (w8.heap[w4.heap.size]?=some (.cells (entM m bf) 67 (0,0))∧FnBox w8 bf∧Boxed w8 w.heap.size 23 (.string q)∧w.heap.size<w4.heap.size∧w.heap.size<bf) :=
   ⟨(b8.block _ (Aab.1 HG7.out.1).1).trans HG7.out.1,(b8.block _ (Aab.1 HG7.out.2.1).1).trans HG7.out.2.1,(b8.block _ HG7.out.2.2.1.lt).trans HG7.out.2.2.1,HG7.out.2.2.2⟩
  clear b8 HPO HG7 HB7 cq7
  by_cases hp:0<vl q
  case neg =>
   have HE:=hI (Auc (s:=s) H0.out HCQ.out HNB.out HM.out (by omega))
   rw[Aa4 hp]
   clear hp
   go_wp2_with fail
   go_ret2
   exact Aug HE.out (by decide) HB8.out
  rw[Aa3 hp]
  have HPQ:=hI hp
  clear hp
  have cq8:=HG8.out.2.2.1.cell
  have hsz:(I (totQ (ownB lz s))).size≤4000000:=by
   have h:=Auj 1000 (Aad _) (ownL ls s) (by have:=Aj7 ls s ls.length;rw[List.take_length] at this;have:=HLL.out.1;omega)
   rw[Are,HLZ.out] at h
   omega
  have HCMP:=hI (Agu (I (totQ (ownB lz s))) q w8 hsz (by have:=HQS.out;omega))
  rw[vl_I] at HCMP
  clear hsz
  go_wp2_with fail
  refine HCMP.out.mono ?_
  rintro e w9 ⟨rfl,b9⟩
  have HB9:=hI (HB8.out.trans (b9.mono HB8.out.size))
  have HG9:Hid (w9.heap[w4.heap.size]?=some (.cells (entM m bf) 67 (0,0))∧FnBox w9 bf∧Boxed w9 w.heap.size 23 (.string q)∧w.heap.size<w4.heap.size∧w.heap.size<bf) :=
   ⟨(b9.block _ (Aab.1 HG8.out.1).1).trans HG8.out.1,(b9.block _ (Aab.1 HG8.out.2.1).1).trans HG8.out.2.1,(b9.block _ HG8.out.2.2.1.lt).trans HG8.out.2.2.1,HG8.out.2.2.2⟩
  clear b9 HCMP HG8 HB8 cq8
  by_cases hs:totQ (ownB lz s)<vl q
  case pos =>
   have t1:decide (cmpI (totQ (ownB lz s)) (vl q)<0)=true:=Aa3 (cmpI_lt.2 hs)
   have HE:=hI (Aud (s:=s) H0.out HCQ.out HNB.out HM.out HPQ.out hs)
   clear hs
   go_wp2_with fail
   go_ret2
   exact Aug HE.out (by decide) HB9.out
  have t1:decide (cmpI (totQ (ownB lz s)) (vl q)<0)=false:=Aa4 (fun x=>hs (cmpI_lt.1 x))
  have HE:=hI (Aue (s:=s) H0.out HCQ.out HNB.out HM.out HPQ.out (by omega))
  have HOFC:=hI (HOF.out w9 HB9.out)
  clear hs HOF
  go_wp2_with fail
  refine HOFC.out.mono ?_
  rintro e w10 ⟨A2,c2,rfl,hc2,hbA,hr2,b10,hnil⟩
  obtain⟨Wb,hWb⟩:∃Wb,w10.alloc (.cells #[.slice none 0 0] 24)=Wb:=⟨_,rfl⟩
  have bb:Below w10.heap.size w10 Wb:=by rw[←hWb];exact (Below.refl _ w10).alloc (Aad _) _
  have kb:Boxed Wb w10.heap.size 24 (.slice none 0 0):=by rw[←hWb];exact Aa5 w10 _
  have b9b:=b10.trans (bb.mono b10.size)
  have hB10:=HB9.out.trans (b10.mono HB9.out.size)
  have hBb:=hB10.trans (bb.mono hB10.size)
  have hqb:Boxed Wb w.heap.size 23 (.string (I (vl q))):=by
   have h:Boxed Wb w.heap.size 23 (.string q):=(b9b.block _ HG9.out.2.2.1.lt).trans HG9.out.2.2.1
   rw[show I (vl q)=q from HCQ.out];exact h
  have HS0:=hI (Auq w Wb w10.heap.size w.heap.size (vl q) hBb hB10.size (Aad _) kb hqb)
  obtain⟨own,hown⟩:∃own,ownB lz s=own:=⟨_,rfl⟩
  have hsl:(ownL ls s).map Subtype.val=own:=by rw[Are,HLZ.out,hown]
  obtain⟨sl,hsl2⟩:∃sl,ownL ls s=sl:=⟨_,rfl⟩
  rw[hsl2] at hsl hr2 hc2 hnil ⊢
  have HNIL:=hI hnil
  obtain⟨M,hM⟩:∃M,sl.length=M:=⟨_,rfl⟩
  have hMl:M≤10000:=by rw[←hM,←hsl2];have:=Aj7 ls s ls.length;rw[List.take_length] at this;have:=HLL.out.1;omega
  have hownM:own.length=M:=by rw[←hsl,Aar,hM]
  have hall:=(Apz lz).1 H0.out
  have hid0:(own.map Lot.id).Nodup:=by rw[←hown];exact Arf s hall.nd
  have hok:∀x∈own,x.ok:=fun x hx=>by rw[←hown] at hx;exact lchk_zero.1 (hall.ok x (ownB_mem.1 hx).1)
  have hsz:∀x∈own,x.sized:=fun x hx=>by rw[←hsl] at hx;obtain⟨y,_,rfl⟩:=List.mem_map.1 hx;exact y.2
  have HOWN:Hid ((own.map Lot.id).Nodup∧(∀x∈own,x.ok)∧(∀x∈own,x.sized)):=⟨hid0,hok,hsz⟩
  have hI0:InvA own (vl q) ([],vl q):=InvA.start (Int.le_of_lt HPQ.out) (fun x hx=>(hok x hx).pq)
  have HI0:=hI hI0
  have hrb:RdB Wb.heap.size Wb A2 sl:=by
   intro hl
   obtain⟨ad,e,h1,h2⟩:=hr2 hl
   exact⟨ad,e,Aah h1 bb.size,fun j l hj=>(h2 j l hj).below bb (by rw[Acv];exact h1)⟩
  have hblk:∀ad,A2=some ad→sl≠[]→ad.block<w10.heap.size:=fun ad e hl=>by
   obtain⟨ad',e',h1,_⟩:=hr2 hl
   rw[e] at e';injection e' with e';rw[e'];exact h1
  have hRS:∀(W0':World) (st:Am×Int) (v:Value) (W:World),ChS w Wb w10.heap.size w.heap.size none st v W→RdB Wb.heap.size W A2 sl:=by
   intro _ st v W h
   intro hl
   have hl':=hl
   obtain⟨ad,e,h1,h2⟩:=hrb hl
   have hb1:=hblk ad e hl'
   have hb2:=hbA ad e
   have hb3:=HB9.out.size
   have hb4:=HG9.out.2.2.1.lt
   exact⟨ad,e,h1,fun j l hj=>(h2 j l hj).keep (by rw[Acv];exact h.keep _ h1 (by omega) (by omega) (by simp))⟩
  have HRS:=hI (hRS Wb)
  have HEB:Hid (Wb.heap[w4.heap.size]?=some (.cells (entM m bf) 67 (0,0))∧FnBox Wb bf∧w4.heap.size<w10.heap.size∧bf<w10.heap.size∧w.heap.size<w4.heap.size∧w.heap.size<bf∧w10.heap.size<Wb.heap.size) :=
   ⟨(b9b.block _ (Aab.1 HG9.out.1).1).trans HG9.out.1,(b9b.block _ (Aab.1 HG9.out.2.1).1).trans HG9.out.2.1,Aah (Aab.1 HG9.out.1).1 b10.size,Aah (Aab.1 HG9.out.2.1).1 b10.size,HG9.out.2.2.2.1,HG9.out.2.2.2.2,kb.lt⟩
  have HC2:Hid (M≤c2∧w.heap.size<w10.heap.size∧M≤10000):=⟨by rw[←hM];exact hc2,Aah (Aah HG9.out.2.2.1.lt b10.size) (Aad _),hMl⟩
  have HSL:=hI (And.intro hsl hownM)
  have HOWD:=hI hown
  have HML:=hI hM
  have HVP:Hid (m=5→∀p∈ps,Can p.qty∧0<vl p.qty):=fun h5 p hp=>At6 (by
   cases hb:badP p
   ·rfl
   ·exact (HNB.out ⟨h5,List.any_eq_true.2 ⟨p,hp,hb⟩⟩).elim)
  have HTK:=hI (fun (w0:World) (g0:Option Nat) (st:Am×Int) (v:Value) (x:Lot) (hx:x∈own) (mo:Int) (hmo:(I mo).size≤2000) (hinv:InvA own (vl q) st) (hlen:st.1.length≤100000) (W:World) (hS:ChS w w0 w10.heap.size w.heap.size g0 st v W) =>
   take_in w w0 w10.heap.size w.heap.size g0 own q HQS.out hid0 (by have:=HG9.out.2.2.1.lt;have:=b10.size;omega) HT.out st v x hx (hsz x hx) (hok x hx).cq mo hmo hinv hsz hlen W hS)
  clear b10 bb kb b9b hB10 hBb hqb hsl hMl hownM hid0 hok hsz hI0 hrb hblk hRS hr2 hbA hc2 HNB HCQ HG9 HB9 hown hsl2 hM hall HOFC hnil
  rw[HML.out]
  have hPl:P≤10000:=by rw[←HP.out];exact HLL.out.2
  have hMl:M≤10000:=HC2.out.2.2
  go_upto_if 67 with fail
  go_cut [] (fun wx=>∃(st:Am×Int) (v:Value),ChS w Wb w10.heap.size w.heap.size none st v wx∧st=(if m=5 then ps.foldl (tkP own) ([],vl q) else ([],vl q))∧InvA own (vl q) st∧st.1.length≤P)
  case first =>
   by_cases hm5:m=5
   case neg =>
    have t1:(m==5)=false:=Aaj.2 hm5
    have HM5:=hI hm5
    clear hm5
    go_wp2_with fail
    go_meet
    case rel=>exact⟨_,_,HS0.out,by rw[if_neg HM5.out],HI0.out,Nat.zero_le _⟩
   subst hm5
   have HVP2:=hI (HVP.out rfl)
   clear HVP
   go_wp2_with fail
   go_loopw [70] (fun v wr=>∃(k:Nat) (st:Am×Int) (vo:Value),v=.int .i64 (k:Int)∧k≤P∧st=(ps.take k).foldl (tkP own) ([],vl q)∧st.1.length≤k∧InvA own (vl q) st∧ChS w Wb w10.heap.size w.heap.size none st vo wr) (fun v _=>P-(intOf v).toNat)
   case atStart=>exact⟨0,_,_,rfl,Nat.zero_le _,rfl,Aad _,HI0.out,HS0.out⟩
   case round =>
    clear HS0 HI0
    obtain⟨k,st,vo,rfl,hkP,hst,hsl,hinv,hS⟩:=hrel
    have HST:=hI hst
    have HSLN:=hI hsl
    have HINV:=hI hinv
    have HS:=hI hS
    clear hst hsl hinv hS
    rcases Aam k P with hlt|hge
    ·obtain⟨p,hp⟩:∃p,ps[k]?=some p:=⟨_,Aae (by rw[HP.out];exact hlt)⟩
     obtain⟨ad,rfl,had,hcell⟩:=HKP.out (by intro e;rw[e] at hp;cases hp)
     have hcx:decide ((k:Int)<(P:Int))=true:=by simp;omega
     obtain⟨c0,c1⟩:=(hcell k p hp).below (HS.out.outer.mono HNn.out) (by rw[Acv];exact had)
     have HTKN:=hI (Amq hp)
     obtain⟨hcan,hpos⟩:=HVP2.out p (Aas hp)
     have HPC:Hid (p.qty=I (vl p.qty)):=hcan.symm
     have HPS2:Hid ((I (vl p.qty)).size≤2000):=by
      have h:=HPS.out p (Aas hp)
      rw[hcan.symm] at h
      exact Aap h (by decide)
     rw[HPC.out] at c1
     obtain⟨W5,hW5⟩:∃W5,wr.alloc (.cells #[.string p.lot,.string (I (vl p.qty))] 43)=W5:=⟨_,rfl⟩
     have b5:Below wr.heap.size wr W5:=by rw[←hW5];exact (Below.refl _ wr).alloc (Aad _) _
     have k5:W5.heap[wr.heap.size]?=some (.cells #[.string p.lot,.string (I (vl p.qty))] 43 (0,0)):=by rw[←hW5];exact Aa5 wr _
     have HS5:=hI (HS.out.below b5)
     have HK5:=hI k5
     have hrl:=HRS.out st vo W5 HS5.out
     have HFI:=hI (Aru Wb.heap.size A2 (sl.map Subtype.val) c2 p.lot (by rw[Aar,HML.out];have:=HC2.out.2.2;omega) W5 hrl.rdb' HS5.out.size)
     rw[Aar,HML.out,HSL.out.1] at HFI
     have d0:=Aaa k5 0
     simp at d0
     clear b5 k5 hrl hcell hp hcan had HS
     go_wp2_with fail
     refine HFI.out.mono ?_
     rintro e w6 ⟨rfl,b6⟩
     have HS6:=hI (HS5.out.below b6)
     have k6:=(b6.block _ (Aab.1 HK5.out).1).trans HK5.out
     have d1:=Aaa k6 1
     simp at d1
     clear b6 k6 HK5 HS5 d0 HFI c0 c1
     cases hlo:lotOf own p.lot with
     | none =>
       rw[Aqr hlo]
       have HT1:Hid (tkP own st p=st):=by
        unfold Hid tkP
        rw[show own.find? (fun x=>decide (x.id=p.lot))=none from hlo]
       clear hlo
       go_wp2_with fail
       go_roundw
       case rel=>exact⟨k+1,st,vo,by go_num,by omega,by rw[HTKN.out,List.foldl_append,←HST.out];exact HT1.out.symm,by have:=HSLN.out;omega,HINV.out,HS6.out⟩
       case measure=>simp[intOf];omega
     | some x =>
       obtain⟨g1,g2⟩:=Aqq hlo
       have HT1:Hid (tkP own st p=tk st x (vl p.qty)):=by
        unfold Hid tkP
        rw[show own.find? (fun x=>decide (x.id=p.lot))=some x from hlo]
       generalize hfr:findR own p.lot 0=fr at g1 g2 ⊢
       obtain⟨i,is⟩:=fr
       obtain rfl:is=true:=g1
       have hxm:=(Aqn hlo).1
       obtain⟨y,hy,hyx⟩:∃y:SLot,sl[i]?=some y∧y.1=x:=by
        have h:(sl.map Subtype.val)[i]?=some x:=by rw[HSL.out.1];exact g2
        rw[List.getElem?_map] at h
        obtain⟨y,hy,e⟩:=Option.map_eq_some_iff.1 h
        exact⟨y,hy,e⟩
       obtain⟨ad2,rfl,had2,hcell2⟩:=HRS.out st vo w6 HS6.out (by intro e;rw[e] at hy;cases hy)
       obtain⟨c0,c1,c2',c3,c4,c5,c6⟩:=hcell2 i y hy
       rw[hyx] at c0 c1 c2' c3 c4 c5 c6
       have hiM:i<M:=by rw[←HML.out];exact (Aak.1 hy).1
       have hHC:=fun W (hW:ChS w Wb w10.heap.size w.heap.size none st vo W)=>HTK.out Wb none st vo x hxm (vl p.qty) HPS2.out HINV.out (by have:=HSLN.out;omega) W hW
       obtain⟨P1,hP1⟩:∃P1:World→Prop,P1=fun W=>∃v',ChS w Wb w10.heap.size w.heap.size none (tk st x (vl p.qty)) v' W∧InvA own (vl q) (tk st x (vl p.qty))∧(tk st x (vl p.qty)).1.length≤st.1.length+1:=⟨_,rfl⟩
       have HP1:Hid (∀W,P1 W→∃v',ChS w Wb w10.heap.size w.heap.size none (tk st x (vl p.qty)) v' W∧InvA own (vl q) (tk st x (vl p.qty))∧(tk st x (vl p.qty)).1.length≤st.1.length+1):=fun W h=>by rw[hP1] at h;exact h
       have hHC2:∀W,ChS w Wb w10.heap.size w.heap.size none st vo W→Calls Tryz.prog 42 #[.agg #[.string x.id,.string x.inst,.int .i64 x.acq,.int .i64 x.opn,.string x.qty,.string x.cost,.string x.used],.string (I (vl p.qty)),.pointer (some ⟨w10.heap.size,0,none⟩),.pointer (some ⟨w.heap.size,0,none⟩)] W fun e w'=>e=.returned (.tuple #[])∧P1 w':=fun W h=>by rw[hP1];exact hHC W h
       obtain⟨P0,hP0⟩:∃P0:World→Prop,P0=fun W=>ChS w Wb w10.heap.size w.heap.size none st vo W∧LotAt W (ad2.add (i*7)) x∧W.cell? ⟨wr.heap.size,1,none⟩=some (.string (I (vl p.qty))):=⟨_,rfl⟩
       have hst0:P0 w6.drew:=by rw[hP0];exact⟨HS6.out.drew,⟨c0,c1,c2',c3,c4,c5,c6⟩,d1⟩
       have HR0:Hid (∀W,P0 W→LotAt W (ad2.add (i*7)) x∧W.cell? ⟨wr.heap.size,1,none⟩=some (.string (I (vl p.qty)))):=fun W h=>by rw[hP0] at h;exact h.2
       have HC:Hid (∀W,P0 W→Calls Tryz.prog 42 #[.agg #[.string x.id,.string x.inst,.int .i64 x.acq,.int .i64 x.opn,.string x.qty,.string x.cost,.string x.used],.string (I (vl p.qty)),.pointer (some ⟨w10.heap.size,0,none⟩),.pointer (some ⟨w.heap.size,0,none⟩)] W fun e w'=>e=.returned (.tuple #[])∧P1 w'):=fun W h=>by rw[hP0] at h;exact hHC2 W h.1
       have HIM:=hI hiM
       clear hHC hHC2 hP1 hP0 c0 c1 c2' c3 c4 c5 c6 d1 hiM
       clear hlo g2 hfr hy hyx hcell2 hxm had2
       go_wp2_with fail
       have mixed:Tryz.prog.follows .mixedOrders=true:=by kernel_rfl
       refine wp_region_any mixed (Akw (CWJ P0 P1 w10.heap.size w.heap.size wr.heap.size ad2 M c2 i x (vl p.qty) _ _ _ _ _ _ _ _ _ _ _ _ _ _ _ _ _ _ _ _ _ _ _ _ _ _ _ _ _ _ _ _ _ _ _ _ _ _ _ _ _ _ _ _ _ _ _ _ _ _ _ _ _ _ _ _ _ _ _ _ _ _ _ _ _ _ _ _ _ _ _ _ _ _ _ _ _ _ _ _ _ _ _ _ _ _ _ _ _ _ _ _ _ _ _) ?stCW ?dnCW _ _ _ _ ⟨by simp,⟨_,_,_,_,_,_,_,_,rfl,fun h=>by simp at h,fun h=>by simp at h,fun h=>by simp at h,fun h=>by simp at h,fun h=>by simp at h,fun h=>by simp at h,fun h=>by simp at h,fun _=>hst0,fun h=>by simp at h,fun h=>by simp at h,fun h=>by simp at h⟩⟩ (by decide))
       case dnCW =>
        intro L a w' hj hr
        have all:=Akv hr hj.sz (by kernel_rfl)
        obtain⟨s82,s83,s84,s85,s86,s87,s88,s89,rfl,hv⟩:=hj.fr
        have hfin:=HP1.out _ (hv.r1 (all 7 (by omega)))
        clear all hv hj hr
        dsimp only
        obtain⟨v7,hS7,hI7,hl7⟩:=hfin
        have HFIN:=hI (And.intro hS7 (And.intro hI7 hl7))
        clear hS7 hI7 hl7
        go_wp2_with fail
        go_roundw
        case rel=>exact⟨k+1,tk st x (vl p.qty),v7,by go_num,by omega,by rw[HTKN.out,List.foldl_append,←HST.out];exact HT1.out.symm,by have:=HSLN.out;have:=HFIN.out.2.2;omega,HFIN.out.2.1,HFIN.out.1⟩
        case measure=>simp[intOf];omega
       case stCW =>
        intro L a w' hj i hi
        obtain⟨hun,o,ho,hall⟩:=mem_ready.1 hi
        have hoff:=Akk hun
        have hlt:=(Aab.1 ho).1
        simp at hlt
        obtain⟨s82,s83,s84,s85,s86,s87,s88,s89,rfl,hv⟩:=hj.fr
        have HV:=hI hv
        have HJ:=hI hj
        clear hv hj
        rcases (show i=0∨i=1∨i=2∨i=3∨i=4∨i=5∨i=6∨i=7 from by omega) with rfl|rfl|rfl|rfl|rfl|rfl|rfl|rfl
        all_goals simp at ho
        all_goals subst ho
        rotate_left
        rotate_left
        rotate_left
        cases HV.out.k1 (Hq hall 1).out
        cases HV.out.k2 (Hq hall 2).out
        have him:=HIM.out
        rotate_left
        cases HV.out.k3 (Hq hall 3).out
        have ho:L.getD 7 false=false:=by rcases Akr L 7 with h|h;exact h;exact (Akq hoff (HV.out.q4 h)).elim
        obtain⟨c0,c1,c2',c3,c4,c5,c6⟩:=(HR0.out w' (HV.out.r0 ho)).1
        rotate_left
        rotate_left
        cases HV.out.k5 (Hq hall 5).out
        have ho:L.getD 7 false=false:=by rcases Akr L 7 with h|h;exact h;exact (Akq hoff (HV.out.q6 h)).elim
        have cq:=(HR0.out w' (HV.out.r0 ho)).2
        rotate_left
        ·have H4:=Hq hall 4
         have H6:=Hq hall 6
         cases HV.out.k0 (Hq hall 0).out
         cases HV.out.k4 (Hq hall 4).out
         cases HV.out.k6 (Hq hall 6).out
         clear hall hi
         refine Akt rfl fun K' HK=>?_
         go_simp
         refine (HC.out w' (HV.out.r0 hoff)).mono ?_
         rintro e wn ⟨rfl,hp1⟩
         cases HV.out
         refine HK.out _ _ ⟨by simp[HJ.out.sz],⟨_,_,_,_,_,_,_,_,rfl,?_,?_,?_,?_,?_,?_,?_,fun h=>(Akq h (Aki hun)).elim,fun _=>hp1,fun _=>Akm hun H4.out,fun _=>Akm hun H6.out⟩⟩
         all_goals exact Um (by assumption)
        all_goals
         clear hall hi
         refine Akt rfl fun K' HK=>?_
         go_simp
         cases HV.out
         refine HK.out _ _ ⟨by simp[HJ.out.sz],?_⟩
         iterate 8 apply Exists.intro
         refine⟨rfl,?_⟩
         constructor
         all_goals first|exact Um (by assumption)|exact Un (by assumption)|exact Uf (by assumption)|exact fun _=>rfl|assumption|exact Uq hun (by assumption)|exact Uq2 hun (by assumption)|exact Uq3 hun (by assumption)
    ·have hcx:decide ((k:Int)<(P:Int))=false:=by simp;omega
     have HEND:Hid (st=(if (5:Int)=5 then ps.foldl (tkP own) ([],vl q) else ([],vl q))):=by
      rw[Hid,if_pos rfl,HST.out,Aai (by rw[HP.out];exact hge)]
     go_wp2_with fail
     go_meet
     case rel=>exact⟨st,vo,HS.out,HEND.out,HINV.out,by have:=HSLN.out;omega⟩
  case rest =>
   obtain⟨st0,v0,hS,hst,hinv,hsl⟩:=hcut
   have HS:=hI hS
   have HST:=hI hst
   have HINV:=hI hinv
   have HSLN:=hI hsl
   have hk12:=(hS.keep w4.heap.size (by have:=HEB.out;omega) (by have:=HEB.out;omega) (by have:=HEB.out;omega) (by simp)).trans HEB.out.1
   have hfb:=(hS.keep bf (by have:=HEB.out;omega) (by have:=HEB.out;omega) (by have:=HEB.out;omega) (by simp)).trans HEB.out.2.1
   have HK12:=hI hk12
   have HSRT:=hI (At4 m bf Wb.heap.size A2 sl c2 (by rw[HML.out];omega) _ (HRS.out st0 v0 _ hS) hS.size HNIL.out (fun l hl=>(HOWN.out.2.1 l.1 (by rw[←HSL.out.1];exact List.mem_map.2 ⟨l,hl,rfl⟩)).pq) hfb (HT.out.below hS.outer))
   rw[HML.out,HSL.out.1] at HSRT
   clear hS hst hinv hsl HS0 HI0 hk12 hfb
   go_wp2_with (refine wpList_load_row rfl _ _ rfl w4.heap.size rfl _ (entM m bf) (0,0) _ HK12.out Tryz.underlying67 rfl (by kernel_rfl) ?_)
   refine HSRT.out.mono ?_
   rintro e w14 ⟨S,hSo,A3,c3,rfl,hc3,hb3,hr3,b14,_⟩
   have hS5:=(HS.out.below b14).again
   have HS5:=hI hS5
   obtain⟨T,hT⟩:∃T,S.length=T:=⟨_,rfl⟩
   have hTM:T=M:=by
    have h:=congrArg List.length hSo
    rw[Aar,(Aqc m own).length_eq,HSL.out.2] at h
    omega
   have HSO:=hI hSo
   have HTT:=hI hT
   have hne3:∀ad,A3=some ad→ad.block≠w10.heap.size∧ad.block≠w.heap.size∧some ad.block≠v0.ownBlock:=fun ad e=>by
    have h1:=hb3 ad e
    have h2:=HS.out.bo.lt
    have h3:=HS.out.bq.lt
    refine⟨by omega,by omega,fun e2=>?_⟩
    have:=(HS.out.row.lt _ e2.symm).2
    omega
   have HRS3:=hI (fun (st:Am×Int) (v:Value) (W:World) (h:ChS w w14 w10.heap.size w.heap.size v0.ownBlock st v W)=>h.lots hr3 (fun ad e _=>hne3 ad e))
   have hTl:T≤10000:=by omega
   rw[hT]
   clear hSo hc3 hb3 hr3 b14 hS5 hT hne3 HRS HSRT HK12 HEB hTM
   go_wp2_with fail
   go_loopw [95] (fun v wr=>∃(k:Nat) (st:Am×Int) (vo:Value),v=.int .i64 (k:Int)∧k≤T∧st=tkAll ((S.map Subtype.val).take k) st0∧st.1.length≤P+k∧InvA own (vl q) st∧ChS w w14 w10.heap.size w.heap.size v0.ownBlock st vo wr) (fun v _=>T-(intOf v).toNat)
   case atStart=>exact⟨0,st0,v0,rfl,Nat.zero_le _,rfl,HSLN.out,HINV.out,HS5.out⟩
   case round =>
    obtain⟨k,st,vo,rfl,hkT,hst,hsl,hinv,hS⟩:=hrel
    have HST2:=hI hst
    have HSL2:=hI hsl
    have HINV2:=hI hinv
    have HS2:=hI hS
    clear hst hsl hinv hS HS5 HINV HSLN
    rcases Aam k T with hlt|hge
    ·obtain⟨y,hy⟩:∃y,S[k]?=some y:=⟨_,Aae (by rw[HTT.out];exact hlt)⟩
     obtain⟨ad,rfl,had,hcell⟩:=HRS3.out st vo _ HS2.out (by intro e;rw[e] at hy;cases hy)
     have hcx:decide ((k:Int)<(T:Int))=true:=by simp;omega
     obtain⟨c0,c1,c2',c3',c4,c5,c6⟩:=hcell k y hy
     have hym:(S.map Subtype.val)[k]?=some y.1:=by rw[List.getElem?_map,hy];rfl
     have HTKN:=hI (Amq hym)
     have hyo:y.1∈own:=(Aqc m own).mem_iff.1 (by rw[←HSO.out];exact Aas hym)
     have HPC:Hid (y.1.qty=I (vl y.1.qty)):=((HOWN.out.2.1 _ hyo).cq).symm
     have HPS2:Hid ((I (vl y.1.qty)).size≤2000):=by
      have h:=(HOWN.out.2.2 _ hyo).2.2.1
      rw[HPC.out] at h
      exact Aap h (by decide)
     obtain⟨W5,hW5⟩:∃W5,wr.alloc (.cells y.1.cells 38)=W5:=⟨_,rfl⟩
     have b5:Below wr.heap.size wr W5:=by rw[←hW5];exact (Below.refl _ wr).alloc (Aad _) _
     have k5:LotBox W5 wr.heap.size y.1:=by rw[←hW5];exact Aa5 wr _
     have HS5:=hI (HS2.out.below b5)
     have HC:=hI (HTK.out w14 v0.ownBlock st vo y.1 hyo (vl y.1.qty) HPS2.out HINV2.out (by have:=HSL2.out;omega) W5 HS5.out)
     obtain⟨d0,d1,d2,d3,d4,d5,d6⟩:=(⟨by have:=Aaa k5 0;simpa using this,by have:=Aaa k5 1;simpa using this,by have:=Aaa k5 2;simpa using this,by have:=Aaa k5 3;simpa using this,by have:=Aaa k5 4;simpa using this,by have:=Aaa k5 5;simpa using this,by have:=Aaa k5 6;simpa using this⟩:W5.cell? ⟨wr.heap.size,0,none⟩=some (.string y.1.id)∧W5.cell? ⟨wr.heap.size,1,none⟩=some (.string y.1.inst)∧W5.cell? ⟨wr.heap.size,2,none⟩=some (.int .i64 y.1.acq)∧W5.cell? ⟨wr.heap.size,3,none⟩=some (.int .i64 y.1.opn)∧W5.cell? ⟨wr.heap.size,4,none⟩=some (.string y.1.qty)∧W5.cell? ⟨wr.heap.size,5,none⟩=some (.string y.1.cost)∧W5.cell? ⟨wr.heap.size,6,none⟩=some (.string y.1.used))
     unfold Lot.enc Lot.cells at HC
     unfold Lot.cells at hW5
     rw[←HPC.out] at HC
     clear b5 k5 hcell hy hym hyo had HS2
     go_wp2_with fail
     refine HC.out.mono ?_
     rintro e w7 ⟨rfl,v7,hS7,hI7,hl7⟩
     have HFIN:=hI (And.intro hS7 (And.intro hI7 hl7))
     clear hS7 hI7 hl7 HC d0 d1 d2 d3 d4 d5 d6 c0 c1 c2' c3' c4 c5 c6
     go_wp2_with fail
     go_roundw
     case rel=>exact⟨k+1,tk st y.1 (vl y.1.qty),v7,by go_num,by omega,by rw[HTKN.out];unfold tkAll;rw[List.foldl_append];rw[HST2.out];rfl,by have:=HSL2.out;have:=HFIN.out.2.2;omega,HFIN.out.2.1,HFIN.out.1⟩
     case measure=>simp[intOf];omega
    ·have hcx:decide ((k:Int)<(T:Int))=false:=by simp;omega
     have hend:st=chsSt own m (vl q) ps:=by
      rw[HST2.out,Aai (by rw[Aar,HTT.out];exact hge),HSO.out,HST.out];rfl
     have HEND:=hI hend
     have cb:=HS2.out.bo.cell
     clear hend
     obtain⟨Ao,co,hvo,hco,hko⟩:=HS2.out.form
     subst hvo
     have HRES:=hI (And.intro hco hko)
     clear hco hko
     go_wp2_with fail
     go_ret2
     exact⟨Ao,co,pksOf st.1,by rw[HE.out];rfl,HS2.out.outer,HRES.out.2,HRES.out.1,fun h=>absurd HE.out h,fun _=>by rw[HOWD.out,HEND.out]⟩
end Go.Proofs.YtcmgmemffncbhabGreatDoor
