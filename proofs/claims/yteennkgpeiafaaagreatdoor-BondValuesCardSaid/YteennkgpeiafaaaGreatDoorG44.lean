/-
  What the functions of package bond answer on any instrument of the sizes of the statements,as functions of the arguments.
-/
import Derived.Test.YteennkgpeiafaaaGreatDoorG42
import Derived.Test.YteennkgpeiafaaaGreatDoorG43
set_option linter.unusedVariables false
set_option linter.unusedSimpArgs false
set_option maxHeartbeats 16000000
set_option maxRecDepth 100000
namespace Go.Proofs.YteennkgpeiafaaaGreatDoor
open Go.RowKit Tr Go.Shelf
structure GI(i:Inst):Prop where
 ti:i.tiny
 sz:i.sized
 bd:i.ok→i.kind=2→BdI i
 fm:i.ok→i.kind=2→(cuts i.issued i.matures i.months).length≤14∨400≤(cuts i.issued i.matures i.months).length
theorem Atn{i:Inst}(h:i.tiny):i.sized:=by
 obtain⟨a1,a2,a3,a4,a5,a6,a7,a8,a9⟩:=h
 exact⟨by omega,by omega,by omega,by omega,by omega,by omega,by omega,by omega,by omega⟩
theorem Atp{i:Inst}(ht:i.tiny)(hok:i.ok)(h3:i.kind=2):BdI i:=by
 obtain⟨a1,a2,a3,a4,a5,a6,a7,a8,a9⟩:=ht
 exact⟨⟨by omega,by omega,by omega,by omega,by omega,by omega,by omega,by omega,by omega⟩,by omega,by omega,by omega,by omega,hok,h3⟩
theorem GI.of{i:Inst}(h:greatB i=false):GI i:=by
 have ht:=greatB_no h
 refine⟨ht,Atn ht,fun hok h3=>Atp ht hok h3,fun hok h3=>?_⟩
 have hb:=Atp ht hok h3
 unfold greatB at h
 rw[propB_iff.2 hok,Aay h3] at h
 simp at h
 have hd:=h.2
 rcases Int.lt_or_le (372*i.months) (i.matures-i.issued) with h1|h1
 ·exact .inr (Ajc hb.mo.1 hb.mo.2 hok.issued.1 hb.mat.1.1 hb.mat.1.2 (by omega))
 ·exact .inl (Ajb hb.mo.1 hb.mat.1.1 hb.mat.1.2 h1)
theorem FwAt.belowC{n₀:Nat}{w w':World}{ad:Addr}{x:Int×Rat}(h:FwAt w ad x)(hb:Below n₀ w w')(ha:ad.block<n₀):FwAt w' ad x :=
 ⟨(hb.cell ha).trans h.1,(hb.cell (by exact ha)).trans h.2.1,(hb.cell (by exact ha)).trans h.2.2⟩
theorem RdFw.belowC{n₀:Nat}{w w':World}{A:Option Addr}{ps:List (Int×Rat)}(h:RdFw n₀ w A ps)(hb:Below n₀ w w'):RdFw n₀ w' A ps:=by
 intro hl
 obtain⟨ad,rfl,h1,h2⟩:=h hl
 exact⟨ad,rfl,h1,fun j x hj=>(h2 j x hj).belowC hb (by rw[Acm];exact h1)⟩
def RdPw(n₀:Nat)(w:World)(A:Option Addr)(ps:List (Int×Int)):Prop :=
 ps≠[]→∃ad:Addr,A=some ad∧ad.block<n₀∧∀(j:Nat) (p:Int×Int),ps[j]?=some p→w.cell? (ad.add (j*2))=some (.int .i64 p.1)∧w.cell? ⟨(ad.add (j*2)).block,(ad.add (j*2)).off+1,none⟩=some (.int .i64 p.2)
theorem RdPw.belowC{n₀:Nat}{w w':World}{A:Option Addr}{ps:List (Int×Int)}(h:RdPw n₀ w A ps)(hb:Below n₀ w w'):RdPw n₀ w' A ps:=by
 intro hl
 obtain⟨ad,rfl,h1,h2⟩:=h hl
 exact⟨ad,rfl,h1,fun j x hj=>⟨(hb.cell (by rw[Acm];exact h1)).trans (h2 j x hj).1,(hb.cell (by show (ad.add (j*2)).block<n₀;rw[Acm];exact h1)).trans (h2 j x hj).2⟩⟩
theorem RdP.pw{w:World}{ad:Addr}{ps:List (Int×Int)}(h:RdP w ad ps):RdPw w.heap.size w (some ad) ps:=fun _=>⟨ad,rfl,h.1,h.2⟩
theorem Atq(n₀:Nat)(w:World)(A:Option Addr):RdPw n₀ w A []:=fun h=>absurd rfl h
theorem Atr(n₀:Nat)(w:World)(A:Option Addr):RdFw n₀ w A []:=fun h=>absurd rfl h
def PerV(l:List (Int×Int))(c:Int)(w:World)(e:Ending)(w':World):Prop :=
 (∃A k,e=.returned (.tuple #[.slice A l.length k,.int .i64 c])∧RdPw w'.heap.size w' A l∧∀ad:Addr,A=some ad→w.heap.size≤ad.block)∧Below w.heap.size w w'
def FlwV(l:List (Int×Rat))(c:Int)(w:World)(e:Ending)(w':World):Prop :=
 (∃A k,e=.returned (.tuple #[.slice A l.length k,.int .i64 c])∧RdFw w'.heap.size w' A l)∧Below w.heap.size w w'
theorem PerV.have{l:List (Int×Int)}{c:Int}{w w':World}{e:Ending}(h:PerV l c w e w')(hl:l≠[]):∃(ad:Addr) (k:Nat),e=.returned (.tuple #[.slice (some ad) l.length k,.int .i64 c])∧RdP w' ad l∧w.heap.size≤ad.block:=by
 obtain⟨⟨A,k,rfl,h1,h2⟩,_⟩:=h
 obtain⟨ad,rfl,h3,h4⟩:=h1 hl
 exact⟨ad,k,rfl,⟨h3,h4⟩,h2 ad rfl⟩
noncomputable def perB(i:Inst):List (Int×Int):=if perC i=0 then perL i else []
noncomputable def fwB(i:Inst):List (Int×Rat):=if perC i=0 then Aqk i else []
open Classical in
noncomputable def cpC(i:Inst)(z:Int):Int:=if perC i≠0 then perC i else if 0≤z∧z<((perL i).length:Int) then 0 else 2
noncomputable def cpQ(i:Inst)(z:Int):Rat:=if cpC i z=0 then coupQ i z.toNat else 0
open Classical in
noncomputable def rsC(i:Inst)(d:Int):Int:=if perC i≠0 then perC i else if okDay d then 0 else 13
noncomputable def rsB(i:Inst)(d:Int):List (Int×Rat):=if rsC i d=0 then restL i d (Aqk i) else []
open Classical in
noncomputable def dyC(i:Inst)(d:Int)(fn fd:ByteArray):Int:=if ¬CanQ fn fd then 1 else if perC i≠0 then perC i else if ¬okDay d then 13 else if ¬(i.issued≤d∧d≤i.matures) then 24 else 0
noncomputable def dyQ(i:Inst)(d:Int)(fn fd:ByteArray):Rat:=if dyC i d fn fd=0 then fv fn fd+accQ i d else 0
open Classical in
noncomputable def prC(i:Inst)(d:Int)(fn fd:ByteArray):Int:=if ¬CanQ fn fd then 1 else if perC i≠0 then perC i else if ¬okDay d then 13 else if ¬ 0<1+fv fn fd then 2 else if ¬(i.issued≤d∧d≤i.matures) then 24 else 0
noncomputable def prQ(i:Inst)(d:Int)(fn fd:ByteArray):Rat:=if prC i d fn fd=0 then (if d=i.matures then 0 else presQ i d (fv fn fd)) else 0
theorem Ats{i:Inst}(hg:GI i):(¬(i.ok∧i.kind=2)∧perC i≠0)∨(BdI i∧400≤(cuts i.issued i.matures i.months).length∧perC i=4)∨(BdI i∧(cuts i.issued i.matures i.months).length≤399∧perC i=0):=by
 by_cases h:i.ok∧i.kind=2
 ·rcases Aam (cuts i.issued i.matures i.months).length 400 with h1|h1
  ·exact .inr (.inr ⟨hg.bd h.1 h.2,by omega,perC_0 h.1 h.2 (by omega)⟩)
  ·exact .inr (.inl ⟨hg.bd h.1 h.2,h1,perC_4 h.1 h.2 h1⟩)
 ·exact .inl ⟨h,perC_bad h⟩
theorem Att{i:Inst}(hg:GI i)(hn:perC i≠0)(w:World)(ht:Tabs w):Calls Tryz.prog 26 #[i.enc] w fun e w'=>e=.returned (.tuple #[.slice none 0 0,.int .i64 (perC i)])∧Below w.heap.size w w':=by
 rcases Ats hg with⟨h,_⟩|⟨hb,hl,he⟩|⟨_,_,he⟩
 ·exact bPer_bad i hg.sz h w ht
 ·refine (Apk i hb w ht).mono ?_
  rintro e w' ⟨b,hr⟩
  rcases hr with⟨_,rfl⟩|⟨hl2,_⟩
  ·exact⟨by rw[he],b⟩
  ·omega
 ·exact absurd he hn
theorem Atu{i:Inst}(hg:GI i)(w:World)(ht:Tabs w):Calls Tryz.prog 26 #[i.enc] w (PerV (perB i) (perC i) w):=by
 by_cases hn:perC i=0
 ·obtain⟨h1,h2,h3⟩:=perC_zero hn
  have hb:=hg.bd h1 h2
  have e1:perB i=perL i:=by unfold perB;rw[if_pos hn]
  rw[e1,hn]
  refine (As1 hb h3 w ht).mono ?_
  rintro e w' ⟨⟨ad,cap,cur,rfl,_,hsz,hob,hrd⟩,b⟩
  exact⟨⟨some ad,cap,rfl,(hrd w' hob).pw,fun a ha=>by injection ha with ha;rw[←ha];exact hsz⟩,b⟩
 ·have e1:perB i=[]:=by unfold perB;rw[if_neg hn]
  rw[e1]
  refine (Att hg hn w ht).mono ?_
  rintro e w' ⟨rfl,b⟩
  exact⟨⟨none,0,rfl,Atq _ _ _,fun _ ha=>by cases ha⟩,b⟩
theorem Atv{i:Inst}(hg:GI i)(z:Int)(w:World)(ht:Tabs w):Calls Tryz.prog 27 #[i.enc,.int .i64 z] w fun e w'=>e=.returned (.tuple #[fenc (cpQ i z),.int .i64 (cpC i z)])∧Below w.heap.size w w':=by
 by_cases hn:perC i=0
 ·obtain⟨h1,h2,h3⟩:=perC_zero hn
  have hb:=hg.bd h1 h2
  refine (Aqw i hb z w ht).mono ?_
  rintro e w' ⟨b,hr⟩
  refine⟨?_,b⟩
  rcases hr with⟨h4,_⟩|⟨_,⟨hz,he⟩|⟨k,p,rfl,hp,he⟩⟩
  ·omega
  ·have hc:cpC i z=2:=by unfold cpC;rw[if_neg (fun x=>x hn),if_neg hz]
   have hq:cpQ i z=0:=by unfold cpQ;rw[if_neg (by rw[hc];decide)]
   rw[hc,hq];exact he
  ·have hk:=(Aak.1 hp).1
   have hc:cpC i (k:Int)=0:=by unfold cpC;rw[if_neg (fun x=>x hn),if_pos ⟨by omega,by omega⟩]
   have hq:cpQ i (k:Int)=intQ i p.1 p.2:=by unfold cpQ;rw[if_pos hc,Int.toNat_natCast,Aq7 hp]
   rw[hc,hq];exact he
 ·have hc:cpC i z=perC i:=by unfold cpC;rw[if_pos hn]
  have hq:cpQ i z=0:=by unfold cpQ;rw[if_neg (by rw[hc];exact hn)]
  rw[hc,hq]
  exact err_bCoupon i z _ hn (fun W hW=>Att hg hn W hW) w ht
theorem Atw{i:Inst}(hg:GI i)(w:World)(ht:Tabs w):Calls Tryz.prog 24 #[i.enc] w (FlwV (fwB i) (perC i) w):=by
 by_cases hn:perC i=0
 ·obtain⟨h1,h2,h3⟩:=perC_zero hn
  have hb:=hg.bd h1 h2
  have e1:fwB i=Aqk i:=by unfold fwB;rw[if_pos hn]
  rw[e1,hn]
  refine (As4 hb h3 w ht).mono ?_
  rintro e w' ⟨⟨g,c,sp,rfl,_,_,hob⟩,b⟩
  exact⟨⟨_,c,rfl,rdfw_row hob⟩,b⟩
 ·have e1:fwB i=[]:=by unfold fwB;rw[if_neg hn]
  rw[e1]
  refine (err_bFlows i _ hn (fun W hW=>Att hg hn W hW) w ht).mono ?_
  rintro e w' ⟨rfl,b⟩
  exact⟨⟨none,0,rfl,Atr _ _ _⟩,b⟩
theorem Atx{i:Inst}(hg:GI i)(d:Int)(w:World)(ht:Tabs w):Calls Tryz.prog 33 #[i.enc,.int .i64 d] w (FlwV (rsB i d) (rsC i d) w):=by
 by_cases hn:perC i=0
 ·obtain⟨h1,h2,h3⟩:=perC_zero hn
  have hb:=hg.bd h1 h2
  refine (Asz i hb d w ht).mono ?_
  rintro e w' ⟨b,hr⟩
  refine⟨?_,b⟩
  rcases hr with⟨h4,_⟩|⟨_,⟨hd,rfl⟩|⟨hd,g,c,sp,_,rfl,hob⟩⟩
  ·omega
  ·have hc:rsC i d=13:=by unfold rsC;rw[if_neg (fun x=>x hn),if_neg hd]
   have hq:rsB i d=[]:=by unfold rsB;rw[if_neg (by rw[hc];decide)]
   rw[hc,hq];exact⟨none,0,rfl,Atr _ _ _⟩
  ·have hc:rsC i d=0:=by unfold rsC;rw[if_neg (fun x=>x hn),if_pos hd]
   have hq:rsB i d=restL i d (Aqk i):=by unfold rsB;rw[if_pos hc]
   rw[hc,hq];exact⟨_,c,rfl,rdfw_row hob⟩
 ·have hc:rsC i d=perC i:=by unfold rsC;rw[if_pos hn]
  have hq:rsB i d=[]:=by unfold rsB;rw[if_neg (by rw[hc];exact hn)]
  rw[hc,hq]
  refine (err_bRest i d _ hn (fun W hW=>err_bChk i _ hn (fun W' hW'=>Att hg hn W' hW') d none 0 0 W (fun W' _=>Apx 0 W') hW) w ht).mono ?_
  rintro e w' ⟨rfl,b⟩
  exact⟨⟨none,0,rfl,Atr _ _ _⟩,b⟩
theorem Aty{i:Inst}(hg:GI i)(d:Int)(fn fd:ByteArray)(s1:fn.size≤900000)(s2:fd.size≤900000)(c:Int)(hc:(¬CanQ fn fd∧c=1)∨(CanQ fn fd∧perC i≠0∧c=perC i))(W:World)(g:Nat)(hb:W.heap[g]?=some (.cells #[.string fn,.string fd] 25 (0,0)))(ht:Tabs W):
 Calls Tryz.prog 61 #[i.enc,.int .i64 d,.slice (some ⟨g,0,none⟩) 1 1] W fun e w'=>e=.returned (.tuple #[.slice none 0 0,.int .i64 c])∧Below W.heap.size W w':=by
 rcases hc with⟨hq,rfl⟩|⟨hq,hn,rfl⟩
 ·exact err_bChkF i d _ 1 1 W (fun W' hW'=>Apy g fn fd true (by omega) (by omega) ⟨fun h=>(by cases h),fun h=>absurd h hq⟩ W' (bkeep hW' hb) (ht.below hW'))
 ·exact err_bChk i _ hn (fun W' hW'=>Att hg hn W' hW') d _ 1 1 W (fun W' hW'=>Apy g fn fd false (by omega) (by omega) ⟨fun _=>hq,fun _=>rfl⟩ W' (bkeep hW' hb) (ht.below hW')) ht
theorem Atz{i:Inst}(hg:GI i)(d:Int)(fn fd:ByteArray)(s1:fn.size≤400)(s2:fd.size≤400)(w:World)(ht:Tabs w):
 Calls Tryz.prog 17 #[i.enc,.int .i64 d,.agg #[.string fn,.string fd]] w fun e w'=>e=.returned (.tuple #[fenc (dyQ i d fn fd),.int .i64 (dyC i d fn fd)])∧Below w.heap.size w w':=by
 by_cases hq:CanQ fn fd
 case neg =>
  have hc:dyC i d fn fd=1:=by unfold dyC;rw[if_pos hq]
  have hv:dyQ i d fn fd=0:=by unfold dyQ;rw[if_neg (by rw[hc];decide)]
  rw[hc,hv]
  exact err_bDirty i d fn fd 1 (by decide) (fun W g hb hW=>Aty hg d fn fd (by omega) (by omega) 1 (.inl ⟨hq,rfl⟩) W g hb hW) w ht
 by_cases hn:perC i=0
 case neg =>
  have hc:dyC i d fn fd=perC i:=by unfold dyC;rw[if_neg (fun x=>x hq),if_pos hn]
  have hv:dyQ i d fn fd=0:=by unfold dyQ;rw[if_neg (by rw[hc];exact hn)]
  rw[hc,hv]
  exact err_bDirty i d fn fd _ hn (fun W g hb hW=>Aty hg d fn fd (by omega) (by omega) _ (.inr ⟨hq,hn,rfl⟩) W g hb hW) w ht
 obtain⟨h1,h2,h3⟩:=perC_zero hn
 have hb:=hg.bd h1 h2
 refine (Ap6 i hb d fn fd (by omega) (by omega) ((fv_bd fn fd (k:=401) (by omega) (by omega)).mono (by omega)) hq w ht).mono ?_
 rintro e w' ⟨b,hr⟩
 refine⟨?_,b⟩
 rcases hr with⟨h4,_⟩|⟨_,⟨hd,he⟩|⟨hd,⟨hl,he⟩|⟨hl,he⟩⟩⟩
 ·omega
 ·have hc:dyC i d fn fd=13:=by unfold dyC;rw[if_neg (fun x=>x hq),if_neg (fun x=>x hn),if_pos hd]
  have hv:dyQ i d fn fd=0:=by unfold dyQ;rw[if_neg (by rw[hc];decide)]
  rw[hc,hv];exact he
 ·have hc:dyC i d fn fd=24:=by unfold dyC;rw[if_neg (fun x=>x hq),if_neg (fun x=>x hn),if_neg (fun x=>x hd),if_pos hl]
  have hv:dyQ i d fn fd=0:=by unfold dyQ;rw[if_neg (by rw[hc];decide)]
  rw[hc,hv];exact he
 ·have hc:dyC i d fn fd=0:=by unfold dyC;rw[if_neg (fun x=>x hq),if_neg (fun x=>x hn),if_neg (fun x=>x hd),if_neg (fun x=>x hl)]
  have hv:dyQ i d fn fd=fv fn fd+accQ i d:=by unfold dyQ;rw[if_pos hc]
  rw[hc,hv];exact he
theorem At0{i:Inst}(hg:GI i)(d:Int)(w:World)(ht:Tabs w):
 Calls Tryz.prog 13 #[i.enc,.int .i64 d] w fun e w'=>e=.returned (.tuple #[fenc (dyQ i d ⟨#[]⟩ ⟨#[]⟩),.int .i64 (dyC i d ⟨#[]⟩ ⟨#[]⟩)])∧Below w.heap.size w w' :=
 bAccrued_of i d _ _ (fun W hW=>Atz hg d ⟨#[]⟩ ⟨#[]⟩ (Nat.zero_le _) (Nat.zero_le _) W hW) w ht
theorem At1{i:Inst}(hg:GI i)(d:Int)(fn fd:ByteArray)(s1:fn.size≤40)(s2:fd.size≤40)(w:World)(ht:Tabs w):
 Calls Tryz.prog 15 #[i.enc,.int .i64 d,.agg #[.string fn,.string fd]] w fun e w'=>e=.returned (.tuple #[fenc (prQ i d fn fd),.int .i64 (prC i d fn fd)])∧Below w.heap.size w w':=by
 by_cases hq:CanQ fn fd
 case neg =>
  have hc:prC i d fn fd=1:=by unfold prC;rw[if_pos hq]
  have hv:prQ i d fn fd=0:=by unfold prQ;rw[if_neg (by rw[hc];decide)]
  rw[hc,hv]
  exact err_bPresent i d fn fd 1 (by decide) (fun W g hb hW=>Aty hg d fn fd (by omega) (by omega) 1 (.inl ⟨hq,rfl⟩) W g hb hW) w ht
 by_cases hn:perC i=0
 case neg =>
  have hc:prC i d fn fd=perC i:=by unfold prC;rw[if_neg (fun x=>x hq),if_pos hn]
  have hv:prQ i d fn fd=0:=by unfold prQ;rw[if_neg (by rw[hc];exact hn)]
  rw[hc,hv]
  exact err_bPresent i d fn fd _ hn (fun W g hb hW=>Aty hg d fn fd (by omega) (by omega) _ (.inr ⟨hq,hn,rfl⟩) W g hb hW) w ht
 obtain⟨h1,h2,h3⟩:=perC_zero hn
 have hb:=hg.bd h1 h2
 refine (bPresent_any i hb d fn fd (by omega) (by omega) hq w ht).mono ?_
 rintro e w' ⟨b,hr⟩
 refine⟨?_,b⟩
 rcases hr with⟨h4,_⟩|⟨_,⟨hd,he⟩|⟨hd,⟨hy,he⟩|⟨hy,⟨hl,he⟩|⟨hl,hm⟩⟩⟩⟩
 ·omega
 ·have hc:prC i d fn fd=13:=by unfold prC;rw[if_neg (fun x=>x hq),if_neg (fun x=>x hn),if_pos hd]
  have hv:prQ i d fn fd=0:=by unfold prQ;rw[if_neg (by rw[hc];decide)]
  rw[hc,hv];exact he
 ·have hc:prC i d fn fd=2:=by unfold prC;rw[if_neg (fun x=>x hq),if_neg (fun x=>x hn),if_neg (fun x=>x hd),if_pos (Rat.not_lt.2 hy)]
  have hv:prQ i d fn fd=0:=by unfold prQ;rw[if_neg (by rw[hc];decide)]
  rw[hc,hv];exact he
 ·have hc:prC i d fn fd=24:=by unfold prC;rw[if_neg (fun x=>x hq),if_neg (fun x=>x hn),if_neg (fun x=>x hd),if_neg (fun x=>x hy),if_pos hl]
  have hv:prQ i d fn fd=0:=by unfold prQ;rw[if_neg (by rw[hc];decide)]
  rw[hc,hv];exact he
 ·have hc:prC i d fn fd=0:=by unfold prC;rw[if_neg (fun x=>x hq),if_neg (fun x=>x hn),if_neg (fun x=>x hd),if_neg (fun x=>x hy),if_neg (fun x=>x hl)]
  have hv:prQ i d fn fd=if d=i.matures then 0 else presQ i d (fv fn fd):=by unfold prQ;rw[if_pos hc]
  rw[hc,hv]
  rcases hm with⟨hm,he⟩|⟨hm,he⟩
  ·rw[if_pos hm];exact he
  ·rw[if_neg (by omega)];exact he
end Go.Proofs.YteennkgpeiafaaaGreatDoor
