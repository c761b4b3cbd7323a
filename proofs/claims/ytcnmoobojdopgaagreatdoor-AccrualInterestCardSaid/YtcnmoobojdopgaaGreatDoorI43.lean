/-
  slices.Grow of nil,slices.Concat of two slices of lots.
-/
import Derived.Test.YtcnmoobojdopgaaGreatDoorI21
import Derived.Laws.StructEq
import Derived.BigQuiet
import Derived.Lib.AppendZeros
set_option linter.unusedVariables false
set_option linter.unusedSimpArgs false
set_option maxHeartbeats 16000000
set_option maxRecDepth 100000
namespace Go.Proofs.YtcnmoobojdopgaaGreatDoor
open Go.RowKit Tr Go.Shelf
theorem Auy(p:Addr)(hp:p.spot=none)(n:Nat):p.add n=⟨p.block,p.off+n,none⟩:=by
 unfold Addr.add
 split
 ·next h=>subst h;cases p;simp_all
 ·cases p;simp_all
theorem Auz{w:World}{p:Addr}{v:Value}(h:w.cell? p=some v):p.spot=none:=by
 unfold World.cell? at h
 split at h
 ·split at h
  ·cases h
  ·next hs=>simpa using hs
 ·cases h
theorem flatL_at:∀(ls:List SLot) (j:Nat) (u:Value),(flatL ls)[j]?=some u→∃k l f,ls[k]?=some l∧f<7∧j=k*7+f∧l.1.cells[f]?=some u
 | [],j,u,h=>by simp[flatL] at h
 | x::r,j,u,h=>by
   simp only[flatL,List.flatMap_cons] at h
   rcases Aam j 7 with hj|hj
   ·rw[List.getElem?_append_left (by simp;omega)] at h
    exact⟨0,x,j,rfl,hj,by omega,by simpa using h⟩
   ·rw[List.getElem?_append_right (by simp;omega)] at h
    obtain⟨k,l,f,h1,h2,h3,h4⟩:=flatL_at r (j-x.1.cells.toList.length) u h
    refine⟨k+1,l,f,by simpa using h1,h2,?_,h4⟩
    simp at h3
    omega
theorem RdB.flat{n:Nat}{w:World}{a:Addr}{ls:List SLot}(h:RdB n w (some a) ls):∀j u,(flatL ls)[j]?=some u→w.cell? (a.add j)=some u:=by
 intro j u hu
 obtain⟨k,l,f,h1,h2,rfl,h4⟩:=flatL_at ls j u hu
 obtain⟨ad,e,_,hc⟩:=h (by intro e;rw[e] at h1;cases h1)
 injection e with e
 subst e
 obtain⟨c0,c1,c2,c3,c4,c5,c6⟩:=hc k l h1
 have hs:a.spot=none:=by
  obtain⟨y,hy⟩:∃y,ls[0]?=some y:=⟨_,Aae (by have:=(Aak.1 h1).1;omega)⟩
  have h0:=(hc 0 y hy).c0
  rw[show a.add (0*7)=a from by unfold Addr.add;simp] at h0
  exact Auz h0
 rw[Auy a hs] at c0 c1 c2 c3 c4 c5 c6
 rw[Auy a hs]
 rcases (show f=0∨f=1∨f=2∨f=3∨f=4∨f=5∨f=6 from by omega) with rfl|rfl|rfl|rfl|rfl|rfl|rfl<;>simp at h4<;>subst h4
 ·simpa using c0
 ·simpa[Nat.add_assoc] using c1
 ·simpa[Nat.add_assoc] using c2
 ·simpa[Nat.add_assoc] using c3
 ·simpa[Nat.add_assoc] using c4
 ·simpa[Nat.add_assoc] using c5
 ·simpa[Nat.add_assoc] using c6
theorem Au0(ls:List SLot):(flatL ls).length=ls.length*7:=by
 induction ls with
 | nil=>rfl
 | cons x r ih =>
   simp only[flatL,List.flatMap_cons,Aan,Aau] at ih ⊢
   rw[ih]
   simp
   omega
theorem Au1(ls:List SLot):∀u∈flatL ls,u.oneCell'=true:=by
 intro u hu
 obtain⟨x,_,hx⟩:=List.mem_flatMap.1 hu
 simp at hx
 rcases hx with rfl|rfl|rfl|rfl|rfl|rfl|rfl<;>rfl
theorem Au2(a b:List SLot):flatL (a++b)=flatL a++flatL b:=by simp[flatL]
theorem Au3(n:Nat)(hn:n≤100000)(w:World):
 Calls Tryz.prog 92 #[.slice none 0 0,.int .i64 (n:Int)] w fun e w'=>(∃A c,e=.returned (.slice A 0 c)∧w'.ownsRow w.heap.size 63 7 (.slice A 0 c) 0 [])∧Below w.heap.size w w':=by
 have t0:decide ((n:Int)<0)=false:=Aaw (by omega)
 rcases Aaq n with h0|h0
 ·subst h0
  go_enter Tryz.func92,Tryz.ntmps92
  go_wp2_with fail
  go_ret
  exact⟨⟨none,0,rfl,World.ownsRow_nil _ _ _ _⟩,Below.refl _ _⟩
 ·have t1:decide ((0:Int)<(n:Int))=true:=Aav (by omega)
  have t2:decide (0<n)=true:=Aav h0
  obtain⟨i0,hi0,hz0,hz1,hz2⟩:=info_parts Tryz.infoLot
  have hrun:=Lib.run_append_nil_zeros (P:=Tryz.prog) w 45 3 45 63 i0 _ .i64 .i64 Tryz.underlying45 Tryz.underlying3 hi0 hz0 n h0 (by rw[hz1];omega) (by omega) (by rw[hz2];omega)
  have hge:=grownCap_ge w n 0 63
  have hle:=grownCap_le_maxLen w n 0 63 (by unfold maxLen;omega)
  have hown:(w.drew.alloc (.cells (Builtin.zeroCells (Value.agg #[.string ⟨#[]⟩,.string ⟨#[]⟩,.int .i64 0,.int .i64 0,.string ⟨#[]⟩,.string ⟨#[]⟩,.string ⟨#[]⟩]).cells n++Builtin.zeroCells (Value.agg #[.string ⟨#[]⟩,.string ⟨#[]⟩,.int .i64 0,.int .i64 0,.string ⟨#[]⟩,.string ⟨#[]⟩,.string ⟨#[]⟩]).cells (grownCap w n 0 63-n)) 63)).ownsRow w.heap.size 63 7 (.slice (some ⟨w.heap.size,0,none⟩) 0 (grownCap w n 0 63)) 0 [] :=
   World.ownsRow_made w.drew _ _ (Aad _) hle (by simp[size_zeroCells,Value.cells];omega)
  have HOWN:=hI hown
  have HB:Hid (Below w.heap.size w (w.drew.alloc (.cells (Builtin.zeroCells (Value.agg #[.string ⟨#[]⟩,.string ⟨#[]⟩,.int .i64 0,.int .i64 0,.string ⟨#[]⟩,.string ⟨#[]⟩,.string ⟨#[]⟩]).cells n++Builtin.zeroCells (Value.agg #[.string ⟨#[]⟩,.string ⟨#[]⟩,.int .i64 0,.int .i64 0,.string ⟨#[]⟩,.string ⟨#[]⟩,.string ⟨#[]⟩]).cells (grownCap w n 0 63-n)) 63))):=(Below.refl _ w).drew.alloc (Aad _) _
  clear hown
  generalize (w.drew.alloc (.cells (Builtin.zeroCells (Value.agg #[.string ⟨#[]⟩,.string ⟨#[]⟩,.int .i64 0,.int .i64 0,.string ⟨#[]⟩,.string ⟨#[]⟩,.string ⟨#[]⟩]).cells n++Builtin.zeroCells (Value.agg #[.string ⟨#[]⟩,.string ⟨#[]⟩,.int .i64 0,.int .i64 0,.string ⟨#[]⟩,.string ⟨#[]⟩,.string ⟨#[]⟩]).cells (grownCap w n 0 63-n)) 63))=W1 at hrun HOWN HB
  generalize grownCap w n 0 63=cp at hrun HOWN hge
  have HRUN:=hI hrun
  clear hrun hi0 hz0 hz1 hz2 hle
  go_enter Tryz.func92,Tryz.ntmps92
  go_wp2_with (at_builtin;refine Lib.wpList_append_run _ rfl _ _ _ _ rfl _ _ rfl rfl _ _ HRUN.out ?_)
  go_ret
  exact⟨⟨_,_,rfl,HOWN.out⟩,HB.out⟩
theorem Au4{w w':World}{base B n:Nat}{v:Value}{xs:List Value}{o:Obj}(hg:w.grownBy w' v.ownBlock)(hown:w.ownsRow base 63 7 v n xs)(hB:w.heap[B]?=some o)(hlt:B<base):w'.heap[B]?=some o :=
 (hg.block B (Aab.1 hB).1 (fun e=>by have:=hown.lt _ e.symm;omega)).trans hB
theorem Au5{w w':World}{base n m:Nat}{v:Value}{xs:List Value}{a:Addr}{ls:List SLot}(hg:w.grownBy w' v.ownBlock)(hown:w.ownsRow base 63 7 v n xs)(h:RdB m w (some a) ls)(hm:m≤base)(hb:base≤w.heap.size):RdB m w' (some a) ls :=
 h.below (((Below.refl base w).grown hg hb (fun k hk=>(hown.lt k hk).1)).mono hm)
theorem Au6(B n:Nat)(a1:Addr)(l1:List SLot)(c1:Nat)(a2:Addr)(l2:List SLot)(c2 c:Nat)(w:World)(hB:w.heap[B]?=some (.cells #[.slice (some a1) l1.length c1,.slice (some a2) l2.length c2] 45 (0,0)))
 (h1:RdB n w (some a1) l1) (h2:RdB n w (some a2) l2) (hn:n≤w.heap.size) (s1:l1.length≤40000) (s2:l2.length≤40000) :
 Calls Tryz.prog 36 #[.slice (some ⟨B,0,none⟩) 2 c] w fun e w'=>∃v,e=.returned v∧w'.ownsRow w.heap.size 63 7 v (l1++l2).length (flatL (l1++l2))∧Below w.heap.size w w':=by
 obtain⟨i0,hi0,hz0,hz1,hz2⟩:=info_parts Tryz.infoLot
 have HI:=hI (And.intro hi0 (And.intro hz0 (And.intro hz1 hz2)))
 obtain⟨n1,hn1⟩:∃n,l1.length=n:=⟨_,rfl⟩
 obtain⟨n2,hn2⟩:∃n,l2.length=n:=⟨_,rfl⟩
 rw[hn1] at s1 hB
 rw[hn2] at s2 hB
 have hl:=Au0 l1
 have hm:=Au0 l2
 rw[hn1] at hl
 rw[hn2] at hm
 have HL:=hI (And.intro hl hm)
 have HN:=hI (And.intro hn1 hn2)
 have hg:=Au3 (n1+n2) (by omega) w
 rw[Int.natCast_add] at hg
 have HG:=hI hg
 have HB:=hI hB
 have H1:=hI h1
 have H2:=hI h2
 have HNW:=hI hn
 have c0:=Aaa hB 0
 have c1':=Aaa hB 1
 simp at c0 c1'
 have t1:decide ((n1:Int)<0)=false:=Aaw (by omega)
 have t2:decide ((n1:Int)+(n2:Int)<0)=false:=Aaw (by omega)
 clear hi0 hz0 hz1 hz2 hl hm hn1 hn2 hg hB h1 h2 hn
 go_enter Tryz.func36,Tryz.ntmps36
 go_wp2_with fail
 refine wp_loop_rounds 3 ?_
 rw[rounds_succ]
 go_wp2_with fail
 rw[rounds_succ]
 go_wp2_with fail
 rw[rounds_succ]
 go_wp2_with fail
 refine HG.out.mono ?_
 rintro e w1 ⟨⟨A,cc,rfl,hown⟩,b1⟩
 have HO1:=hI hown
 have HB1:=hI b1
 have hBlt:B<w.heap.size:=(Aab.1 HB.out).1
 have hB1:=(b1.block B hBlt).trans HB.out
 have d0:=Aaa hB1 0
 have d1:=Aaa hB1 1
 simp at d0 d1
 have HBB:=hI hB1
 have HLT:=hI hBlt
 clear hown b1 hB1 hBlt c0 c1' HG t1 t2
 obtain⟨hi0,hz0,hz1,hz2⟩:=HI.out
 have hl:=HL.out.1
 have hm:=HL.out.2
 have H11:=hI (H1.out.below (HB1.out.mono HNW.out))
 have H21:=hI (H2.out.below (HB1.out.mono HNW.out))
 go_wp2_with fail
 refine wp_loop_rounds 3 ?_
 rw[rounds_succ]
 go_wp2_with (at_builtin;refine wpList_append_own _ rfl _ _ 45 rfl w.heap.size 63 i0 (.agg #[.string ⟨#[]⟩,.string ⟨#[]⟩,.int .i64 0,.int .i64 0,.string ⟨#[]⟩,.string ⟨#[]⟩,.string ⟨#[]⟩]) 7 96 Tryz.underlying45 hi0 hz0 hz1 hz2 rfl (by decide) _ _ _ rfl HO1.out a1 n1 c1 (flatL l1) rfl hl (H11.out.flat) (Au1 _) (by unfold maxLen;omega) (by omega) HB1.out.size ?_;intro v2 w2 hown2 hgrow2 _;have HO2:=hI hown2;have HG2:=hI hgrow2;clear hown2 hgrow2)
 have hB2:=Au4 HG2.out HO1.out HBB.out HLT.out
 have e0:=Aaa hB2 0
 have e1:=Aaa hB2 1
 simp at e0 e1
 have HB2:=hI (HB1.out.grown HG2.out HB1.out.size (fun k hk=>(HO1.out.lt k hk).1))
 have H22:=hI (Au5 HG2.out HO1.out H21.out HNW.out HB1.out.size)
 have HBB2:=hI hB2
 clear hB2 d0 d1
 rw[rounds_succ]
 go_wp2_with (at_builtin;refine wpList_append_own _ rfl _ _ 45 rfl w.heap.size 63 i0 (.agg #[.string ⟨#[]⟩,.string ⟨#[]⟩,.int .i64 0,.int .i64 0,.string ⟨#[]⟩,.string ⟨#[]⟩,.string ⟨#[]⟩]) 7 96 Tryz.underlying45 hi0 hz0 hz1 hz2 rfl (by decide) _ _ _ rfl HO2.out a2 n2 c2 (flatL l2) rfl hm (H22.out.flat) (Au1 _) (by unfold maxLen;omega) (by omega) HB2.out.size ?_;intro v3 w3 hown3 hgrow3 _;have HO3:=hI hown3;have HG3:=hI hgrow3;clear hown3 hgrow3)
 have HB3:=hI (HB2.out.grown HG3.out HB2.out.size (fun k hk=>(HO2.out.lt k hk).1))
 clear e0 e1
 have hrow:=HO3.out
 rw[Nat.zero_add,List.nil_append,←Au2,show n1+n2=(l1++l2).length from by rw[Aan,HN.out.1,HN.out.2]] at hrow
 have HF:=hI (And.intro hrow HB3.out)
 clear hrow
 rw[rounds_succ]
 go_wp2_with fail
 go_ret
 exact⟨_,rfl,HF.out.1,HF.out.2⟩
end Go.Proofs.YtcnmoobojdopgaaGreatDoor
