/-
  The walk of integer.digits.
-/
import Derived.Test.YtcmgmemffncbhabGreatDoorT03
import Derived.Test.YtcmgmemffncbhabGreatDoorT04
import Derived.Shelf.Strings.SlTrimAscii
set_option linter.unusedVariables false
set_option linter.unusedSimpArgs false
set_option maxHeartbeats 16000000
set_option maxRecDepth 100000
namespace Go.Proofs.YtcmgmemffncbhabGreatDoor
open Go.RowKit Tr Go.Shelf
def dset:ByteArray:=⟨#[48,49,50,51,52,53,54,55,56,57]⟩
theorem dset_contains(c:UInt8):dset.data.toList.contains c=Ab1 c:=by
 rw[Bool.eq_iff_iff,Ab6]
 simp only[dset,List.contains_iff_mem]
 constructor
 ·intro h
  simp at h
  rcases h with h|h|h|h|h|h|h|h|h|h<;>subst h<;>decide
 ·intro h
  have:c=48∨c=49∨c=50∨c=51∨c=52∨c=53∨c=54∨c=55∨c=56∨c=57:=by
   have e:∀(n:Nat) (m:UInt8),m.toNat=n→c.toNat=n→c=m:=fun n m h1 h2=>UInt8.toNat_inj.1 (by omega)
   have h':c.toNat=48∨c.toNat=49∨c.toNat=50∨c.toNat=51∨c.toNat=52∨c.toNat=53∨c.toNat=54∨c.toNat=55∨c.toNat=56∨c.toNat=57:=by omega
   rcases h' with h|h|h|h|h|h|h|h|h|h
   ·exact .inl (e 48 _ rfl h)
   ·exact .inr (.inl (e 49 _ rfl h))
   ·exact .inr (.inr (.inl (e 50 _ rfl h)))
   ·exact .inr (.inr (.inr (.inl (e 51 _ rfl h))))
   ·exact .inr (.inr (.inr (.inr (.inl (e 52 _ rfl h)))))
   ·exact .inr (.inr (.inr (.inr (.inr (.inl (e 53 _ rfl h))))))
   ·exact .inr (.inr (.inr (.inr (.inr (.inr (.inl (e 54 _ rfl h)))))))
   ·exact .inr (.inr (.inr (.inr (.inr (.inr (.inr (.inl (e 55 _ rfl h))))))))
   ·exact .inr (.inr (.inr (.inr (.inr (.inr (.inr (.inr (.inl (e 56 _ rfl h)))))))))
   ·exact .inr (.inr (.inr (.inr (.inr (.inr (.inr (.inr (.inr (e 57 _ rfl h)))))))))
  simpa using this
theorem dropWhile_nil{p:UInt8→Bool}{l:List UInt8}:l.dropWhile p=[]↔l.all p=true:=by
 induction l with
 | nil=>simp
 | cons c l ih=>rw[List.dropWhile_cons];by_cases h:p c=true<;>simp[h,ih]
theorem trimS_nil(l:List UInt8):Lib.trimS l dset.data.toList=[]↔l.all Ab1=true:=by
 have e:(fun c=>dset.data.toList.contains c)=Ab1:=funext dset_contains
 unfold Lib.trimS Lib.trimLeftS Lib.trimRightS
 rw[dropWhile_nil,e]
 constructor
 ·intro h
  have h2:((l.reverse.dropWhile Ab1).reverse).all Ab1=true:=h
  rw[List.all_reverse] at h2
  have h3:l.reverse.dropWhile Ab1=[]:=by
   rcases hd:l.reverse.dropWhile Ab1 with _|⟨c,t⟩
   ·rfl
   ·exfalso
    have h4:=List.head_dropWhile_not (p:=Ab1) (l:=l.reverse) (by rw[hd];simp)
    rw[hd] at h2
    simp only[hd] at h4
    simp at h2 h4
    rw[h4] at h2;simp at h2
  rw[dropWhile_nil,List.all_reverse] at h3
  exact h3
 ·intro h
  rw[List.all_reverse]
  have h3:l.reverse.dropWhile Ab1=[]:=by rw[dropWhile_nil,List.all_reverse];exact h
  rw[h3];rfl
theorem trimPrefix_minus(s:List UInt8):Lib.trimPrefix s [45]=(signOf s).2∧Lib.hasPrefix s [45]=(signOf s).1:=by
 unfold Lib.trimPrefix Lib.hasPrefix
 cases s with
 | nil=>simp[signOf]
 | cons c t =>
   by_cases h:c=45
   ·subst h;simp[signOf]
   ·have h':((45:UInt8)==c)=false:=by simp;exact fun e=>h e.symm
    simp[signOf,h,List.isPrefixOf,h']
theorem trim_laid(s:ByteArray)(w:World)(hs:s.size≤9223372036854775807):
 Calls Tryz.prog 137 #[.string s,.string ⟨#[48,49,50,51,52,53,54,55,56,57]⟩] w fun e w'=>e=.returned (.string ⟨(Lib.trimS s.data.toList dset.data.toList).toArray⟩)∧Below w.heap.size w w' :=
 Any.strings_Trim_laid Tryz.lays160 (by kernel_rfl) s dset w hs (by decide) (ascii_of_all (by decide))
theorem digits_any(a:ByteArray)(w:World)(hs:a.size≤1099511627776):
 Calls Tryz.prog 100 #[.string a] w fun e w'=>e=.returned (.tuple #[.string (bs (digits (vl a).natAbs)),.bool (decide (vl a<0))])∧Below w.heap.size w w':=by
 go_enter Tryz.func100,Tryz.ntmps100
 go_wp2_with fail
 refine (Tryz.strings_CutPrefix a ⟨#[45]⟩ _).mono ?_
 rintro e w' ⟨rfl,rfl⟩
 have hp:=trimPrefix_minus a.data.toList
 rw[show (⟨#[45]⟩:ByteArray).data.toList=[45] from rfl,hp.1,hp.2]
 clear hp
 have hv:vl a=if (signOf a.data.toList).2.all Ab1 then (if (signOf a.data.toList).1 then -(dval (signOf a.data.toList).2:Int) else (dval (signOf a.data.toList).2:Int)) else 0:=rfl
 have hsz:(signOf a.data.toList).2.length≤a.data.toList.length:=by
  cases a.data.toList with
  | nil=>simp[signOf]
  | cons c t=>simp only[signOf];split<;>simp
 rw[show a.data.toList.length=a.size from rfl] at hsz
 generalize (signOf a.data.toList).1=neg at hv ⊢
 generalize (signOf a.data.toList).2=t at hv hsz ⊢
 have HV:=Aac hv
 clear hv
 go_wp2_with fail
 refine (trim_laid ⟨t.toArray⟩ _ (by simp[ByteArray.size];omega)).mono ?_
 rintro e w1 ⟨rfl,hb1⟩
 rw[show (⟨t.toArray⟩:ByteArray).data.toList=t from rfl]
 by_cases ht:t.all Ab1=true
 ·rw[(trimS_nil t).2 ht]
  have HB1:=Aac hb1
  have HT:=Aac ht
  clear hb1 ht
  go_wp2_with fail
  refine (Tryz.strings_TrimLeft_one ⟨t.toArray⟩ 48 (by decide) _).mono ?_
  rintro e w2 ⟨rfl,rfl⟩
  rw[show Lib.trimLeftB (⟨t.toArray⟩:ByteArray).data.toList 48=strip t from rfl]
  have hd:=Ach t HT.out
  have hv:=HV.out
  rw[if_pos HT.out] at hv
  have hn:(vl a).natAbs=dval t:=by rw[hv];split<;>omega
  have HN:Hid (digits (vl a).natAbs=strip t):=by rw[Hid,hn,hd.1]
  by_cases hz:strip t=[]
  ·have h0:=hd.2.2 hz
   have HL:Hid (decide (vl a<0)=false):=by
    rw[Hid,hv,h0];cases neg<;>rfl
   rw[hz]
   rw[Hid,hz] at HN
   have HN':=Aac HN
   clear HN hn hv hd h0 hz HV
   cases neg
   all_goals
    go_wp2_with fail
    go_ret2
    rw[HN'.out,HL.out]
    exact⟨rfl,HB1.out⟩
  ·have h0:dval t≠0:=fun e=>hz (hd.2.1 e)
   have HL:Hid (decide (vl a<0)=neg):=by
    rw[Hid,hv];cases neg<;>simp<;>omega
   obtain⟨c,u,hu⟩:=List.exists_cons_of_ne_nil hz
   rw[hu]
   have HU:=Aac hu
   clear hn hv hd h0 hz HV hu
   cases neg
   all_goals
    go_wp2_with fail
    go_ret2
    rw[HN.out,HL.out,HU.out]
    exact⟨rfl,HB1.out⟩
 ·have hv:=HV.out
  rw[if_neg ht] at hv
  have hz:Lib.trimS t dset.data.toList≠[]:=fun e=>ht ((trimS_nil t).1 e)
  obtain⟨c,u,hu⟩:=List.exists_cons_of_ne_nil hz
  rw[hu]
  have HV':=Aac hv
  have HB1:=Aac hb1
  clear hb1 hv hz hu ht HV
  go_wp2_with fail
  go_ret2
  rw[HV'.out]
  exact⟨rfl,HB1.out⟩
end Go.Proofs.YtcmgmemffncbhabGreatDoor
