/-
  The example of the chapter on revaluation, plainly.
-/
import Derived.Test.YtbkmhmaldljgmaaGreatDoorC39
import Derived.Test.YtbkmhmaldljgmaaGreatDoorC41
import Derived.Test.YtbkmhmaldljgmaaGreatDoorC22
import Derived.Test.YtbkmhmaldljgmaaGreatDoorC19
import Derived.Test.YtbkmhmaldljgmaaGreatDoorC26
set_option linter.unusedVariables false
set_option linter.unusedSimpArgs false
set_option maxHeartbeats 16000000
set_option maxRecDepth 100000
namespace Go.Proofs.YtbkmhmaldljgmaaGreatDoor
open Go.RowKit Tr Go.Shelf
def i40 : Inst := ⟨⟨#[97, 98, 99]⟩, 1, ⟨#[69, 85, 82]⟩, 0, 1, 0, ⟨#[]⟩, ⟨#[]⟩, ⟨#[]⟩, ⟨#[]⟩, 0, 0, ⟨#[]⟩, ⟨#[]⟩, ⟨#[]⟩⟩
def la40 : Lot := ⟨⟨#[97, 47, 49]⟩, ⟨#[97, 98, 99]⟩, 5, 5, ⟨#[49, 48]⟩, ⟨#[49, 48, 48]⟩, ⟨#[]⟩⟩
def lb40 : Lot := ⟨⟨#[98, 47, 49]⟩, ⟨#[97, 98, 99]⟩, 6, 6, ⟨#[53]⟩, ⟨#[56, 48]⟩, ⟨#[]⟩⟩
def x40 : Fact := ⟨⟨#[112]⟩, 0, false, 8, 15, ⟨#[97, 98, 99]⟩, ⟨#[]⟩, ⟨#[]⟩, ⟨#[]⟩, ⟨#[]⟩, ⟨#[]⟩, ⟨#[]⟩, ⟨#[50, 53]⟩, ⟨#[50]⟩, ⟨#[]⟩, ⟨#[]⟩, ⟨#[]⟩, ⟨#[]⟩, [], [], 0⟩
def y40 : VF := ⟨x40, .slice none 0 0, .slice none 0 0⟩
theorem i40_small : i40.small := ⟨by decide, by decide, by decide, by decide, by decide, by decide, by decide, by decide, by decide⟩
theorem i40_ok : i40.ok where
 id := by decide
 kind := by decide
 cur := by decide
 places := by decide
 issued := by unfold okDay; decide
 matures := .inl ⟨rfl, by decide, by decide⟩
 n1 := numchk_int (by unfold Can; decide) (by decide)
 n2 := numchk_int (by unfold Can; decide) (by decide)
 n3 := numchk_int (by unfold Can; decide) (by decide)
 plain := fun _ _ => by unfold plainOk; decide
 bond := fun h => absurd h (by decide)
 fwd := fun h => absurd h (by decide)
theorem la40_tiny : la40.tiny := ⟨by decide, by decide, by decide, by decide, by decide⟩
theorem lb40_tiny : lb40.tiny := ⟨by decide, by decide, by decide, by decide, by decide⟩
theorem la40_ok : la40.ok where
 id := by kernel_rfl
 inst := by decide
 acq := by unfold okDay; decide
 opn := by unfold okDay; decide
 ord := by decide
 cq := by unfold Can; decide
 cc := by unfold Can; decide
 cu := by unfold Can; decide
 pq := by decide
 pc := by decide
 us := .inl rfl
theorem lb40_ok : lb40.ok where
 id := by kernel_rfl
 inst := by decide
 acq := by unfold okDay; decide
 opn := by unfold okDay; decide
 ord := by decide
 cq := by unfold Can; decide
 cc := by unfold Can; decide
 cu := by unfold Can; decide
 pq := by decide
 pc := by decide
 us := .inl rfl
def s40 : List SLot := [⟨la40, la40_tiny.sized⟩, ⟨lb40, lb40_tiny.sized⟩]
def l40 : List Lot := [la40, lb40]
theorem s40_l40 : s40.map Subtype.val = l40 := rfl
theorem l40_all : AllOk l40 := by
 refine ⟨by decide, fun l hl => ?_, ?_⟩
 ·unfold l40 at hl
  simp at hl
  rcases hl with rfl | rfl
  ·exact lchk_zero.2 la40_ok
  ·exact lchk_zero.2 lb40_ok
 ·show List.Nodup [la40.id, lb40.id]
  simp [la40, lb40]
theorem l40_lall : lall l40 = 0 := (lall_zero l40).2 l40_all
theorem own40 : ownL s40 i40.id = s40 := by
 unfold ownL s40
 simp [la40, lb40, i40]
theorem q40 : qtysOf s40 = [10, 5] := by unfold qtysOf s40 qtyOf la40 lb40; kernel_rfl
theorem c40 : costsOf s40 = [100, 80] := by unfold costsOf s40 costOf la40 lb40; kernel_rfl
theorem sq40 : sumBy qtyOf s40 = 15 := by kernel_rfl
theorem sc40 : sumBy costOf s40 = 180 := by kernel_rfl
theorem I15 : I 15 = ⟨#[49, 53]⟩ := by decide
theorem I25z : I 25 = ⟨#[50, 53]⟩ := by decide
theorem Im17 : I (-17) = ⟨#[45, 49, 55]⟩ := by decide
theorem v15 : vl ⟨#[49, 53]⟩ = 15 := by decide
theorem fv252 : fv ⟨#[50, 53]⟩ ⟨#[50]⟩ = 25 / 2 := by kernel_rfl
theorem val40 : rnd (valQ ⟨#[50, 53]⟩ ⟨#[50]⟩ ⟨#[49, 53]⟩) = 188 := by
 unfold valQ
 rw [fv252, v15]
 kernel_rfl
theorem sp40 : spL 188 [10, 5] = [125, 63] := by kernel_rfl
theorem gain40 : gainsL 188 s40 = [25, -17] := by
 unfold gainsL
 rw [q40, c40, sp40]
 rfl
theorem wok40 : WOk [10, 5] 3 := ⟨by omega, by decide, by intro z hz; simp at hz; omega, by intro z hz; simp at hz; omega, by decide⟩
theorem x40_tiny : x40.tiny where
 key := by decide
 inst := by decide
 other := by decide
 cur := by decide
 target := by decide
 qty := by decide
 amt := by decide
 fee := by decide
 pn := by decide
 pd := by decide
 rn := by decide
 rd := by decide
 sn := by decide
 sd := by decide
 np := .inl (Nat.zero_le _)
 no := .inl (Nat.zero_le _)
 picks := fun p h => by cases h
 opts := fun p h => by cases h
theorem can252 : CanQ ⟨#[50, 53]⟩ ⟨#[50]⟩ := by unfold CanQ; rw [fv252]; exact ⟨by kernel_rfl, by kernel_rfl⟩
theorem x40_ok : FOk x40 := by
 refine ⟨by decide, by decide, ?_⟩
 rw [if_neg (by decide)]
 refine ⟨by unfold okDay; decide, by decide, fun f hf => ?_⟩
 have hk : x40.kind.toNat = 15 := rfl
 rw [hk, show kfs 15 = [0, 7] from rfl]
 rcases (show f = 0 ∨ f = 1 ∨ f = 2 ∨ f = 3 ∨ f = 4 ∨ f = 5 ∨ f = 6 ∨ f = 7 ∨ f = 8 ∨ f = 9 ∨ f = 10 ∨ f = 11 ∨ f = 12 from by omega) with rfl | rfl | rfl | rfl | rfl | rfl | rfl | rfl | rfl | rfl | rfl | rfl | rfl
 ·rw [if_pos (by decide)]; show nameOk x40.inst = true; decide
 ·rw [if_neg (by decide)]; rfl
 ·rw [if_neg (by decide)]; rfl
 ·rw [if_neg (by decide)]; rfl
 ·rw [if_neg (by decide)]; rfl
 ·rw [if_neg (by decide)]; rfl
 ·rw [if_neg (by decide)]; rfl
 ·rw [if_pos (by decide)]
  show numOk ⟨#[50, 53]⟩ ⟨#[50]⟩ false false
  exact ⟨can252, by decide, by decide, by rw [fv252]; exact of_decide_eq_true (by kernel_rfl), fun h => (by cases h), fun h => (by cases h)⟩
 ·rw [if_neg (by decide)]; rfl
 ·rw [if_neg (by decide)]; rfl
 ·rw [if_neg (by decide)]; rfl
 ·rw [if_neg (by decide)]; rfl
 ·rw [if_neg (by decide)]; rfl
theorem vok40 : VOk (fun _ _ => True) [y40] := by
 refine ⟨by decide, fun k y hy => ?_⟩
 match k, hy with
 | 0, hy =>
   simp at hy
   subst hy
   exact ⟨x40_ok, rfl, rfl, fun z hz => by simp at hz, fun j z h _ => by omega⟩
theorem quo40 : lastQ 9 (quotesL i40.id [y40]) = some ⟨8, ⟨#[50, 53]⟩, ⟨#[50]⟩⟩ := by
 have hz : qst i40.id [y40] = ⟨[], true, qOf y40⟩ := by
  show qstep i40.id ⟨[], false, qzero⟩ y40 = _
  unfold qstep
  rw [if_pos (show qIs i40.id y40 from ⟨rfl, rfl⟩), if_neg (fun h => Bool.false_ne_true h.1)]
 have h : quotesL i40.id [y40] = [qOf y40] := by
  unfold quotesL
  rw [hz]
  rfl
 rw [h]
 rfl
theorem ex40 (l : Lot) (d : Int) : exactQ i40 l d = 0 := by unfold exactQ; rw [if_pos (.inl (by decide))]
theorem l40_lots : LotsOk l40 := by
 refine ⟨by decide, fun l hl => ?_, l40_all.nd⟩
 unfold l40 at hl
 simp at hl
 rcases hl with rfl | rfl
 ·exact ⟨la40_tiny.sized, la40_ok⟩
 ·exact ⟨lb40_tiny.sized, lb40_ok⟩
theorem bz40 : (I (rnd (qsum ((ownL s40 i40.id).map fun l => exactQ i40 l.1 9)))).size ≤ 4000000 := by
 have h : (s40.map fun l => exactQ i40 l.1 9) = [0, 0] := by unfold s40; simp [ex40]
 rw [own40, h]
 have e : I (rnd (qsum [0, 0])) = ⟨#[]⟩ := by kernel_rfl
 rw [e]
 exact Nat.zero_le _
theorem book40 : I (sumBy costOf (ownL s40 i40.id) + rnd (qsum ((ownL s40 i40.id).map fun l => exactQ i40 l.1 9))) = ⟨#[49, 56, 48]⟩ := by
 rw [own40, sc40]
 have h : (s40.map fun l => exactQ i40 l.1 9) = [0, 0] := by unfold s40; simp [ex40]
 rw [h]
 have e : I (180 + rnd (qsum [0, 0])) = ⟨#[49, 56, 48]⟩ := by kernel_rfl
 exact e
end Go.Proofs.YtbkmhmaldljgmaaGreatDoor
