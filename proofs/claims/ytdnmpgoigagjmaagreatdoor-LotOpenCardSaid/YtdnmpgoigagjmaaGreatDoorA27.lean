/-
  trancheref10.Check returns 0 exactly for valid instruments. (Printed by gen_ref17.py.)
  The walks of trancheref02.Long over the numbers of an instrument, trancheref11.Great.
  The walks of trancheref19.number, Id (their yes: the id of a lot).
-/
import Derived.Test.YtdnmpgoigagjmaaGreatDoorA24
import Derived.Test.YtdnmpgoigagjmaaGreatDoorA25
import Derived.Test.YtdnmpgoigagjmaaGreatDoorA26
import Derived.Test.YtdnmpgoigagjmaaGreatDoorA23
set_option linter.unusedVariables false
set_option linter.unusedSimpArgs false
namespace Go.Proofs.YtdnmpgoigagjmaaGreatDoor
open Go.RowKit Tr Go.Shelf
end Go.Proofs.YtdnmpgoigagjmaaGreatDoor
namespace Go.Proofs.YtdnmpgoigagjmaaGreatDoor
open Go.RowKit Tr Go.Shelf
def nums13 (i : Inst) : Prop := i.fn.size ≤ 13 ∧ i.fd.size ≤ 13 ∧ i.cn.size ≤ 13 ∧ i.cd.size ≤ 13 ∧ i.sn.size ≤ 13 ∧ i.sd.size ≤ 13
def LongPost (w : World) (P : Prop) (e : Ending) (w' : World) : Prop := ∃ g : Bool, e = .returned (.bool g) ∧ w = w' ∧ (g = false → P)
def GreatPost (w : World) (P : Prop) (e : Ending) (w' : World) : Prop := ∃ g : Bool, e = .returned (.bool g) ∧ (g = false → P) ∧ Below w.heap.size w w'
end Go.Proofs.YtdnmpgoigagjmaaGreatDoor
namespace Go.Proofs.YtdnmpgoigagjmaaGreatDoor
open Go.RowKit Tr Go.Shelf
theorem decFrom_digits : ∀ (l : List UInt8) (acc : Nat), l.all isDigit = true → Lib.decFrom acc l = some (l.foldl (fun n c => 10 * n + (c.toNat - 48)) acc)
 | [], acc, _ => rfl
 | b :: r, acc, h => by
   rw [List.all_cons, Bool.and_eq_true] at h
   have hb := (isDigit_iff b).1 h.1
   unfold Lib.decFrom Lib.digitVal
   rw [if_pos hb]
   show Lib.decFrom (acc * 10 + (b.toNat - 48)) r = _
   rw [decFrom_digits r _ h.2, List.foldl_cons, Nat.mul_comm]
theorem numB_of {t : List UInt8} (h1 : 1 ≤ t.length) (h4 : t.length ≤ 4) (hd : t.all isDigit = true) (h0 : t.getD 0 0 ≠ 48) : numB t = true := by
 obtain ⟨b, r, rfl⟩ : ∃ b r, t = b :: r := by cases t with | nil => simp at h1 | cons b r => exact ⟨b, r, rfl⟩
 have hb48 : b ≠ 48 := by simpa using h0
 have hbd : isDigit b = true := by rw [List.all_cons, Bool.and_eq_true] at hd; exact hd.1
 have hb := (isDigit_iff b).1 hbd
 have hs : strip (b :: r) = b :: r := by unfold strip; rw [List.dropWhile_cons, if_neg (by simpa using hb48)]
 obtain ⟨g1, g2⟩ := digits_dval (b :: r) hd
 rw [hs] at g1 g2
 have hpos : 0 < dval (b :: r) := Nat.pos_of_ne_zero (fun e => by have := g2.1 e; cases this)
 have hlt := dval_lt (b :: r) hd
 have hlt4 : dval (b :: r) < 10 ^ 4 := Nat.lt_of_lt_of_le hlt (pow_mono h4)
 have ha : Lib.atoi (b :: r) = some ((dval (b :: r) : Nat) : Int) := by
  have n45 : (b == 45) = false := by rw [beq_eq_false_iff_ne]; rintro rfl; simp at hb
  have n43 : (b == 43) = false := by rw [beq_eq_false_iff_ne]; rintro rfl; simp at hb
  unfold Lib.atoi
  dsimp only
  rw [n45, n43]
  show Option.map (fun (m : Nat) => (m : Int)) (Lib.decNat (b :: r)) = _
  unfold Lib.decNat
  rw [if_neg (by simp), decFrom_digits _ _ hd]
  rfl
 have hi : Lib.itoa ((dval (b :: r) : Nat) : Int) = b :: r := by
  unfold Lib.itoa
  rw [if_neg (by omega), Int.toNat_natCast]
  have := dec_pos hpos
  unfold dec at this
  rw [this, g1]
 unfold numB
 rw [ha]
 dsimp only
 rw [hi]
 simp only [Bool.and_eq_true, decide_eq_true_eq, beq_self_eq_true, and_true]
 exact ⟨h4, by omega, by omega⟩
theorem index_slash : ∀ (l : List UInt8) (i : Nat), l[i]? = some 47 → (∀ j, j < i → l[j]? ≠ some 47) → Lib.index l [47] = (i : Int)
 | [], i, h, _ => by simp at h
 | b :: r, 0, h, _ => by
   simp at h
   subst h
   unfold Lib.index
   rw [if_pos (by simp)]
   rfl
 | b :: r, i + 1, h, hn => by
   have hb : b ≠ 47 := fun e => hn 0 (by omega) (by simp [e])
   have hr := index_slash r i (by simpa using h) (fun j hj => by have := hn (j + 1) (by omega); simpa using this)
   unfold Lib.index
   rw [if_neg (by simpa using fun e => hb e.symm), hr, if_neg (by simp)]
   push_cast
   rfl
theorem idB_of {s : ByteArray} {i : Nat} (hi : i < s.size) (h47 : byt s i = 47) (hn : ∀ j, j < i → byt s j ≠ 47) (hnm : nameOk (s.extract 0 i) = true) (hnum : numB (s.extract (i + 1) s.size).data.toList = true) : idB s = true := by
 have hl : s.data.toList.length = s.size := (Lib.size_eq s).symm
 have hx : Lib.indexB s ⟨#[47]⟩ = (i : Int) := by
  refine index_slash _ i ?_ ?_
  ·have : s.data.toList.getD i 0 = 47 := h47
   rw [List.getD_eq_getElem?_getD, List.getElem?_eq_getElem (by omega), Option.getD_some] at this
   rw [List.getElem?_eq_getElem (by omega), this]
  ·intro j hj e
   refine hn j hj ?_
   unfold byt
   rw [List.getD_eq_getElem?_getD, e]
   rfl
 obtain ⟨c1, c2, _⟩ := Lib.cutB_hit s ⟨#[47]⟩ i hx
 rw [show (⟨#[47]⟩ : ByteArray).data.toList = [47] from rfl] at c1 c2
 rw [show (⟨#[47]⟩ : ByteArray).size = 1 from rfl] at c2
 unfold idB
 rw [Bool.and_eq_true]
 constructor
 ·rw [← c2] at hnum
  simpa using hnum
 ·show nameOk (bs _) = true
  unfold bs
  rw [c1]
  exact hnm
def YesPost (w : World) (P : Prop) (e : Ending) (w' : World) : Prop := ∃ g : Bool, e = .returned (.bool g) ∧ w = w' ∧ (g = true → P)
set_option maxHeartbeats 4000000 in
set_option maxRecDepth 100000 in
theorem rnumber_any (s : ByteArray) (hs : s.size ≤ 1000) (w : World) : Calls Tryz.prog 156 #[.string s] w (YesPost w (numB s.data.toList = true)) := by
 by_cases h1 : s.size < 1
 ·have t1 : decide ((s.size : Int) < 1) = true := decide_eq_true (by omega)
  go_enter Tryz.func156, Tryz.ntmps156
  go_wp2_with fail
  go_ret
  exact ⟨false, rfl, rfl, fun h => (by cases h)⟩
 have t1 : decide ((s.size : Int) < 1) = false := decide_eq_false (by omega)
 by_cases h4 : 4 < s.size
 ·have t2 : decide ((4 : Int) < (s.size : Int)) = true := decide_eq_true (by omega)
  go_enter Tryz.func156, Tryz.ntmps156
  go_wp2_with fail
  go_ret
  exact ⟨false, rfl, rfl, fun h => (by cases h)⟩
 have t2 : decide ((4 : Int) < (s.size : Int)) = false := decide_eq_false (by omega)
 have hg0 : (s[0]'(by omega)).toNat = (byt s 0).toNat := by rw [byt_get]
 by_cases h0 : byt s 0 = 48
 ·have hz : (byt s 0).toNat = 48 := by rw [h0]; rfl
  rw [hz] at hg0
  have t3 : (((s[0]'(by omega)).toNat : Int) == 48) = true := by rw [hg0]; rfl
  go_enter Tryz.func156, Tryz.ntmps156
  go_wp2_with fail
  go_ret
  exact ⟨false, rfl, rfl, fun h => (by cases h)⟩
 have hz : (byt s 0).toNat ≠ 48 := fun e => h0 (UInt8.toNat_inj.1 (by simpa using e))
 have t3 : (((s[0]'(by omega)).toNat : Int) == 48) = false := by rw [beq_eq_false_iff_ne, hg0]; omega
 have H0 := Lib.hid h0
 clear h0 hz hg0
 go_enter Tryz.func156, Tryz.ntmps156
 go_wp2_with fail
 go_loop [3] (fun v => ∃ j : Nat, v = .int .i64 (j : Int) ∧ j ≤ s.size ∧ (s.data.toList.take j).all isDigit = true) (fun v => s.size - (intOf v).toNat)
 case atStart => exact ⟨0, rfl, by omega, rfl⟩
 case round =>
  clear t3
  obtain ⟨j, rfl, hj, hall⟩ := hrel
  have HA := Lib.hid hall
  clear hall
  rcases Nat.lt_or_ge j s.size with hlt | hge
  ·have hb := (byt s j).toNat_lt
   have hg : s[j].toNat = (byt s j).toNat := by rw [byt_get]
   generalize hbb : (byt s j).toNat = bb at hb hg
   have HCB := Lib.hid hbb
   clear hbb
   by_cases a1 : bb < 48
   ·have c1 : decide ((bb : Int) < 48) = true := decide_eq_true (by omega)
    go_wp2_with fail
    go_ret
    exact ⟨false, rfl, rfl, fun h => (by cases h)⟩
   have c1 : decide ((bb : Int) < 48) = false := decide_eq_false (by omega)
   by_cases a2 : 57 < bb
   ·have c2 : decide (57 < (bb : Int)) = true := decide_eq_true (by omega)
    go_wp2_with fail
    go_ret
    exact ⟨false, rfl, rfl, fun h => (by cases h)⟩
   have c2 : decide (57 < (bb : Int)) = false := decide_eq_false (by omega)
   have HN : Hid (isDigit (byt s j) = true) := by rw [Hid, isDigit_iff, HCB.out]; omega
   clear HCB a1 a2
   go_wp2_with fail
   go_round
   case rel => exact ⟨j + 1, by go_num, by omega, all_take_succ HA.out hlt HN.out⟩
   case measure => simp [intOf]; omega
  ·have hc : decide ((j : Int) < (s.size : Int)) = false := decide_eq_false (by omega)
   have HH : Hid (s.data.toList.all isDigit = true) := by
    have := HA.out
    rw [List.take_of_length_le (by rw [← Lib.size_eq]; omega)] at this
    exact this
   go_wp2_with fail
   go_ret
   exact ⟨true, rfl, rfl, fun _ => numB_of (by rw [← Lib.size_eq]; omega) (by rw [← Lib.size_eq]; omega) HH.out H0.out⟩
set_option maxHeartbeats 4000000 in
set_option maxRecDepth 100000 in
theorem rId_any (s : ByteArray) (hs : s.size ≤ 1000) (w : World) : Calls Tryz.prog 115 #[.string s] w (YesPost w (idB s = true)) := by
 go_enter Tryz.func115, Tryz.ntmps115
 go_wp2_with fail
 go_loop [3] (fun v => ∃ j : Nat, v = .int .i64 (j : Int) ∧ j ≤ s.size ∧ (∀ k, k < j → byt s k ≠ 47)) (fun v => s.size - (intOf v).toNat)
 case atStart => exact ⟨0, rfl, by omega, fun k hk => by omega⟩
 case round =>
  obtain ⟨j, rfl, hj, hall⟩ := hrel
  have HA := Lib.hid hall
  clear hall
  rcases Nat.lt_or_ge j s.size with hlt | hge
  ·have hg : s[j].toNat = (byt s j).toNat := by rw [byt_get]
   have hbt := (byt s j).toNat_lt
   by_cases a1 : byt s j = 47
   ·have HE := Lib.hid a1
    rw [a1] at hg
    have hg' : s[j].toNat = 47 := hg
    have z1 : (s.extract 0 j).size = j := by rw [ByteArray.size_extract]; omega
    have z2 : (s.extract (j + 1) s.size).size ≤ 1000 := by rw [ByteArray.size_extract]; omega
    have HNM := Lib.hid (fun W => rName_any (s.extract 0 j) (by omega) W)
    have HNU := Lib.hid (fun W => rnumber_any (s.extract (j + 1) s.size) z2 W)
    clear hg hbt a1
    go_wp2_with fail
    refine (HNM.out _).mono ?_
    rintro e w1 ⟨rfl, rfl⟩
    cases hnm : nameOk (s.extract 0 j)
    ·go_wp2_with fail
     go_ret
     exact ⟨false, rfl, rfl, fun h => (by cases h)⟩
    ·have HM := Lib.hid hnm
     clear hnm
     go_wp2_with fail
     refine (HNU.out _).mono ?_
     rintro e w2 ⟨g, rfl, rfl, hg⟩
     have HG := Lib.hid hg
     clear hg
     go_wp2_with fail
     go_ret
     exact ⟨g, rfl, rfl, fun h => idB_of hlt HE.out HA.out HM.out (HG.out h)⟩
   ·have a2 : (byt s j).toNat ≠ 47 := fun e => a1 (UInt8.toNat_inj.1 (by simpa using e))
    have HE := Lib.hid a1
    generalize (byt s j).toNat = bb at hg a2 hbt
    have c1 : ((bb : Int) == 47) = false := by rw [beq_eq_false_iff_ne]; omega
    clear a1 a2
    go_wp2_with fail
    go_round
    case rel =>
     refine ⟨j + 1, by go_num, by omega, fun k hk => ?_⟩
     rcases Nat.lt_or_ge k j with h | h
     ·exact HA.out k h
     ·have : k = j := by omega
      subst this
      exact HE.out
    case measure => simp [intOf]; omega
  ·have hc : decide ((j : Int) < (s.size : Int)) = false := decide_eq_false (by omega)
   go_wp2_with fail
   go_ret
   exact ⟨false, rfl, rfl, fun h => (by cases h)⟩
end Go.Proofs.YtdnmpgoigagjmaaGreatDoor
