/-
  The walk of integer.read.
-/
import Derived.Test.YtbkmhmaldljgmaaGreatDoorC04
import Derived.Test.YtbkmhmaldljgmaaGreatDoorC05
set_option linter.unusedVariables false
set_option linter.unusedSimpArgs false
set_option maxHeartbeats 16000000
set_option maxRecDepth 100000
namespace Go.Proofs.YtbkmhmaldljgmaaGreatDoor
open Go.RowKit Tr Go.Shelf
theorem ownsRow_below {w w' : World} {base : Nat} {e : TypeId} {size : Nat} {v : Value} {n : Nat} {xs : List Value} (h : w.ownsRow base e size v n xs) (hb : Below w.heap.size w w') : w'.ownsRow base e size v n xs :=
 h.kept (row := none) ⟨hb.os, hb.tape, hb.output, hb.size, fun i hi _ => hb.block i hi⟩ (by
  rcases hv : v.ownBlock with _ | k
  ·exact .inl rfl
  ·exact .inr (by simp))
def ReadPost (w : World) (a : ByteArray) (e : Ending) (w' : World) : Prop :=
 ∃ (A : Option Addr) (l : List Nat) (c : Nat), e = .returned (.agg #[.bool (decide (vl a < 0)), .slice A l.length c]) ∧ (Dig l ∧ Norm l ∧ mval l = (vl a).natAbs) ∧ Mg w' A c l ∧ Below w.heap.size w w'
theorem parseM_ok : ∀ (l : List UInt8) (acc : Nat), l.all isDigit = true → (acc + 1) * 10 ^ l.length ≤ 10 ^ 18 → Lib.parseUintM 18446744073709551615 acc l = .ok (l.foldl (fun n c => 10 * n + (c.toNat - 48)) acc)
 | [], acc, _, _ => rfl
 | c :: r, acc, ha, hb => by
   rw [List.all_cons, Bool.and_eq_true] at ha
   have hc := (isDigit_iff c).1 ha.1
   rw [List.length_cons, Nat.pow_succ] at hb
   have hp : 0 < 10 ^ r.length := Nat.pow_pos (by omega)
   have h10 : (acc + 1) * 10 ≤ (acc + 1) * (10 ^ r.length * 10) := Nat.mul_le_mul_left _ (by omega)
   have e18 : (10 : Nat) ^ 18 = 1000000000000000000 := rfl
   rw [e18] at hb
   have hb2 : (acc * 10 + (c.toNat - 48) + 1) * 10 ^ r.length ≤ 10 ^ 18 := by
    have : (acc * 10 + (c.toNat - 48) + 1) * 10 ^ r.length ≤ ((acc + 1) * 10) * 10 ^ r.length := Nat.mul_le_mul_right _ (by omega)
    rw [Nat.mul_assoc, Nat.mul_comm 10 (10 ^ r.length)] at this
    rw [e18]; omega
   rw [Lib.parseUintM, if_pos (by omega), if_neg (by omega), if_neg (by omega), parseM_ok r _ ha.2 hb2, List.foldl_cons, Nat.mul_comm acc 10]
theorem parse_ok (l : List UInt8) (h : l.all isDigit = true) (hne : l ≠ []) (hl : l.length ≤ 9) : Lib.parseUintB 64 l = .ok (dval l) := by
 unfold Lib.parseUintB
 rw [if_neg hne]
 have := parseM_ok l 0 h (by
  have : (10 : Nat) ^ l.length ≤ 10 ^ 18 := Nat.pow_le_pow_right (by omega) (by omega)
  omega)
 exact this
theorem extract_bs (ds : List UInt8) (i j : Nat) : ((bs ds).extract i j).data.toList = (ds.take j).drop i := by
 simp [bs, ByteArray.data_extract, List.extract_eq_take_drop, List.drop_take]
theorem parse_calls (s : ByteArray) (w : World) (h : s.data.toList.all isDigit = true) (hne : s.data.toList ≠ []) (hl : s.data.toList.length ≤ 9) :
 Calls Tryz.prog 81 #[.string s, .int .i64 10, .int .i64 64] w fun e w' => e = .returned (.tuple #[.int .u64 (dval s.data.toList : Nat), .nilIface]) ∧ Below w.heap.size w w' := by
 refine (Tryz.strconv_ParseUint_10_at64_ok s (by have : s.size = s.data.toList.length := rfl; omega) _ (parse_ok _ h hne hl) w).mono ?_
 rintro e w' ⟨rfl, hw⟩
 refine ⟨rfl, ?_⟩
 rcases hw with rfl | rfl
 ·exact Below.refl _ _
 ·exact ⟨rfl, rfl, rfl, by rw [Lib.bytesWorld_size]; omega, fun j hj => Lib.bytesWorld_at_old w _ s j hj⟩
def ReadR (ds : List UInt8) (l : List Nat) : Prop := Dig l ∧ 9 * l.length ≤ ds.length + 8 ∧ dval ds = dval (ds.take (ds.length - 9 * l.length)) * 1000000000 ^ l.length + mval l
theorem ReadR.step {ds : List UInt8} {l : List Nat} (h : ReadR ds l) (hd : ds.all isDigit = true) (hpos : 9 * l.length < ds.length) :
 ReadR ds (l ++ [dval ((ds.take (ds.length - 9 * l.length)).drop (ds.length - 9 * l.length - 9))]) := by
 obtain ⟨h1, h2, h3⟩ := h
 have hall : ((ds.take (ds.length - 9 * l.length)).drop (ds.length - 9 * l.length - 9)).all isDigit = true := by
  rw [List.all_eq_true] at hd ⊢
  exact fun x hx => hd x (List.mem_of_mem_take (List.mem_of_mem_drop hx))
 have hlt := dval_lt _ hall
 have hcl : ((ds.take (ds.length - 9 * l.length)).drop (ds.length - 9 * l.length - 9)).length = min 9 (ds.length - 9 * l.length) := by simp; omega
 rw [hcl] at hlt
 have h9 : (10 : Nat) ^ min 9 (ds.length - 9 * l.length) ≤ 10 ^ 9 := Nat.pow_le_pow_right (by omega) (by omega)
 have e9 : (10 : Nat) ^ 9 = 1000000000 := rfl
 refine ⟨h1.snoc (by omega), by simp; omega, ?_⟩
 rw [List.length_append, List.length_cons, List.length_nil, mval_snoc, h3, show ds.length - 9 * (l.length + (0 + 1)) = ds.length - 9 * l.length - 9 by omega]
 have e : ds.take (ds.length - 9 * l.length) = ds.take (ds.length - 9 * l.length - 9) ++ (ds.take (ds.length - 9 * l.length)).drop (ds.length - 9 * l.length - 9) := by
  conv => lhs; rw [← List.take_append_drop (ds.length - 9 * l.length - 9) (ds.take (ds.length - 9 * l.length))]
  rw [List.take_take, Nat.min_eq_left (by omega)]
 conv => lhs; rw [e]
 rw [dval_append, hcl, Nat.add_mul, show l.length + (0 + 1) = l.length + 1 by omega, Nat.pow_succ]
 rcases Nat.lt_or_ge (ds.length - 9 * l.length) 9 with hk | hk
 ·have : ds.length - 9 * l.length - 9 = 0 := by omega
  rw [this]
  simp [dval]
  rw [Nat.mul_comm]; omega
 ·rw [Nat.min_eq_left hk, e9, Nat.mul_assoc, Nat.mul_comm 1000000000, Nat.mul_comm (dval _) (1000000000 ^ l.length)]
  omega
theorem ReadR.done {ds : List UInt8} {l : List Nat} (h : ReadR ds l) (hend : ds.length ≤ 9 * l.length) : mval l = dval ds := by
 have h3 := h.2.2
 rw [show ds.length - 9 * l.length = 0 by omega] at h3
 simp [dval] at h3
 unfold dval; omega
theorem ReadR.norm {n : Nat} {l : List Nat} (h : ReadR (digits n) l) (hend : (digits n).length ≤ 9 * l.length) : Norm l := by
 rcases Classical.em (l = []) with h0 | h0
 ·subst h0; exact norm_nil
 ·refine norm_of_ge h.1 ?_ h0
  rw [h.done hend, dval_digits]
  have h2 := h.2.1
  have hl : 0 < l.length := by
   rcases Nat.eq_zero_or_pos l.length with hz | hz
   ·exact absurd (List.eq_nil_of_length_eq_zero hz) h0
   ·exact hz
  rcases Nat.lt_or_ge n (10 ^ (9 * (l.length - 1))) with h4 | h4
  ·have := (digits_length_le_iff (9 * (l.length - 1)) n).2 h4
   omega
  ·rw [Nat.pow_mul] at h4; exact h4
theorem read_any (a : ByteArray) (w : World) (hs : a.size ≤ 1073741824) :
 Calls Tryz.prog 48 #[.string a] w (ReadPost w a) := by
 have HD := Lib.hid (fun W => digits_any a W (by omega))
 go_enter Tryz.func48, Tryz.ntmps48
 go_wp2_with fail
 refine (HD.out _).mono ?_
 rintro e w1 ⟨rfl, hb1⟩
 clear HD
 have hlen : (digits (vl a).natAbs).length ≤ a.size := by
  rw [digits_length_le_iff]
  exact val_natAbs_lt a.data.toList
 have hall := all_digits (vl a).natAbs
 generalize hds : digits (vl a).natAbs = ds at hlen hall ⊢
 generalize hneg : decide (vl a < 0) = nb
 have HNEG := Lib.hid hneg
 have HDS := Lib.hid hds
 have HALL := Lib.hid hall
 clear hds hneg hall
 have hres : w1.heap[w.heap.size]? = some (.cells #[.bool false, .slice none 0 0] 100 (0, 0)) := by
  rw [hb1.block w.heap.size (by simp)]
  exact heap_alloc_new w _
 have hB1 : Below w.heap.size w w1 := ((Below.refl _ _).alloc (Nat.le_refl _) _).trans (hb1.mono (by simp))
 have hw1 : w.heap.size + 1 ≤ w1.heap.size := by have := hb1.size; simpa using this
 clear hb1
 have HRES := Lib.hid hres
 have HB1 := Lib.hid hB1
 clear hres hB1
 obtain ⟨i0, hi, hz0, hz1, hz2⟩ := info_parts Tryz.info_u64
 have hbsz : (bs ds).size = ds.length := bs_size ds
 go_wp2_with fail
 go_loopw [5, 6] (fun v iv wr => ∃ (l : List Nat), iv = .int .i64 ((ds.length : Int) - 9 * (l.length : Int)) ∧ ReadR ds l ∧ wr.ownsRow (w.heap.size + 1) 128 1 v l.length (l.map U) ∧ wr.heap[w.heap.size]? = some (.cells #[.bool false, .slice none 0 0] 100 (0, 0)) ∧ Below w.heap.size w wr ∧ w.heap.size + 1 ≤ wr.heap.size) (fun _ iv _ => (intOf iv + 8).toNat)
 case atStart => exact ⟨[], by simp, ⟨Dig.nil, by simp, by simp [mval]⟩, World.ownsRow_nil _ _ _ _, HRES.out, HB1.out, hw1⟩
 case round =>
  obtain ⟨l, rfl, hR, hown, hres, hB, hwr⟩ := hrel
  have HR := Lib.hid hR
  have HOWN := Lib.hid hown
  have HRES := Lib.hid hres
  have HB := Lib.hid hB
  have b9 := hR.2.1
  clear hR hown hres hB
  by_cases hpos : 9 * l.length < ds.length
  ·have hk : ((ds.length : Int) - 9 * (l.length : Int)) = ((ds.length - 9 * l.length : Nat) : Int) := by omega
   have HST := Lib.hid (HR.out.step HALL.out hpos)
   rw [hk]
   generalize hkk : ds.length - 9 * l.length = k at HST hk ⊢
   have hk1 : 1 ≤ k := by omega
   have hk2 : k ≤ ds.length := by omega
   have HKK := Lib.hid hkk
   clear hk hkk b9 hpos
   have hmx : (max 0 ((k : Int) - 9)).toNat = k - 9 := by omega
   go_wp2_with fail
   have hx : ((bs ds).extract (k - 9) k).data.toList = (ds.take k).drop (k - 9) := extract_bs ds _ _
   have hxl : ((ds.take k).drop (k - 9)).length = min 9 k := by simp; omega
   have hpc := parse_calls ((bs ds).extract (k - 9) k) wr (by
    rw [hx, List.all_eq_true]
    have := HALL.out
    rw [List.all_eq_true] at this
    exact fun x hx => this x (List.mem_of_mem_take (List.mem_of_mem_drop hx))) (by rw [hx]; intro e; rw [e] at hxl; simp at hxl; omega) (by rw [hx, hxl]; omega)
   rw [hx] at hpc
   refine hpc.mono ?_
   rintro e w2 ⟨rfl, hb2⟩
   clear hpc hx hxl hmx
   have hown2 : w2.ownsRow (w.heap.size + 1) 128 1 u5 l.length (l.map U) := ownsRow_below HOWN.out hb2
   have hres2 : w2.heap[w.heap.size]? = some (.cells #[.bool false, .slice none 0 0] 100 (0, 0)) := (hb2.block _ (by omega)).trans HRES.out
   have hB2 : Below w.heap.size w w2 := HB.out.trans (hb2.mono (by omega))
   have hw2 : w.heap.size + 1 ≤ w2.heap.size := by have := hb2.size; omega
   have HOWN2 := Lib.hid hown2
   have HRES2 := Lib.hid hres2
   have HB2 := Lib.hid hB2
   clear hown2 hres2 hB2 hb2 HOWN HRES HB
   generalize dval ((ds.take k).drop (k - 9)) = x at HST
   have hsrc : ∀ j u, [Value.int .u64 (x : Int)][j]? = some u → (w2.alloc (.cells #[.int .u64 (x : Int)] 128)).cell? ((⟨w2.heap.size, 0, none⟩ : Addr).add j) = some u := by
    intro j u hu
    obtain ⟨ad', h1, h2⟩ := RdM.srcs (l := [x]) (OwnM.rd (sp := []) (heap_alloc_new w2 _)) (Below.refl _ _) (by simp)
    have h3 : ad' = ⟨w2.heap.size, 0, none⟩ := (Option.some.inj h1).symm
    rw [← h3]
    exact h2 j u hu
   have HS := Lib.hid hsrc
   clear hsrc
   have hll : l.length ≤ ds.length := by have := HKK.out; omega
   go_wp2_with (at_builtin; refine wpList_append_own _ rfl _ _ 98 rfl (w.heap.size + 1) 128 i0 (.int .u64 0) 1 8 Tryz.underlying98 hi hz0 hz1 hz2 rfl (by decide) _ _ _ rfl (HOWN2.out.alloc _) ⟨w2.heap.size, 0, none⟩ 1 1 [.int .u64 (x : Int)] rfl rfl HS.out (by simp [Value.oneCell']) (by unfold maxLen; omega) (by omega) (by simp; omega) ?_; intro v3 w3 hown3 hgrow3 _)
   have hown3' : w3.ownsRow (w.heap.size + 1) 128 1 v3 (l ++ [x]).length ((l ++ [x]).map U) := by simpa [U] using hown3
   have hlt3 := HOWN2.out.lt
   have hres3 : w3.heap[w.heap.size]? = some (.cells #[.bool false, .slice none 0 0] 100 (0, 0)) := by
    rw [hgrow3.block w.heap.size (by simp; omega) (fun e => by have := hlt3 _ e.symm; omega), Below.heap_alloc w2 _ _ (by omega)]
    exact HRES2.out
   have hB3 : Below w.heap.size w w3 := (HB2.out.alloc (by omega) _).grown hgrow3 (by simp; omega) (fun k hk => by have := hlt3 k hk; omega)
   have hw3 : w.heap.size + 1 ≤ w3.heap.size := by have := hgrow3.size; simp at this; omega
   have HR3 := Lib.hid (show ReadR ds (l ++ [x]) from HST.out)
   have HO3 := Lib.hid hown3'
   have HE3 := Lib.hid hres3
   have HB3 := Lib.hid hB3
   clear hown3 hown3' hlt3 hres3 hB3 hgrow3
   go_wp2_with fail
   have hkk := HKK.out
   refine ⟨⟨l ++ [x], ?_, HR3.out, HO3.out, HE3.out, HB3.out, hw3⟩, by simp [intOf]; omega⟩
   simp only [List.length_append, List.length_cons, List.length_nil]
   congr 1; omega
  ·clear b9
   have hneg : decide ((0 : Int) < (ds.length : Int) - 9 * (l.length : Int)) = false := by simp only [decide_eq_false_iff_not]; omega
   have hc0 : wr.cell? ⟨w.heap.size, 0, none⟩ = some (.bool false) := by rw [cell_of_row wr _ _ _ _ _ HRES.out]; rfl
   have hc1 : wr.cell? ⟨w.heap.size, 1, none⟩ = some (.slice none 0 0) := by rw [cell_of_row wr _ _ _ _ _ HRES.out]; rfl
   have hf0 : wr.frozen? ⟨w.heap.size, 0, none⟩ = false := by have := HRES.out; simp [World.frozen?, this]
   have hf1 : wr.frozen? ⟨w.heap.size, 1, none⟩ = false := by have := HRES.out; simp [World.frozen?, this]
   have hll : 9 * l.length ≤ ds.length + 8 := HR.out.2.1
   obtain ⟨A5, c5, rfl, hA5⟩ : ∃ A5 c5, u5 = .slice A5 l.length c5 ∧ Hid (A5 = none → c5 = 0) := by
    rcases HOWN.out.2 with ⟨h', h0⟩ | ⟨g', cap', cur, h', _⟩
    ·exact ⟨none, 0, by rw [h', h0], fun _ => rfl⟩
    ·exact ⟨_, _, h', (fun h => by cases h)⟩
   go_wp2_with fail
   refine bodyPost_ret (v := .agg #[.bool nb, .slice A5 l.length c5]) (by simp [results, Tryz.results48, go_sem, hc0, hc1]) rfl ?_
   have hro := RdM.of_own HOWN.out
   have hnil : ds.length ≤ 9 * l.length := by omega
   have hds := HDS.out
   subst hds
   have hB' : Below w.heap.size w ((wr.setCell ⟨w.heap.size, 0, none⟩ (.bool nb)).setCell ⟨w.heap.size, 1, none⟩ (.slice A5 l.length c5)) :=
    (HB.out.setCell (p := ⟨w.heap.size, 0, none⟩) (Nat.le_refl _) _).setCell (p := ⟨w.heap.size, 1, none⟩) (Nat.le_refl _) _
   refine ⟨A5, l, c5, by rw [HNEG.out], ⟨HR.out.1, HR.out.norm hnil, by rw [HR.out.done hnil, dval_digits]⟩, ⟨hro.2.1, hA5.out, ?_⟩, hB'⟩
   intro hl
   obtain ⟨ad, hA, h1, h2⟩ := hro.2.2 hl
   have hne : w.heap.size ≠ ad.block := by
    have h3 := HOWN.out.lt ad.block (by rw [hA]; rcases HOWN.out.2 with ⟨h', h0⟩ | ⟨g', cap', cur, h', _⟩
                                        ·exact absurd (List.eq_nil_of_length_eq_zero h0) hl
                                        ·rw [hA] at h'; simp only [Value.slice.injEq, Option.some.injEq, true_and] at h'; rw [h'.1]; rfl)
    omega
   refine ⟨ad, hA, by simpa [World.setCell] using h1, fun j hj => ?_⟩
   rw [World.cell?_setCell_other _ _ _ _ (by intro e; apply hne; rw [← add_block ad j, ← e]), World.cell?_setCell_other _ _ _ _ (by intro e; apply hne; rw [← add_block ad j, ← e])]
   exact h2 j hj
end Go.Proofs.YtbkmhmaldljgmaaGreatDoor
