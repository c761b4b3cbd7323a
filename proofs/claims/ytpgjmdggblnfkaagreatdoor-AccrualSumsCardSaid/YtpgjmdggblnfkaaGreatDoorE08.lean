/-
  The walk of trancheref01.times.
-/
import Derived.Test.YtpgjmdggblnfkaaGreatDoorE02
import Derived.Test.YtpgjmdggblnfkaaGreatDoorE06
import Derived.BigQuiet
import Derived.Deep.QuietTactic
set_option linter.unusedVariables false
set_option linter.unusedSimpArgs false
namespace Go.Proofs.YtpgjmdggblnfkaaGreatDoor
open Go.RowKit Tr

theorem Tryz.info_int : (Tryz.prog.info? 3).map (fun i => (i.zero, i.size, i.bytes)) = some (some (.int .i64 0), 1, 8) := by kernel_rfl
def V (x : Nat) : Value := .int .i64 (x : Int)
/-- block g is the groups l, of type int, none of them frozen -/
def OwnN (w : World) (g : Nat) (l : List Nat) : Prop := w.heap[g]? = some (.cells (l.map V).toArray 3 (0, 0))
section
variable {w w' : World} {g : Nat} {l : List Nat}
theorem OwnN.lt (h : OwnN w g l) : g < w.heap.size := by
  rcases Nat.lt_or_ge g w.heap.size with hlt | hge
  · exact hlt
  · unfold OwnN at h; rw [Array.getElem?_eq_none hge] at h; cases h
theorem OwnN.cell (h : OwnN w g l) {k : Nat} (hk : k < l.length) : w.cell? ⟨g, k, none⟩ = some (.int .i64 (gt l k)) := by
  rw [cell_of_row w g k _ _ (0, 0) h]
  simp [gt, V, hk]
theorem OwnN.frozen (h : OwnN w g l) (k : Nat) : w.frozen? ⟨g, k, none⟩ = false := by
  unfold OwnN at h
  simp [World.frozen?, h]
theorem OwnN.set (h : OwnN w g l) {k : Nat} (hk : k < l.length) (x : Nat) : OwnN (w.setCell ⟨g, k, none⟩ (.int .i64 (x : Int))) g (l.set k x) := by
  unfold OwnN at h ⊢
  simp only [World.setCell, Array.getElem?_modify, h, if_true, Option.map_some]
  congr 2
  rw [List.setIfInBounds_toArray, List.map_set]; rfl
theorem OwnN.set' (h : OwnN w g l) {k : Nat} (hk : k < l.length) {z : Int} (x : Nat) (hz : z = x) : OwnN (w.setCell ⟨g, k, none⟩ (.int .i64 z)) g (l.set k x) := by
  subst hz; exact h.set hk x
theorem OwnN.rd (h : OwnN w g l) : RdN w (some ⟨g, 0, none⟩) l := by
  intro _
  refine ⟨_, rfl, h.lt, fun j hj => ?_⟩
  have := h.cell hj
  unfold Addr.add
  split
  · rename_i h0; subst h0; exact this
  · simpa using this
end
def zrowN (c : Nat) : Array Value := ((List.replicate c 0).map V).toArray
theorem OwnN.made (w : World) (c : Nat) : OwnN (w.alloc (.cells (zrowN c) 3)) w.heap.size (List.replicate c 0) := heap_alloc_new w _
theorem madeZerosN (c : Nat) : madeCells #[Value.int .i64 0] c = zrowN c := by
  unfold zrowN
  apply Array.toList_inj.1
  rw [toList_madeCells_one]; simp [V]
theorem make_runN (x y : Int) (n c : Nat) (hx : x = n) (hy : y = c) (hnc : n ≤ c) (hc : c ≤ 4294967296) (W : World) :
    (Instr.makeSlice 187 (.int .i64 x) (.int .i64 y)).run Tryz.prog W = .ok (.slice (some ⟨W.heap.size, 0, none⟩) n c) (W.alloc (.cells (zrowN c) 3)) := by
  obtain ⟨i0, hi, hz0, hz1, hz2⟩ := info_parts Tryz.info_int
  subst hx hy
  have h := run_make (P := Tryz.prog) W 187 3 i0 (.int .i64 0) Tryz.underlying187 hi hz0 .i64 .i64 n c (by omega) (by omega) (by rw [hz2]; omega) (by omega)
  rw [h, hz1]
  simp only [Int.toNat_natCast, Nat.mul_one]
  rw [show (Value.int IntKind.i64 0).cells = #[.int .i64 0] from rfl, madeZerosN]

theorem ColR.last {l n o0 o : List Nat} {i q : Nat} (h0 : RowR l n i o0) (h : ColR n o0 i (gt l i) n.length o q) (hi : i < l.length) (hl : Dig l) (hn : Dig n) : gt o (i + n.length) = 0 := by
  obtain ⟨a1, a2, a3⟩ := h0
  obtain ⟨b1, b2, b3, b4, b5⟩ := h
  have hlt : mval o0 < 1000000000 ^ (i + n.length) := by
    have e1 := mval_lt (hl.take i)
    rw [List.length_take_of_le (by omega)] at e1
    have e2 := mval_lt hn
    rw [a3, Nat.pow_add]
    rcases Nat.eq_zero_or_pos (mval n) with hz | hz
    · rw [hz, Nat.mul_zero]; exact Nat.mul_pos (Nat.pow_pos (by omega)) (Nat.pow_pos (by omega))
    · exact Nat.mul_lt_mul_of_lt_of_le' e1 (Nat.le_of_lt e2) hz
  rw [b4 _ (Nat.le_refl _)]; exact gt_zero_of_lt hlt
theorem ColR.row {l n o0 o : List Nat} {i k : Nat} (h0 : RowR l n i o0) (h : ColR n o0 i (gt l i) k o 0) (hk : n.length ≤ k) : RowR l n (i + 1) o := by
  obtain ⟨a1, a2, a3⟩ := h0
  obtain ⟨b1, b2, b3, b4, b5⟩ := h
  rw [List.take_of_length_le hk] at b3
  refine ⟨b1.trans a1, b2, ?_⟩
  rw [mval_take_succ']
  change _ = (mval (l.take i) + 1000000000 ^ i * gt l i) * mval n
  rw [Nat.add_mul, Nat.mul_assoc, ← a3]
  omega

theorem q_sameN {P : Program} {f : FuncId} {args : Array Value} {w : World} {n : Nat} {v : Value}
    (h : Calls P f args (w.drewN n) fun e w' => e = .returned v ∧ w.drewN n = w') : Calls P f args (w.drewN n) fun e w'' => e = .returned v ∧ ∃ m, w'' = w.drewN m :=
  Calls.quiet_of_same (h.mono fun _ _ ⟨a, b⟩ => ⟨a, b.symm⟩)
def OwnNPost (w : World) (P : List Nat → Prop) (e : Ending) (w' : World) : Prop :=
  ∃ (A : Option Addr) (r : List Nat) (c : Nat), e = .returned (.slice A r.length c) ∧ r.length ≤ c ∧ P r ∧ RdN w' A r ∧ Below w.heap.size w w'

set_option maxHeartbeats 2000000 in
set_option maxRecDepth 100000 in
theorem rtimes_any (A A' : Option Addr) (l n : List Nat) (c c' : Nat) (w : World) (b1 : l.length ≤ 536870912) (b2 : n.length ≤ 536870912)
    (hc : l.length ≤ c) (hc' : n.length ≤ c') (hl : Dig l) (hn : Dig n) (hr : RdN w A l) (hr' : RdN w A' n) :
    Calls Tryz.prog 212 #[.slice A l.length c, .slice A' n.length c'] w (OwnNPost w (fun r => r.length ≤ l.length + n.length ∧ Prod l n r)) := by
  have HR := Lib.hid hr
  have HR' := Lib.hid hr'
  have HL := Lib.hid hl
  have HN := Lib.hid hn
  have hmk := fun W => make_runN ((l.length : Int) + (n.length : Int)) ((l.length : Int) + (n.length : Int)) (l.length + n.length) (l.length + n.length) (by omega) (by omega) (by omega) (by omega) W
  clear hr hr' hl hn
  go_enter Tryz.func212, Tryz.ntmps212
  go_wp2_with fail
  clear hmk
  have hl0 := HL.out
  have hn0 := HN.out
  have hO0 : OwnN (w.alloc (.cells (zrowN (l.length + n.length)) 3)) w.heap.size (List.replicate (l.length + n.length) 0) := OwnN.made w (l.length + n.length)
  have hB0 : Below w.heap.size w (w.alloc (.cells (zrowN (l.length + n.length)) 3)) := (Below.refl _ _).alloc (Nat.le_refl _) _
  generalize w.alloc (.cells (zrowN (l.length + n.length)) 3) = w1 at hO0 hB0 ⊢
  go_loopw [6] (fun i wr => ∃ (k : Nat) (o : List Nat), k ≤ l.length ∧ i = .int .i64 (k : Int) ∧ RowR l n k o ∧ OwnN wr w.heap.size o ∧ Below w.heap.size w wr) (fun i _ => l.length - (intOf i).toNat)
  case atStart => exact ⟨0, _, Nat.zero_le _, rfl, ⟨by simp, Dig.replicate _, by simp [mval_replicate_zero, mval]⟩, hO0, hB0⟩
  case round =>
    obtain ⟨i, o0, hi, rfl, hRow, hO, hB⟩ := hrel
    have HRow := Lib.hid hRow
    have HO := Lib.hid hO
    have HB := Lib.hid hB
    have hol := hRow.1
    clear hRow hO hB hO0 hB0
    by_cases hlt : i < l.length
    · obtain ⟨ad, rfl, hab, hcell⟩ := HR.out (by rintro rfl; simp at hlt)
      have HCI := Lib.hid (hcell i hlt)
      have d1 := hl0.get i
      change gt l i < _ at d1
      clear hcell
      go_wp2_with fail
      obtain ⟨wo, rfl⟩ : ∃ wo : World, wo = wr := ⟨_, rfl⟩
      go_loopw [7, 8] (fun cy kk wq => ∃ (k q : Nat) (o : List Nat), kk = .int .i64 (k : Int) ∧ cy = .int .i64 (q : Int) ∧ (k ≤ n.length ∨ (k = n.length + 1 ∧ q = 0)) ∧ q < 1000000000 ∧ ColR n o0 i (gt l i) k o q ∧ OwnN wq w.heap.size o ∧ Below w.heap.size w wq) (fun _ kk _ => n.length + 1 - (intOf kk).toNat)
      case atStart => exact ⟨0, 0, o0, rfl, rfl, .inl (Nat.zero_le _), by omega, ColR.start HRow.out.2.1, HO.out, HB.out⟩
      case round =>
        obtain ⟨k, q, o, rfl, rfl, hkq, hq, hCol, hO2, hB2⟩ := hrel
        have HCol := Lib.hid hCol
        have HO2 := Lib.hid hO2
        have HB2 := Lib.hid hB2
        have hol2 := hCol.1.trans hol
        by_cases hgo : k < n.length ∨ (k = n.length ∧ 0 < q)
        · have hkn : k ≤ n.length := by omega
          have hci : wr.cell? (ad.add i) = some (.int .i64 (gt l i)) := (hB2.cell (by rw [add_block]; exact hab)).trans HCI.out
          have d2 := hn0.get k
          change gt n k < _ at d2
          have hco := hO2.cell (k := i + k) (by omega)
          have hfo := hO2.frozen (i + k)
          have d3 := hCol.2.1.get (i + k)
          change gt o (i + k) < _ at d3
          have d4 : gt l i * gt n k ≤ 999999999 * 999999999 := Nat.mul_le_mul (by omega) (by omega)
          have HOL := Lib.hid hol2
          have HKQ := Lib.hid hkq
          have hol3 : i + k < o.length := by omega
          have hst := HCol.out.step hol3 d1 d2 hq
          have HN0 : Hid (k = n.length → (q + (gt o (i + k) + gt l i * gt n k)) / 1000000000 = 0) := by
            rintro rfl
            have e1 := ColR.last HRow.out HCol.out hlt hl0 hn0
            have e2 : gt n n.length = 0 := gt_beyond (Nat.le_refl _)
            rw [e1, e2]; omega
          have HST := Lib.hid hst
          have HG := Lib.hid (fun m => rgroup_any A' n c' k (wr.drewN m) (by omega) (by omega) hc' (show RdN wr A' n from HR'.out.below hB2))
          clear hCol hO2 hB2 hol2 hkq hst
          rcases hgo with hlk | ⟨hlk, hq0⟩
          · have hc1 : decide ((k : Int) < (n.length : Int)) = true := by simp; omega
            go_wp2_with fail
            go_quiet ((go_at_call 234; exact q_sameN (HG.out _)))
            go_wp2_with fail
            have he : ((gt o (i + k) : Int) + (gt l i : Int) * (gt n k : Int) + (q : Int)) = ((q + (gt o (i + k) + gt l i * gt n k) : Nat) : Int) := by
              simp only [Int.natCast_add, Int.natCast_mul]; rw [Int.add_comm]
            rw [he]
            have hst := HST.out
            have hn0' := HN0.out
            generalize q + (gt o (i + k) + gt l i * gt n k) = T at hst hn0' ⊢
            refine ⟨⟨k + 1, T / 1000000000, o.set (i + k) (T % 1000000000), by go_num, congrArg _ (by omega), .inl (by omega), hst.1, hst.2, OwnN.set' (show OwnN (wr.drewN nq) w.heap.size o from HO2.out) hol3 _ (by omega), Below.setCell (p := ⟨w.heap.size, i + k, none⟩) (below_drewN HB2.out nq) (Nat.le_refl _) _⟩, by simp [intOf]; omega⟩
          · have hc1 : decide ((k : Int) < (n.length : Int)) = false := by simp; omega
            have hc2 : decide ((0 : Int) < (q : Int)) = true := by simp; omega
            have hkn2 : n.length ≤ k := by omega
            clear hlk
            go_wp2_with fail
            go_quiet ((go_at_call 234; exact q_sameN (HG.out _)))
            go_wp2_with fail
            have he : ((gt o (i + k) : Int) + (gt l i : Int) * (gt n k : Int) + (q : Int)) = ((q + (gt o (i + k) + gt l i * gt n k) : Nat) : Int) := by
              simp only [Int.natCast_add, Int.natCast_mul]; rw [Int.add_comm]
            rw [he]
            have hst := HST.out
            have hn0' := HN0.out
            generalize q + (gt o (i + k) + gt l i * gt n k) = T at hst hn0' ⊢
            refine ⟨⟨k + 1, T / 1000000000, o.set (i + k) (T % 1000000000), by go_num, congrArg _ (by omega), .inr ⟨by omega, hn0' (by omega)⟩, hst.1, hst.2, OwnN.set' (show OwnN (wr.drewN nq) w.heap.size o from HO2.out) hol3 _ (by omega), Below.setCell (p := ⟨w.heap.size, i + k, none⟩) (below_drewN HB2.out nq) (Nat.le_refl _) _⟩, by simp [intOf]; omega⟩
        · have hq0 : q = 0 := by omega
          subst hq0
          have hkn : n.length ≤ k := by omega
          have hc1 : decide ((k : Int) < (n.length : Int)) = false := by simp; omega
          have hRow2 := ColR.row HRow.out HCol.out hkn
          have HRow2 := Lib.hid hRow2
          clear hRow2 hCol hO2 hB2 hol2 hgo hkq
          go_wp2_with fail
          refine ⟨⟨i + 1, o, by omega, by go_num, HRow2.out, HO2.out, HB2.out⟩, by simp [intOf]; omega⟩
    · obtain rfl : i = l.length := by omega
      go_wp2_with fail
      have hc2 := rtrim_any (some ⟨w.heap.size, 0, none⟩) o0 (l.length + n.length) wr (by omega) (by omega) HO.out.rd
      rw [hol] at hc2
      refine hc2.mono ?_
      rintro e w' ⟨rfl, rfl⟩
      clear hc2
      go_wp2_with fail
      go_ret
      have hzl : (cutz o0).length ≤ o0.length := by rw [cutz_is_take]; simp; omega
      refine ⟨some ⟨w.heap.size, 0, none⟩, cutz o0, l.length + n.length, rfl, by omega, ⟨by omega, HRow.out.2.1.cutz, norm_cutz o0, ?_⟩, HO.out.rd.cutz, HB.out⟩
      rw [mval_cutz, HRow.out.2.2, List.take_of_length_le (Nat.le_refl _)]
end Go.Proofs.YtpgjmdggblnfkaaGreatDoor
