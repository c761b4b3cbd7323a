/-
  The walks of trancheref19.day, GreatOne, Check, Find (their yes: a valid lot, a small one, no such id).
  The walks of trancheref19.Great, CheckAll; tranchelaw39.great, fine. (Printed by gen_ref22.py.)
-/
import Derived.Test.YtpgjmdggblnfkaaGreatDoorP42
import Derived.Test.YtpgjmdggblnfkaaGreatDoorE31
import Derived.Test.YtpgjmdggblnfkaaGreatDoorE38
set_option linter.unusedVariables false
set_option linter.unusedSimpArgs false
namespace Go.Proofs.YtpgjmdggblnfkaaGreatDoor
open Go.RowKit Tr Go.Shelf

/-- as small as the statements examine -/
def Lot.tiny (l : Lot) : Prop := l.qty.size ≤ 13 ∧ l.cost.size ≤ 13 ∧ l.used.size ≤ 13 ∧ l.id.size ≤ 40 ∧ l.inst.size ≤ 40
theorem Lot.tiny.sized {l : Lot} (h : l.tiny) : l.sized := by
  obtain ⟨h1, h2, h3, h4, h5⟩ := h
  exact ⟨by omega, by omega, by omega, by omega, by omega⟩
def ZeroPost (w : World) (P : Prop) (e : Ending) (w' : World) : Prop := ∃ n : Int, e = .returned (.int .i64 n) ∧ (n = 0 → P) ∧ Below w.heap.size w w'

theorem rday19_any (d : Int) (w : World) :
    Calls Tryz.prog 138 #[.int .i64 d] w fun e w' => e = .returned (.bool (decide (okDay d))) ∧ w = w' := by
  go_enter Tryz.func138, Tryz.ntmps138
  go_wp2_with fail
  all_goals (go_ret; refine ⟨?_, rfl⟩; first | (rw [decide_eq_true (p := okDay d) (by unfold okDay; omega)]; rfl) | (rw [decide_eq_false (p := okDay d) (by unfold okDay; omega)]; rfl) | (simp [okDay, *]; done))

theorem lbox (l : Lot) (w : World) : ∃ W0, w.alloc (.cells l.cells 39) = W0 ∧ Below w.heap.size w W0 ∧ W0.heap[w.heap.size]? = some (.cells l.cells 39) :=
  ⟨_, rfl, (Below.refl _ w).alloc (Nat.le_refl _) _, heap_alloc_new w _⟩

set_option maxHeartbeats 4000000 in
set_option maxRecDepth 100000 in
theorem rGreatOne_any (l : Lot) (w : World) : Calls Tryz.prog 122 #[l.enc] w (GreatPost w l.tiny) := by
  obtain ⟨W0, hW0, hB0, hk⟩ := lbox l w
  have c0 := Lib.cell_of_heap hk 0
  have c1 := Lib.cell_of_heap hk 1
  have c2 := Lib.cell_of_heap hk 2
  have c3 := Lib.cell_of_heap hk 3
  have c4 := Lib.cell_of_heap hk 4
  have c5 := Lib.cell_of_heap hk 5
  have c6 := Lib.cell_of_heap hk 6
  simp at c0 c1 c2 c3 c4 c5 c6
  have HB := Lib.hid hB0
  clear hB0 hk
  go_enter Tryz.func122, Tryz.ntmps122
  go_wp2_with fail
  refine (rLong_any l.qty _).mono ?_
  rintro e w1 ⟨rfl, rfl⟩
  by_cases h1 : 13 < l.qty.size
  · rw [decide_eq_true h1]
    go_wp2_with fail
    go_ret
    exact ⟨true, rfl, fun h => (by cases h), HB.out⟩
  rw [decide_eq_false h1]
  go_wp2_with fail
  refine (rLong_any l.cost _).mono ?_
  rintro e w1 ⟨rfl, rfl⟩
  by_cases h2 : 13 < l.cost.size
  · rw [decide_eq_true h2]
    go_wp2_with fail
    go_ret
    exact ⟨true, rfl, fun h => (by cases h), HB.out⟩
  rw [decide_eq_false h2]
  go_wp2_with fail
  refine (rLong_any l.used _).mono ?_
  rintro e w1 ⟨rfl, rfl⟩
  by_cases h3 : 13 < l.used.size
  · rw [decide_eq_true h3]
    go_wp2_with fail
    go_ret
    exact ⟨true, rfl, fun h => (by cases h), HB.out⟩
  rw [decide_eq_false h3]
  by_cases h4 : 40 < l.id.size
  · have t4 : decide ((40 : Int) < (l.id.size : Int)) = true := decide_eq_true (by omega)
    go_wp2_with fail
    go_ret
    exact ⟨true, rfl, fun h => (by cases h), HB.out⟩
  have t4 : decide ((40 : Int) < (l.id.size : Int)) = false := decide_eq_false (by omega)
  by_cases h5 : 40 < l.inst.size
  · have t5 : decide ((40 : Int) < (l.inst.size : Int)) = true := decide_eq_true (by omega)
    go_wp2_with fail
    go_ret
    exact ⟨true, rfl, fun h => (by cases h), HB.out⟩
  have t5 : decide ((40 : Int) < (l.inst.size : Int)) = false := decide_eq_false (by omega)
  go_wp2_with fail
  go_ret
  exact ⟨false, rfl, fun _ => ⟨by omega, by omega, by omega, by omega, by omega⟩, HB.out⟩

theorem cmpI_pos {z : Int} (h : 0 < z) : decide (cmpI z 0 ≤ 0) = false := decide_eq_false (by rw [cmpI_le]; omega)
theorem cmpI_npos {z : Int} (h : ¬ 0 < z) : decide (cmpI z 0 ≤ 0) = true := decide_eq_true (by rw [cmpI_le]; omega)
theorem cmpI_neg {z : Int} (h : z < 0) : decide (cmpI z 0 < 0) = true := decide_eq_true (by rw [cmpI_lt]; omega)
theorem cmpI_nneg {z : Int} (h : ¬ z < 0) : decide (cmpI z 0 < 0) = false := decide_eq_false (by rw [cmpI_lt]; omega)
theorem bytes_eq (a b : ByteArray) : (a.toList == b.toList) = decide (a = b) := by
  by_cases h : a = b
  · subst h; simp
  · rw [decide_eq_false h]; exact neq_toList h

set_option maxHeartbeats 8000000 in
set_option maxRecDepth 100000 in
theorem rCheck19_any (l : Lot) (hs : l.tiny) (w : World) : Calls Tryz.prog 80 #[l.enc] w (ZeroPost w l.ok) := by
  obtain ⟨W0, hW0, hB0, hk⟩ := lbox l w
  obtain ⟨z1, z2, z3, z4, z5⟩ := hs
  have N1 := Lib.hid (fun W => rId_any l.id (by omega) W)
  have N2 := Lib.hid (fun W => rName_any l.inst (by omega) W)
  have Y1 := Lib.hid (fun (h : Can l.qty) W => rCheck_yes l.qty (by omega) h W)
  have X1 := Lib.hid (fun (h : ¬ Can l.qty) W => rCheck_no l.qty (by omega) h W)
  have Y2 := Lib.hid (fun (h : Can l.cost) W => rCheck_yes l.cost (by omega) h W)
  have X2 := Lib.hid (fun (h : ¬ Can l.cost) W => rCheck_no l.cost (by omega) h W)
  have Y3 := Lib.hid (fun (h : Can l.used) W => rCheck_yes l.used (by omega) h W)
  have X3 := Lib.hid (fun (h : ¬ Can l.used) W => rCheck_no l.used (by omega) h W)
  have S1 := Lib.hid (fun W => rSign_any l.qty (by omega) W)
  have S2 := Lib.hid (fun W => rSign_any l.cost (by omega) W)
  clear z1 z2 z3 z4 z5
  have c0 := Lib.cell_of_heap hk 0
  have c1 := Lib.cell_of_heap hk 1
  have c2 := Lib.cell_of_heap hk 2
  have c3 := Lib.cell_of_heap hk 3
  have c4 := Lib.cell_of_heap hk 4
  have c5 := Lib.cell_of_heap hk 5
  have c6 := Lib.cell_of_heap hk 6
  simp at c0 c1 c2 c3 c4 c5 c6
  have HB := Lib.hid hB0
  clear hB0 hk
  go_enter Tryz.func80, Tryz.ntmps80
  go_wp2_with fail
  refine (N1.out _).mono ?_
  rintro e w1 ⟨g, rfl, rfl, hg⟩
  cases g
  case false =>
    go_wp2_with fail
    go_ret
    exact ⟨23, rfl, fun h => (by cases h), HB.out⟩
  have G1 := Lib.hid (hg rfl)
  clear hg N1
  go_wp2_with fail
  refine (N2.out _).mono ?_
  rintro e w1 ⟨rfl, rfl⟩
  cases hn : nameOk l.inst
  · go_wp2_with fail
    go_ret
    exact ⟨23, rfl, fun h => (by cases h), HB.out⟩
  have G2 := Lib.hid hn
  clear hn N2
  go_wp2_with fail
  refine (rday19_any l.acq _).mono ?_
  rintro e w1 ⟨rfl, rfl⟩
  by_cases h3 : okDay l.acq
  case neg =>
    rw [decide_eq_false h3]
    clear h3
    go_wp2_with fail
    go_ret
    exact ⟨13, rfl, fun h => (by cases h), HB.out⟩
  rw [decide_eq_true h3]
  have G3 := Lib.hid h3
  clear h3
  go_wp2_with fail
  refine (rday19_any l.opn _).mono ?_
  rintro e w1 ⟨rfl, rfl⟩
  by_cases h4 : okDay l.opn
  case neg =>
    rw [decide_eq_false h4]
    clear h4
    go_wp2_with fail
    go_ret
    exact ⟨13, rfl, fun h => (by cases h), HB.out⟩
  rw [decide_eq_true h4]
  have G4 := Lib.hid h4
  clear h4
  by_cases h5 : l.opn < l.acq
  · have t5 : decide (l.opn < l.acq) = true := decide_eq_true h5
    clear h5
    go_wp2_with fail
    go_ret
    exact ⟨8, rfl, fun h => (by cases h), HB.out⟩
  have t5 : decide (l.opn < l.acq) = false := decide_eq_false h5
  have G5 := Lib.hid (show l.acq ≤ l.opn by omega)
  clear h5
  go_wp2_with fail
  by_cases h6 : Can l.qty
  case neg =>
    refine (X1.out h6 _).mono ?_
    rintro e w1 ⟨rfl, rfl⟩
    clear h6
    go_wp2_with fail
    go_ret
    exact ⟨1, rfl, fun h => (by cases h), HB.out⟩
  refine (Y1.out h6 _).mono ?_
  rintro e w1 ⟨rfl, rfl⟩
  have G6 := Lib.hid h6
  clear h6 Y1 X1
  go_wp2_with fail
  by_cases h7 : Can l.cost
  case neg =>
    refine (X2.out h7 _).mono ?_
    rintro e w1 ⟨rfl, rfl⟩
    clear h7
    go_wp2_with fail
    go_ret
    exact ⟨1, rfl, fun h => (by cases h), HB.out⟩
  refine (Y2.out h7 _).mono ?_
  rintro e w1 ⟨rfl, rfl⟩
  have G7 := Lib.hid h7
  clear h7 Y2 X2
  go_wp2_with fail
  by_cases h8 : Can l.used
  case neg =>
    refine (X3.out h8 _).mono ?_
    rintro e w1 ⟨rfl, rfl⟩
    clear h8
    go_wp2_with fail
    go_ret
    exact ⟨1, rfl, fun h => (by cases h), HB.out⟩
  refine (Y3.out h8 _).mono ?_
  rintro e w1 ⟨rfl, rfl⟩
  have G8 := Lib.hid h8
  clear h8 Y3 X3
  go_wp2_with fail
  refine (S1.out _).mono ?_
  rintro e w1 ⟨rfl, rfl⟩
  by_cases h9 : 0 < vl l.qty
  case neg =>
    have t9 := cmpI_npos h9
    clear h9
    go_wp2_with fail
    go_ret
    exact ⟨2, rfl, fun h => (by cases h), HB.out⟩
  have t9 := cmpI_pos h9
  have G9 := Lib.hid h9
  clear h9
  go_wp2_with fail
  refine (S2.out _).mono ?_
  rintro e w1 ⟨rfl, rfl⟩
  by_cases h10 : vl l.cost < 0
  · have t10 := cmpI_neg h10
    clear h10
    go_wp2_with fail
    go_ret
    exact ⟨2, rfl, fun h => (by cases h), HB.out⟩
  have t10 := cmpI_nneg h10
  have G10 := Lib.hid (show 0 ≤ vl l.cost by omega)
  clear h10
  have e1 := bytes_eq l.used ⟨#[]⟩
  rw [show (⟨#[]⟩ : ByteArray).toList = [] from by rw [Lib.toList_data]] at e1
  have e2 := bytes_eq l.used l.qty
  by_cases h11 : l.used = ⟨#[]⟩
  · have G11 := Lib.hid h11
    rw [decide_eq_true h11] at e1
    clear h11 e2
    go_wp2_with fail
    go_ret
    exact ⟨0, rfl, fun _ => ⟨G1.out, G2.out, G3.out, G4.out, G5.out, G6.out, G7.out, G8.out, G9.out, G10.out, .inl G11.out⟩, HB.out⟩
  rw [decide_eq_false h11] at e1
  clear h11
  by_cases h12 : l.used = l.qty
  · have G12 := Lib.hid h12
    rw [decide_eq_true h12] at e2
    clear h12
    go_wp2_with fail
    go_ret
    exact ⟨0, rfl, fun _ => ⟨G1.out, G2.out, G3.out, G4.out, G5.out, G6.out, G7.out, G8.out, G9.out, G10.out, .inr G12.out⟩, HB.out⟩
  rw [decide_eq_false h12] at e2
  clear h12
  go_wp2_with fail
  go_ret
  exact ⟨2, rfl, fun h => (by cases h), HB.out⟩

/-- where the id stands first -/
def findR : List Lot → ByteArray → Nat → Nat × Bool
  | [], _, _ => (0, false)
  | l :: r, id, k => if l.id = id then (k, true) else findR r id (k + 1)
theorem findR_skip : ∀ (a b : List Lot) (id : ByteArray) (k : Nat), (∀ x ∈ a, x.id ≠ id) → findR (a ++ b) id k = findR b id (k + a.length)
  | [], b, id, k, _ => rfl
  | l :: r, b, id, k, h => by
    rw [List.cons_append, findR, if_neg (h l (List.mem_cons_self ..)), findR_skip r b id (k + 1) (fun x hx => h x (List.mem_cons_of_mem _ hx)), List.length_cons]
    congr 1
    omega
theorem findR_none {a : List Lot} {id : ByteArray} (h : ∀ x ∈ a, x.id ≠ id) (k : Nat) : findR a id k = (0, false) := by
  have := findR_skip a [] id k h
  rw [List.append_nil] at this
  rw [this]; rfl
theorem findR_false : ∀ (a : List Lot) (id : ByteArray) (k : Nat), (findR a id k).2 = false → ∀ x ∈ a, x.id ≠ id
  | [], _, _, _, _, hx => by cases hx
  | l :: r, id, k, h, x, hx => by
    rw [findR] at h
    by_cases e : l.id = id
    · rw [if_pos e] at h; cases h
    · rw [if_neg e] at h
      rcases List.mem_cons.1 hx with rfl | hx
      · exact e
      · exact findR_false r id (k + 1) h x hx
theorem findR_hit {ls : List Lot} {m k : Nat} {l : Lot} {id : ByteArray} (hk : k < m) (hm : m ≤ ls.length) (hs : ls.take (k + 1) = ls.take k ++ [l]) (hn : ∀ x ∈ ls.take k, x.id ≠ id) (h : l.id = id) : findR (ls.take m) id 0 = (k, true) := by
  have e : ls.take m = ls.take k ++ (l :: (ls.take m).drop (k + 1)) := by
    have := List.take_append_drop (k + 1) (ls.take m)
    rw [List.take_take, show min (k + 1) m = k + 1 by omega, hs] at this
    rw [List.append_assoc] at this
    exact this.symm
  rw [e, findR_skip _ _ _ _ hn, findR, if_pos h, List.length_take]
  congr 1
  omega
set_option maxHeartbeats 4000000 in
set_option maxRecDepth 100000 in
theorem rFind_any (A : Option Addr) (ls : List Lot) (m c : Nat) (hm : m ≤ ls.length) (hl : ls.length ≤ 1000000) (id : ByteArray) (w : World) (hR : RdL w A ls) :
    Calls Tryz.prog 81 #[.slice A m c, .string id] w fun e w' => e = .returned (.tuple #[.int .i64 ((findR (ls.take m) id 0).1 : Int), .bool (findR (ls.take m) id 0).2]) ∧ w = w' := by
  have HR := Lib.hid hR
  clear hR
  go_enter Tryz.func81, Tryz.ntmps81
  go_wp2_with fail
  go_loop [6] (fun v => ∃ k : Nat, v = .int .i64 (k : Int) ∧ k ≤ m ∧ ∀ x ∈ ls.take k, x.id ≠ id) (fun v => m - (intOf v).toNat)
  case atStart => exact ⟨0, rfl, by omega, fun x hx => by simp at hx⟩
  case round =>
    obtain ⟨k, rfl, hk, hx⟩ := hrel
    have HX := Lib.hid hx
    clear hx
    rcases Nat.lt_or_ge k m with hlt | hge
    · have hlt' : k < ls.length := by omega
      obtain ⟨l, hl'⟩ : ∃ l, ls[k]? = some l := ⟨_, List.getElem?_eq_getElem hlt'⟩
      obtain ⟨ad, rfl, had, hcell⟩ := HR.out (by intro e; rw [e] at hlt'; cases hlt')
      have hcx : decide ((k : Int) < (m : Int)) = true := by simp; omega
      obtain ⟨c0, c1, c2, c3, c4, c5, c6⟩ := hcell k l hl'
      have HSN : Hid (ls.take (k + 1) = ls.take k ++ [l]) := by
        rw [Hid, List.take_succ_eq_append_getElem hlt']
        congr 2
        rw [List.getElem?_eq_getElem hlt'] at hl'
        exact Option.some.inj hl'
      clear hcell hl'
      have e2 := bytes_eq l.id id
      by_cases h1 : l.id = id
      · rw [decide_eq_true h1] at e2
        have H1 := Lib.hid h1
        clear h1
        go_wp2_with fail
        go_ret2
        refine ⟨?_, rfl⟩
        rw [findR_hit hlt hm HSN.out HX.out H1.out]
        rfl
      · rw [decide_eq_false h1] at e2
        have H1 := Lib.hid h1
        clear h1
        go_wp2_with fail
        go_round
        case rel =>
          refine ⟨k + 1, by go_num, by omega, fun x hx => ?_⟩
          rw [HSN.out, List.mem_append] at hx
          rcases hx with hx | hx
          · exact HX.out x hx
          · rw [List.mem_singleton] at hx; subst hx; exact H1.out
        case measure => simp [intOf]; omega
    · have hcx : decide ((k : Int) < (m : Int)) = false := by simp; omega
      have hkm : k = m := by omega
      subst hkm
      go_wp2_with fail
      go_ret2
      refine ⟨?_, rfl⟩
      rw [findR_none HX.out]
      rfl
end Go.Proofs.YtpgjmdggblnfkaaGreatDoor
namespace Go.Proofs.YtpgjmdggblnfkaaGreatDoor
open Go.RowKit Tr Go.Shelf

theorem RdL.drewN {w : World} {A : Option Addr} {ls : List Lot} (h : RdL w A ls) (n : Nat) : RdL (w.drewN n) A ls := h.below (below_drewN (Below.refl _ _) n)
theorem take_snoc {α : Type} {ls : List α} {k : Nat} {l : α} (h : ls[k]? = some l) : ls.take (k + 1) = ls.take k ++ [l] := by
  obtain ⟨hlt, he⟩ := List.getElem?_eq_some_iff.1 h
  rw [List.take_succ_eq_append_getElem hlt, he]

set_option maxHeartbeats 4000000 in
set_option maxRecDepth 100000 in
theorem rGreat19_any (A : Option Addr) (ls : List Lot) (c : Nat) (hlm : ls.length ≤ 9223372036854775807) (w : World) (hR : RdL w A ls) :
    Calls Tryz.prog 66 #[.slice A ls.length c] w (GreatPost w ((ls.length ≤ 12 ∨ 999 ≤ ls.length) ∧ ∀ l ∈ ls, l.tiny)) := by
  have HR := Lib.hid hR
  clear hR
  by_cases h1 : 12 < ls.length ∧ ls.length < 999
  · have t1 : decide ((12 : Int) < (ls.length : Int)) = true := decide_eq_true (by omega)
    have t2 : decide ((ls.length : Int) < 999) = true := decide_eq_true (by omega)
    clear h1
    go_enter Tryz.func66, Tryz.ntmps66
    go_wp2_with fail
    go_ret
    exact ⟨true, rfl, fun h => (by cases h), Below.refl _ _⟩
  by_cases h2 : 1002 < ls.length
  · have t1 : decide ((12 : Int) < (ls.length : Int)) = true := decide_eq_true (by omega)
    have t2 : decide ((ls.length : Int) < 999) = false := decide_eq_false (by omega)
    have t3 : decide ((1002 : Int) < (ls.length : Int)) = true := decide_eq_true (by omega)
    clear h1 h2
    go_enter Tryz.func66, Tryz.ntmps66
    go_wp2_with fail
    go_ret
    exact ⟨true, rfl, fun h => (by cases h), Below.refl _ _⟩
  have H1 := Lib.hid (show (ls.length ≤ 12 ∨ 999 ≤ ls.length) by omega)
  have t3 : decide ((1002 : Int) < (ls.length : Int)) = false := decide_eq_false (by omega)
  have hlz : ls.length ≤ 1002 := by omega
  rcases Classical.em (12 < ls.length) with h3 | h3
  · have t1 : decide ((12 : Int) < (ls.length : Int)) = true := decide_eq_true (by omega)
    have t2 : decide ((ls.length : Int) < 999) = false := decide_eq_false (by omega)
    clear h1 h2 hlm h3
    go_enter Tryz.func66, Tryz.ntmps66
    go_wp2_with fail
    go_loopw [3] (fun v wr => ∃ k : Nat, v = .int .i64 (k : Int) ∧ k ≤ ls.length ∧ (∀ l ∈ ls.take k, l.tiny) ∧ Below w.heap.size w wr) (fun v _ => ls.length - (intOf v).toNat)
    case atStart => exact ⟨0, rfl, by omega, fun l hl => by simp at hl, Below.refl _ _⟩
    case round =>
      obtain ⟨k, rfl, hk, hti, hb⟩ := hrel
      have HTI := Lib.hid hti
      have HB := Lib.hid hb
      clear hti hb
      rcases Nat.lt_or_ge k ls.length with hlt | hge
      · obtain ⟨l, hl⟩ : ∃ l, ls[k]? = some l := ⟨_, List.getElem?_eq_getElem hlt⟩
        obtain ⟨ad, rfl, had, hcell⟩ := HR.out (by intro e; rw [e] at hlt; cases hlt)
        have hcx : decide ((k : Int) < (ls.length : Int)) = true := by simp; omega
        obtain ⟨c0, c1, c2, c3, c4, c5, c6⟩ := (hcell k l hl).below HB.out (by rw [add_block]; exact had)
        have HSN := Lib.hid (take_snoc hl)
        clear hcell hl
        go_wp2_with fail
        refine (rGreatOne_any l _).mono ?_
        rintro e w1 ⟨g, rfl, hg, b1⟩
        have HB1 := Lib.hid (HB.out.trans (b1.mono HB.out.size))
        clear b1 c0 c1 c2 c3 c4 c5 c6
        cases g
        · have HG := Lib.hid (hg rfl)
          clear hg
          go_wp2_with fail
          go_roundw
          case rel =>
            refine ⟨k + 1, by go_num, by omega, fun x hx => ?_, HB1.out⟩
            rw [HSN.out, List.mem_append] at hx
            rcases hx with hx | hx
            · exact HTI.out x hx
            · rw [List.mem_singleton] at hx; subst hx; exact HG.out
          case measure => simp [intOf]; omega
        · go_wp2_with fail
          go_ret
          exact ⟨true, rfl, fun h => (by cases h), HB1.out⟩
      · have hcx : decide ((k : Int) < (ls.length : Int)) = false := by simp; omega
        go_wp2_with fail
        go_ret
        refine ⟨false, rfl, fun _ => ⟨H1.out, fun l hl => HTI.out l ?_⟩, HB.out⟩
        rw [List.take_of_length_le (by omega)]
        exact hl
  · have t1 : decide ((12 : Int) < (ls.length : Int)) = false := decide_eq_false (by omega)
    clear h1 h2 hlm h3
    go_enter Tryz.func66, Tryz.ntmps66
    go_wp2_with fail
    go_loopw [3] (fun v wr => ∃ k : Nat, v = .int .i64 (k : Int) ∧ k ≤ ls.length ∧ (∀ l ∈ ls.take k, l.tiny) ∧ Below w.heap.size w wr) (fun v _ => ls.length - (intOf v).toNat)
    case atStart => exact ⟨0, rfl, by omega, fun l hl => by simp at hl, Below.refl _ _⟩
    case round =>
      obtain ⟨k, rfl, hk, hti, hb⟩ := hrel
      have HTI := Lib.hid hti
      have HB := Lib.hid hb
      clear hti hb
      rcases Nat.lt_or_ge k ls.length with hlt | hge
      · obtain ⟨l, hl⟩ : ∃ l, ls[k]? = some l := ⟨_, List.getElem?_eq_getElem hlt⟩
        obtain ⟨ad, rfl, had, hcell⟩ := HR.out (by intro e; rw [e] at hlt; cases hlt)
        have hcx : decide ((k : Int) < (ls.length : Int)) = true := by simp; omega
        obtain ⟨c0, c1, c2, c3, c4, c5, c6⟩ := (hcell k l hl).below HB.out (by rw [add_block]; exact had)
        have HSN := Lib.hid (take_snoc hl)
        clear hcell hl
        go_wp2_with fail
        refine (rGreatOne_any l _).mono ?_
        rintro e w1 ⟨g, rfl, hg, b1⟩
        have HB1 := Lib.hid (HB.out.trans (b1.mono HB.out.size))
        clear b1 c0 c1 c2 c3 c4 c5 c6
        cases g
        · have HG := Lib.hid (hg rfl)
          clear hg
          go_wp2_with fail
          go_roundw
          case rel =>
            refine ⟨k + 1, by go_num, by omega, fun x hx => ?_, HB1.out⟩
            rw [HSN.out, List.mem_append] at hx
            rcases hx with hx | hx
            · exact HTI.out x hx
            · rw [List.mem_singleton] at hx; subst hx; exact HG.out
          case measure => simp [intOf]; omega
        · go_wp2_with fail
          go_ret
          exact ⟨true, rfl, fun h => (by cases h), HB1.out⟩
      · have hcx : decide ((k : Int) < (ls.length : Int)) = false := by simp; omega
        go_wp2_with fail
        go_ret
        refine ⟨false, rfl, fun _ => ⟨H1.out, fun l hl => HTI.out l ?_⟩, HB.out⟩
        rw [List.take_of_length_le (by omega)]
        exact hl

set_option maxHeartbeats 4000000 in
set_option maxRecDepth 100000 in
theorem rCheckAll19_any (A : Option Addr) (ls : List Lot) (c : Nat) (hcap : ls.length ≤ c) (hl12 : ls.length ≤ 12) (hti : ∀ l ∈ ls, l.tiny) (w : World) (hR : RdL w A ls) :
    Calls Tryz.prog 37 #[.slice A ls.length c] w (ZeroPost w (LotsOk ls)) := by
  have HR := Lib.hid hR
  have HTI := Lib.hid hti
  clear hR hti
  have t0 : decide ((1000 : Int) < (ls.length : Int)) = false := decide_eq_false (by omega)
  go_enter Tryz.func37, Tryz.ntmps37
  go_wp2_with fail
  go_loopw [3, 4, 5, 6, 24] (fun v _ _ _ _ wr => ∃ k : Nat, v = .int .i64 (k : Int) ∧ k ≤ ls.length ∧ (∀ l ∈ ls.take k, l.ok) ∧ ((ls.take k).map Lot.id).Nodup ∧ Below w.heap.size w wr) (fun v _ _ _ _ _ => ls.length - (intOf v).toNat)
  case atStart => exact ⟨0, rfl, by omega, fun l hl => by simp at hl, by simp, Below.refl _ _⟩
  case round =>
    obtain ⟨k, rfl, hk, hok, hnd, hb⟩ := hrel
    have HOK := Lib.hid hok
    have HND := Lib.hid hnd
    have HB := Lib.hid hb
    clear hok hnd hb
    rcases Nat.lt_or_ge k ls.length with hlt | hge
    · obtain ⟨l, hl⟩ : ∃ l, ls[k]? = some l := ⟨_, List.getElem?_eq_getElem hlt⟩
      have HR2 := Lib.hid HR.out
      obtain ⟨ad, rfl, had, hcell⟩ := HR.out (by intro e; rw [e] at hlt; cases hlt)
      have hcx : decide ((k : Int) < (ls.length : Int)) = true := by simp; omega
      have HCE := Lib.hid (hcell k l hl)
      have HAD := Lib.hid had
      obtain ⟨c0, c1, c2, c3, c4, c5, c6⟩ := (hcell k l hl).below HB.out (by rw [add_block]; exact had)
      have HSN := Lib.hid (take_snoc hl)
      have hlt1 := HTI.out l (List.mem_of_getElem? hl)
      have HC := Lib.hid (fun W => rCheck19_any l hlt1 W)
      clear hcell hl hlt1 had
      go_wp2_with fail
      refine (HC.out _).mono ?_
      rintro e w1 ⟨n, rfl, hn, b1⟩
      have HB1 := Lib.hid (HB.out.trans (b1.mono HB.out.size))
      clear b1 c0 c1 c2 c3 c4 c5 c6
      by_cases h0 : n = 0
      case neg =>
        have t1 : (n == 0) = false := beq_eq_false_iff_ne.2 h0
        have t2 : (n != 0) = true := by simp [bne, t1]
        have H0 := Lib.hid h0
        clear h0 hn
        go_wp2_with fail
        go_ret
        exact ⟨n, rfl, fun h => absurd h H0.out, HB1.out⟩
      have HG := Lib.hid (hn h0)
      clear hn
      subst h0
      obtain ⟨c0, c1, c2, c3, c4, c5, c6⟩ := HCE.out.below HB1.out (by rw [add_block]; exact HAD.out)
      have HF := Lib.hid (fun n => q_same (rFind_any (some ad) ls k c (by omega) (by omega) l.id (w1.drewN n) ((HR2.out.below HB1.out).drewN n)))
      have HFF := Lib.hid (findR_false (ls.take k) l.id 0)
      clear HC
      go_wp2_with fail
      generalize findR (ls.take k) l.id 0 = fr at HF HFF
      obtain ⟨fn, fb⟩ := fr
      go_quiet ((go_at_call 81; exact HF.out _))
      cases fb
      · have HNE := Lib.hid (HFF.out rfl)
        go_wp2_with fail
        go_roundw
        case rel =>
          refine ⟨k + 1, by go_num, by omega, ?_, ?_, below_drewN HB1.out _⟩
          · intro x hx
            rw [HSN.out, List.mem_append] at hx
            rcases hx with hx | hx
            · exact HOK.out x hx
            · rw [List.mem_singleton] at hx; subst hx; exact HG.out
          · rw [HSN.out, List.map_append, List.map_cons, List.map_nil]
            refine List.nodup_append.2 ⟨HND.out, by simp, ?_⟩
            intro a ha b hb
            obtain ⟨x, hx, rfl⟩ := List.mem_map.1 ha
            rw [List.mem_singleton] at hb
            subst hb
            exact HNE.out x hx
        case measure => simp [intOf]; omega
      · go_wp2_with fail
        go_ret
        exact ⟨5, rfl, fun h => (by cases h), below_drewN HB1.out _⟩
    · have hcx : decide ((k : Int) < (ls.length : Int)) = false := by simp; omega
      have hkm : k = ls.length := by omega
      subst hkm
      go_wp2_with fail
      go_ret
      refine ⟨0, rfl, fun _ => ?_, HB.out⟩
      have h1 := HOK.out
      have h2 := HND.out
      rw [List.take_of_length_le (Nat.le_refl _)] at h1 h2
      exact ⟨by omega, fun l hl => ⟨(HTI.out l hl).sized, h1 l hl⟩, h2⟩


set_option maxHeartbeats 2000000 in
theorem great39_any (i : Inst) (A : Option Addr) (ls : List Lot) (c : Nat) (hlm : ls.length ≤ 9223372036854775807) (w : World) (hR : RdL w A ls) : Calls Tryz.prog 27 #[i.enc, .slice A ls.length c] w (GreatPost w (i.tiny ∧ ls.length ≤ 12 ∧ ∀ l ∈ ls, l.tiny)) := by
  have HR := Lib.hid hR
  obtain ⟨W0, hW0, hB0, hz, hk⟩ := ibox i w
  have c0 := Lib.cell_of_heap hk 0
  have c1 := Lib.cell_of_heap hk 1
  have c2 := Lib.cell_of_heap hk 2
  have c3 := Lib.cell_of_heap hk 3
  have c4 := Lib.cell_of_heap hk 4
  have c5 := Lib.cell_of_heap hk 5
  have c6 := Lib.cell_of_heap hk 6
  have c7 := Lib.cell_of_heap hk 7
  have c8 := Lib.cell_of_heap hk 8
  have c9 := Lib.cell_of_heap hk 9
  have c10 := Lib.cell_of_heap hk 10
  have c11 := Lib.cell_of_heap hk 11
  have c12 := Lib.cell_of_heap hk 12
  have c13 := Lib.cell_of_heap hk 13
  have c14 := Lib.cell_of_heap hk 14
  simp at c0 c1 c2 c3 c4 c5 c6 c7 c8 c9 c10 c11 c12 c13 c14
  have HB := Lib.hid hB0
  clear hB0 hz hk hR
  go_enter Tryz.func27, Tryz.ntmps27
  go_wp2_with fail
  refine (rGreat11_any i _).mono ?_
  rintro e w1 ⟨g, rfl, hg, b1⟩
  have HG := Lib.hid hg
  have HB1 := Lib.hid (HB.out.trans (b1.mono HB.out.size))
  clear hg b1 HB hW0 c0 c1 c2 c3 c4 c5 c6 c7 c8 c9 c10 c11 c12 c13 c14
  cases g
  · go_wp2_with fail
    refine (rGreat19_any A ls c hlm _ (HR.out.below HB1.out)).mono ?_
    rintro e w2 ⟨g2, rfl, hg2, b2⟩
    have HG2 := Lib.hid hg2
    have HB2 := Lib.hid (HB1.out.trans (b2.mono HB1.out.size))
    clear hg2 b2 HB1
    cases g2
    · by_cases h12 : 12 < ls.length
      · have t1 : decide ((12 : Int) < (ls.length : Int)) = true := decide_eq_true (by omega)
        clear h12
        go_wp2_with fail
        go_ret
        exact ⟨true, rfl, fun h => (by cases h), HB2.out⟩
      · have t1 : decide ((12 : Int) < (ls.length : Int)) = false := decide_eq_false (by omega)
        have H12 := Lib.hid (show ls.length ≤ 12 by omega)
        clear h12
        go_wp2_with fail
        go_ret
        exact ⟨false, rfl, fun _ => ⟨HG.out trivial, H12.out, (HG2.out trivial).2⟩, HB2.out⟩
    · go_wp2_with fail
      go_ret
      exact ⟨true, rfl, fun h => (by cases h), HB2.out⟩
  · go_wp2_with fail
    go_ret
    exact ⟨true, rfl, fun h => (by cases h), HB1.out⟩

set_option maxHeartbeats 4000000 in
theorem fine39_any (i : Inst) (A : Option Addr) (ls : List Lot) (c : Nat) (hcap : ls.length ≤ c) (hlm : ls.length ≤ 9223372036854775807) (d : Int) (w : World) (hR : RdL w A ls) :
    Calls Tryz.prog 7 #[i.enc, .slice A ls.length c, .int .i64 d] w (FinePost w (i.tiny ∧ i.ok ∧ okDay d ∧ ls.length ≤ 12 ∧ (∀ l ∈ ls, l.tiny) ∧ LotsOk ls)) := by
  have HR := Lib.hid hR
  obtain ⟨W0, hW0, hB0, hz, hk⟩ := ibox i w
  have HK := Lib.hid hk
  have c0 := Lib.cell_of_heap hk 0
  have c1 := Lib.cell_of_heap hk 1
  have c2 := Lib.cell_of_heap hk 2
  have c3 := Lib.cell_of_heap hk 3
  have c4 := Lib.cell_of_heap hk 4
  have c5 := Lib.cell_of_heap hk 5
  have c6 := Lib.cell_of_heap hk 6
  have c7 := Lib.cell_of_heap hk 7
  have c8 := Lib.cell_of_heap hk 8
  have c9 := Lib.cell_of_heap hk 9
  have c10 := Lib.cell_of_heap hk 10
  have c11 := Lib.cell_of_heap hk 11
  have c12 := Lib.cell_of_heap hk 12
  have c13 := Lib.cell_of_heap hk 13
  have c14 := Lib.cell_of_heap hk 14
  simp at c0 c1 c2 c3 c4 c5 c6 c7 c8 c9 c10 c11 c12 c13 c14
  have HB := Lib.hid hB0
  clear hB0 hz hk hR
  go_enter Tryz.func7, Tryz.ntmps7
  go_wp2_with fail
  refine (great39_any i A ls c hlm _ (HR.out.below HB.out)).mono ?_
  rintro e w1 ⟨g, rfl, hg, b1⟩
  have HG := Lib.hid hg
  have HB1 := Lib.hid (HB.out.trans (b1.mono HB.out.size))
  have hk := (b1.block _ (Array.getElem?_eq_some_iff.1 HK.out).1).trans HK.out
  clear hg b1 HB hW0 c0 c1 c2 c3 c4 c5 c6 c7 c8 c9 c10 c11 c12 c13 c14 HK
  have c0 := Lib.cell_of_heap hk 0
  have c1 := Lib.cell_of_heap hk 1
  have c2 := Lib.cell_of_heap hk 2
  have c3 := Lib.cell_of_heap hk 3
  have c4 := Lib.cell_of_heap hk 4
  have c5 := Lib.cell_of_heap hk 5
  have c6 := Lib.cell_of_heap hk 6
  have c7 := Lib.cell_of_heap hk 7
  have c8 := Lib.cell_of_heap hk 8
  have c9 := Lib.cell_of_heap hk 9
  have c10 := Lib.cell_of_heap hk 10
  have c11 := Lib.cell_of_heap hk 11
  have c12 := Lib.cell_of_heap hk 12
  have c13 := Lib.cell_of_heap hk 13
  have c14 := Lib.cell_of_heap hk 14
  simp at c0 c1 c2 c3 c4 c5 c6 c7 c8 c9 c10 c11 c12 c13 c14
  clear hk
  cases g
  · have HT := Lib.hid (HG.out rfl)
    go_wp2_with fail
    refine (rCheck10_any i HT.out.1 _).mono ?_
    rintro e w2 ⟨n, rfl, hn, b2⟩
    have HN := Lib.hid hn
    have HB2 := Lib.hid (HB1.out.trans (b2.mono HB1.out.size))
    clear hn b2 HB1 c0 c1 c2 c3 c4 c5 c6 c7 c8 c9 c10 c11 c12 c13 c14
    by_cases h0 : n = 0
    · have HO := Lib.hid (HN.out.1 h0)
      subst h0
      go_wp2_with fail
      refine (rCheckAll19_any A ls c hcap HT.out.2.1 HT.out.2.2 _ (HR.out.below HB2.out)).mono ?_
      rintro e w3 ⟨m, rfl, hm, b3⟩
      have HM := Lib.hid hm
      have HB3 := Lib.hid (HB2.out.trans (b3.mono HB2.out.size))
      clear hm b3 HB2
      by_cases hm0 : m = 0
      case neg =>
        have t0 : (m == 0) = false := beq_eq_false_iff_ne.2 hm0
        clear hm0
        go_wp2_with fail
        go_ret
        exact ⟨false, rfl, fun h => (by cases h), HB3.out⟩
      have HLO := Lib.hid (HM.out hm0)
      subst hm0
      by_cases h1 : -25567 ≤ d
      · by_cases h2 : d ≤ 84005
        · have t1 : decide (-25567 ≤ d) = true := decide_eq_true h1
          have t2 : decide (d ≤ 84005) = true := decide_eq_true h2
          have H1 := Lib.hid h1
          have H2 := Lib.hid h2
          clear h1 h2
          go_wp2_with fail
          go_ret
          exact ⟨true, rfl, fun _ => ⟨HT.out.1, HO.out, ⟨H1.out, H2.out⟩, HT.out.2.1, HT.out.2.2, HLO.out⟩, HB3.out⟩
        · have t1 : decide (-25567 ≤ d) = true := decide_eq_true h1
          have t2 : decide (d ≤ 84005) = false := decide_eq_false h2
          clear h1 h2
          go_wp2_with fail
          go_ret
          exact ⟨false, rfl, fun h => (by cases h), HB3.out⟩
      · have t1 : decide (-25567 ≤ d) = false := decide_eq_false h1
        clear h1
        go_wp2_with fail
        go_ret
        exact ⟨false, rfl, fun h => (by cases h), HB3.out⟩
    · have t0 : (n == 0) = false := beq_eq_false_iff_ne.2 h0
      clear h0
      go_wp2_with fail
      go_ret
      exact ⟨false, rfl, fun h => (by cases h), HB2.out⟩
  · go_wp2_with fail
    go_ret
    exact ⟨false, rfl, fun h => (by cases h), HB1.out⟩
end Go.Proofs.YtpgjmdggblnfkaaGreatDoor
