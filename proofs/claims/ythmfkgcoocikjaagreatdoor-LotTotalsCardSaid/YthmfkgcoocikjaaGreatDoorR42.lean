/-
  The walks of trancheref01.order, plus, minus.
-/
import Derived.Test.YthmfkgcoocikjaaGreatDoorP18
import Derived.Test.YthmfkgcoocikjaaGreatDoorP02
import Derived.Test.YthmfkgcoocikjaaGreatDoorP06
set_option linter.unusedVariables false
set_option linter.unusedSimpArgs false
namespace Go.Proofs.YthmfkgcoocikjaaGreatDoor
open Go.RowKit Tr Go.Shelf

set_option maxHeartbeats 1000000 in
theorem rorder_any (A A' : Option Addr) (l m : List Nat) (c c' : Nat) (w : World) (b1 : l.length ≤ 1073741824) (b2 : m.length ≤ 1073741824)
    (hl : Dig l) (hm : Dig m) (nl : Norm l) (nm : Norm m) (hr : RdN w A l) (hr' : RdN w A' m) :
    Calls Tryz.prog 127 #[.slice A l.length c, .slice A' m.length c'] w (CmpPost w (mval l) (mval m)) := by
  have HR := Lib.hid hr
  have HR' := Lib.hid hr'
  have HL := Lib.hid hl
  have HM := Lib.hid hm
  by_cases hlen : l.length = m.length
  · have hne : (l.length != m.length) = false := by simp [hlen]
    have hne' : ((l.length : Int) != (m.length : Int)) = false := by simp [hlen]
    have HLEN := Lib.hid hlen
    clear hlen hr hr' nl nm hl hm
    go_enter Tryz.func127, Tryz.ntmps127
    go_wp2_with fail
    go_loopw [5] (fun i wr => ∃ k : Nat, k ≤ l.length ∧ i = .int .i64 ((k : Int) - 1) ∧ Hid (l.drop k = m.drop k) ∧ ∃ q, wr = w.drewN q) (fun i _ => (intOf i + 1).toNat)
    case atStart => exact ⟨l.length, Nat.le_refl _, rfl, by simp [Hid, HLEN.out], 0, rfl⟩
    case round =>
      obtain ⟨k, hk, rfl, HD, q, rfl⟩ := hrel
      rcases Nat.eq_zero_or_pos k with h0 | h0
      · subst h0
        go_wp2_with fail
        go_ret
        refine ⟨0, rfl, ?_, q, rfl⟩
        have h := HD.out
        simp only [List.drop_zero] at h
        subst h
        exact ⟨by omega, by omega, by omega, by omega⟩
      · obtain ⟨j, rfl⟩ : ∃ j, k = j + 1 := ⟨k - 1, by omega⟩
        obtain ⟨ad, rfl, _, hcell⟩ := HR.out (by rintro rfl; simp at hk)
        have hlen := HLEN.out
        obtain ⟨ad', rfl, _, hcell'⟩ := HR'.out (by rintro rfl; simp only [List.length_nil] at hlen; omega)
        have hcj := hcell j (by omega)
        have hcj' := hcell' j (by omega)
        have b3 : j < m.length := by omega
        clear hcell hcell' HR HR' hlen
        have hi : ((j + 1 : Nat) : Int) - 1 = (j : Int) := by omega
        rw [hi]
        rcases Nat.lt_trichotomy (gt l j) (gt m j) with ht | ht | ht
        · have h1 : decide (gt l j < gt m j) = true := by simp; omega
          go_wp2_with fail
          go_quiet (fail)
          go_wp2_with fail
          go_ret
          refine ⟨-1, rfl, ?_, _, World.drewN_drewN _ _ _⟩
          have := mval_lt_of_top (HL.out) j (by omega) HLEN.out HD.out ht
          exact ⟨by omega, by omega, by omega, by omega⟩
        · have h1 : decide (gt l j < gt m j) = false := by simp; omega
          have h2 : decide (gt m j < gt l j) = false := by simp; omega
          have HT := Lib.hid ht
          clear ht
          go_wp2_with fail
          go_quiet (fail)
          go_wp2_with fail
          go_quiet (fail)
          go_wp2_with fail
          go_roundw
          case rel => exact ⟨j, by omega, by go_num, by have := HLEN.out; exact drop_step (by omega) this HD.out HT.out, _, rfl⟩
          case measure => simp [intOf]
        · have h1 : decide (gt l j < gt m j) = false := by simp; omega
          have h2 : decide (gt m j < gt l j) = true := by simp; omega
          go_wp2_with fail
          go_quiet (fail)
          go_wp2_with fail
          go_quiet (fail)
          go_wp2_with fail
          go_ret
          refine ⟨1, rfl, ?_, _, by rw [World.drewN_drewN, World.drewN_drewN]⟩
          have hlen := HLEN.out
          have := mval_lt_of_top (HM.out) j (by omega) HLEN.out.symm HD.out.symm ht
          exact ⟨by omega, by omega, by omega, by omega⟩
  · have hne : (l.length != m.length) = true := by simp [hlen]
    have hne' : ((l.length : Int) != (m.length : Int)) = true := by simp; omega
    have HS := Lib.hid (sgn_len hl hm nl nm hlen b1 b2)
    rcases Nat.lt_or_ge l.length m.length with h1 | h1
    · have t1 : decide ((l.length : Int) < (m.length : Int)) = true := decide_eq_true (by omega)
      have t2 : decide (l.length < m.length) = true := decide_eq_true h1
      have H := Lib.hid h1
      clear hlen hr hr' nl nm hl hm h1
      go_enter Tryz.func127, Tryz.ntmps127
      go_wp2_with fail
      go_ret
      refine ⟨-1, rfl, ?_, 0, rfl⟩
      have := HS.out
      have := H.out
      unfold Sgn at *
      exact ⟨by omega, by omega, by omega, by omega⟩
    · have t1 : decide ((l.length : Int) < (m.length : Int)) = false := decide_eq_false (by omega)
      have t2 : decide (l.length < m.length) = false := decide_eq_false (by omega)
      have H := Lib.hid (show m.length < l.length by omega)
      clear hlen hr hr' nl nm hl hm h1
      go_enter Tryz.func127, Tryz.ntmps127
      go_wp2_with fail
      go_ret
      refine ⟨1, rfl, ?_, 0, rfl⟩
      have := HS.out
      have := H.out
      unfold Sgn at *
      exact ⟨by omega, by omega, by omega, by omega⟩

theorem row_new (w : World) (cs : Array Value) (t : TypeId) : ∀ j u, cs.toList[j]? = some u → (w.alloc (.cells cs t)).cell? ((⟨w.heap.size, 0, none⟩ : Addr).add j) = some u := by
  intro j u hj
  have h := heap_alloc_new w (.cells cs t)
  have e : (⟨w.heap.size, 0, none⟩ : Addr).add j = ⟨w.heap.size, j, none⟩ := by unfold Addr.add; split <;> simp_all
  rw [e, Lib.cell_of_heap h j]
  simpa using hj
/-- the sum, trimmed -/
def RSum (l n r : List Nat) : Prop := Dig r ∧ Norm r ∧ mval r = mval l + mval n ∧ r.length ≤ max l.length n.length + 1
theorem PlusR.full {l m : List Nat} {k : Nat} {p : List Nat} (h : PlusR l m k p 0) (h1 : l.length ≤ k) (h2 : m.length ≤ k) : mval p = mval l + mval m := by
  have h3 := h.2.2
  rw [List.take_of_length_le h1, List.take_of_length_le h2] at h3
  omega
theorem Dig.cutz {l : List Nat} (h : Dig l) : Dig (cutz l) := by rw [cutz_is_take]; exact h.take _
theorem own_empty (w : World) : (w.alloc (.cells #[] 3)).ownsRow w.heap.size 3 1 (.slice (some ⟨w.heap.size, 0, none⟩) 0 0) 0 (([] : List Nat).map V) :=
  ⟨rfl, .inr ⟨w.heap.size, 0, #[], rfl, Nat.le_refl _, heap_alloc_new w _, Nat.le_refl _, by unfold maxLen; omega, rfl, rfl⟩⟩
theorem own_some {W : World} {b n : Nat} {v : Value} {xs : List Value} (h : W.ownsRow b 3 1 v n xs) (hn : n ≠ 0) : ∃ ad c, v = .slice (some ad) n c := by
  rcases h.2 with ⟨h', h0⟩ | ⟨g', cap', cur, h', _⟩
  · exact absurd h0 hn
  · exact ⟨_, _, h'⟩
theorem own_fresh {W : World} {b n c : Nat} {A : Option Addr} {xs : List Value} (h : W.ownsRow b 3 1 (.slice A n c) n xs) : ∀ ad : Addr, A = some ad → b ≤ ad.block := by
  rcases h.2 with ⟨h', h0⟩ | ⟨g', cap', cur, h', hb, _⟩
  · injection h' with e1 e2 e3; subst e1; intro ad e; cases e
  · injection h' with e1 e2 e3; subst e1; intro ad e; injection e with e; subst e; exact hb
/-- a new slice of groups -/
def OwnFPost (w : World) (P : List Nat → Prop) (e : Ending) (w' : World) : Prop :=
  ∃ (ad : Addr) (r : List Nat) (c : Nat), e = .returned (.slice (some ad) r.length c) ∧ r.length ≤ c ∧ P r ∧ w.heap.size ≤ ad.block ∧ RdN w' (some ad) r ∧ Below w.heap.size w w'

set_option maxHeartbeats 4000000 in
set_option maxRecDepth 100000 in
theorem rplus_any (A A' : Option Addr) (l n : List Nat) (c c' : Nat) (w : World) (b1 : l.length ≤ 1000000) (b2 : n.length ≤ 1000000)
    (hc : l.length ≤ c) (hc' : n.length ≤ c') (hl : Dig l) (hn : Dig n) (hr : RdN w A l) (hr' : RdN w A' n) :
    Calls Tryz.prog 126 #[.slice A l.length c, .slice A' n.length c'] w (OwnFPost w (RSum l n)) := by
  have HR := Lib.hid hr
  have HR' := Lib.hid hr'
  have HL := Lib.hid hl
  have HN := Lib.hid hn
  obtain ⟨M, hM⟩ : ∃ M, M = max l.length n.length := ⟨_, rfl⟩
  have HM : Hid (l.length ≤ M ∧ n.length ≤ M ∧ M ≤ 1000000 ∧ M = max l.length n.length) := ⟨by omega, by omega, by omega, hM⟩
  clear hr hr' hl hn hM
  go_enter Tryz.func126, Tryz.ntmps126
  go_wp2_with fail
  have hO0 := own_empty w
  have hB0 : Below w.heap.size w (w.alloc (.cells #[] 3)) := (Below.refl _ _).alloc (Nat.le_refl _) _
  generalize w.alloc (.cells #[] 3) = w1 at hO0 hB0 ⊢
  go_loopw [5, 6, 7] (fun o cy i wr => ∃ (k q : Nat) (p : List Nat), (∃ ad co, o = .slice (some ad) k co) ∧ cy = .int .i64 (q : Int) ∧ i = .int .i64 (k : Int) ∧ q ≤ 1 ∧ k ≤ M + 1 ∧ (k = M + 1 → q = 0) ∧ PlusR l n k p q ∧ wr.ownsRow w.heap.size 3 1 o k (p.map V) ∧ Below w.heap.size w wr) (fun _ _ i _ => M + 2 - (intOf i).toNat)
  case atStart => exact ⟨0, 0, [], ⟨_, _, rfl⟩, rfl, rfl, by omega, by omega, fun h => by omega, ⟨rfl, Dig.nil, by simp [mval]⟩, hO0, hB0⟩
  case round =>
    obtain ⟨k, q, p, ⟨ao, co, rfl⟩, rfl, rfl, hq, hk, hkq, hp, hO, hB⟩ := hrel
    have HP := Lib.hid hp
    have HO := Lib.hid hO
    have HB := Lib.hid hB
    have HKQ := Lib.hid hkq
    clear hp hO hB hkq hO0 hB0
    have hm3 := HM.out.2.2.1
    by_cases hgo : k < l.length ∨ k < n.length ∨ 0 < q
    · have hkM : k ≤ M := by
        have := HM.out
        rcases Nat.lt_or_ge M k with h | h
        · have := HKQ.out (by omega); omega
        · exact h
      have HG1 := Lib.hid (fun W hW => rgroup_any A l c k W (by omega) (by omega) hc hW)
      have HG2 := Lib.hid (fun W hW => rgroup_any A' n c' k W (by omega) (by omega) hc' hW)
      have d1 := HL.out.get k
      change gt l k < _ at d1
      have d2 := HN.out.get k
      change gt n k < _ at d2
      have hst := HP.out.step HL.out HN.out hq
      rw [show gt l k + q + gt n k = gt l k + gt n k + q by omega] at hst
      have HST := Lib.hid hst
      have HQ0 : Hid (k = M → (gt l k + gt n k + q) / 1000000000 = 0) := fun e => by
        have h1 : gt l k = 0 := gt_beyond (by have := HM.out; omega)
        have h2 : gt n k = 0 := gt_beyond (by have := HM.out; omega)
        omega
      clear hst
      obtain ⟨T, hT⟩ : ∃ T, T = gt l k + gt n k + q := ⟨_, rfl⟩
      rw [← hT] at HST HQ0
      obtain ⟨x, hxT⟩ : ∃ x, x = T % 1000000000 := ⟨_, rfl⟩
      obtain ⟨y, hyT⟩ : ∃ y, y = T / 1000000000 := ⟨_, rfl⟩
      have HS : Hid (∀ W : World, ∀ j u, [Value.int .i64 (x : Int)][j]? = some u → (W.alloc (.cells #[.int .i64 (x : Int)] 3)).cell? ((⟨W.heap.size, 0, none⟩ : Addr).add j) = some u) := fun W => row_new W #[.int .i64 (x : Int)] 3
      obtain ⟨i0, hi, hz0, hz1, hz2⟩ := info_parts Tryz.info_int
      have hTT : (gt l k : Int) + (gt n k : Int) + (q : Int) = (T : Int) := by omega
      have hTB : T ≤ 2000000000 := by omega
      have hx : (T : Int) % 1000000000 = (x : Int) := by omega
      have hy : (T : Int) / 1000000000 = (y : Int) := by omega
      rw [← hxT, ← hyT] at HST
      rw [← hyT] at HQ0
      clear hT hxT hyT
      by_cases h1 : k < l.length
      · have t1 : decide ((k : Int) < (l.length : Int)) = true := decide_eq_true (by omega)
        have t1' : decide (k < l.length) = true := decide_eq_true h1
        clear hgo h1
        go_wp2_with fail
        refine (HG1.out _ (HR.out.below HB.out)).mono ?_
        rintro e wa ⟨rfl, rfl⟩
        go_wp2_with fail
        refine (HG2.out _ (HR'.out.below HB.out)).mono ?_
        rintro e wa ⟨rfl, rfl⟩
        go_upto_region 7 with fail
        clear d1 d2 hTT HG1 HG2
        go_wp2_with (at_builtin; refine wpList_append_own _ rfl _ _ 112 rfl w.heap.size 3 i0 (.int .i64 0) 1 8 Tryz.underlying112 hi hz0 hz1 hz2 rfl (by decide) _ _ _ rfl (HO.out.alloc _) ⟨wr.heap.size, 0, none⟩ 1 1 [.int .i64 (x : Int)] rfl rfl (HS.out wr) (by simp [Value.oneCell']) (by unfold maxLen; omega) (by omega) (by have := HB.out.size; simp; omega) ?_; intro v4 w4 hown4 hgrow4 _; have HO4 := Lib.hid hown4; have HG4 := Lib.hid hgrow4; clear hown4 hgrow4)
        go_roundw
        case rel =>
          have hlo := HO.out.lt
          have hg := HG4.out
          have hbs := HB.out.size
          refine ⟨k + 1, y, p ++ [x], own_some HO4.out (by omega), rfl, by go_num, HST.out.1, by omega, fun e => HQ0.out (by omega), HST.out.2, ?_, ?_⟩
          · rw [List.map_append]; exact HO4.out
          · exact (HB.out.alloc hbs _).grown hg (by simp; omega) (fun k hk => (hlo k hk).1)
        case measure => simp [intOf]; omega
      have t1 : decide ((k : Int) < (l.length : Int)) = false := decide_eq_false (by omega)
      have t1' : decide (k < l.length) = false := decide_eq_false h1
      by_cases h2 : k < n.length
      · have t2 : decide ((k : Int) < (n.length : Int)) = true := decide_eq_true (by omega)
        have t2' : decide (k < n.length) = true := decide_eq_true h2
        clear hgo h1 h2
        go_wp2_with fail
        refine (HG1.out _ (HR.out.below HB.out)).mono ?_
        rintro e wa ⟨rfl, rfl⟩
        go_wp2_with fail
        refine (HG2.out _ (HR'.out.below HB.out)).mono ?_
        rintro e wa ⟨rfl, rfl⟩
        go_upto_region 7 with fail
        clear d1 d2 hTT HG1 HG2
        go_wp2_with (at_builtin; refine wpList_append_own _ rfl _ _ 112 rfl w.heap.size 3 i0 (.int .i64 0) 1 8 Tryz.underlying112 hi hz0 hz1 hz2 rfl (by decide) _ _ _ rfl (HO.out.alloc _) ⟨wr.heap.size, 0, none⟩ 1 1 [.int .i64 (x : Int)] rfl rfl (HS.out wr) (by simp [Value.oneCell']) (by unfold maxLen; omega) (by omega) (by have := HB.out.size; simp; omega) ?_; intro v4 w4 hown4 hgrow4 _; have HO4 := Lib.hid hown4; have HG4 := Lib.hid hgrow4; clear hown4 hgrow4)
        go_roundw
        case rel =>
          have hlo := HO.out.lt
          have hg := HG4.out
          have hbs := HB.out.size
          refine ⟨k + 1, y, p ++ [x], own_some HO4.out (by omega), rfl, by go_num, HST.out.1, by omega, fun e => HQ0.out (by omega), HST.out.2, ?_, ?_⟩
          · rw [List.map_append]; exact HO4.out
          · exact (HB.out.alloc hbs _).grown hg (by simp; omega) (fun k hk => (hlo k hk).1)
        case measure => simp [intOf]; omega
      have t2 : decide ((k : Int) < (n.length : Int)) = false := decide_eq_false (by omega)
      have t2' : decide (k < n.length) = false := decide_eq_false h2
      have t3 : decide ((0 : Int) < (q : Int)) = true := decide_eq_true (by omega)
      have t3' : decide (0 < q) = true := decide_eq_true (by omega)
      clear hgo h1 h2
      go_wp2_with fail
      refine (HG1.out _ (HR.out.below HB.out)).mono ?_
      rintro e wa ⟨rfl, rfl⟩
      go_wp2_with fail
      refine (HG2.out _ (HR'.out.below HB.out)).mono ?_
      rintro e wa ⟨rfl, rfl⟩
      go_upto_region 7 with fail
      clear d1 d2 hTT HG1 HG2
      go_wp2_with (at_builtin; refine wpList_append_own _ rfl _ _ 112 rfl w.heap.size 3 i0 (.int .i64 0) 1 8 Tryz.underlying112 hi hz0 hz1 hz2 rfl (by decide) _ _ _ rfl (HO.out.alloc _) ⟨wr.heap.size, 0, none⟩ 1 1 [.int .i64 (x : Int)] rfl rfl (HS.out wr) (by simp [Value.oneCell']) (by unfold maxLen; omega) (by omega) (by have := HB.out.size; simp; omega) ?_; intro v4 w4 hown4 hgrow4 _; have HO4 := Lib.hid hown4; have HG4 := Lib.hid hgrow4; clear hown4 hgrow4)
      go_roundw
      case rel =>
        have hlo := HO.out.lt
        have hg := HG4.out
        have hbs := HB.out.size
        refine ⟨k + 1, y, p ++ [x], own_some HO4.out (by omega), rfl, by go_num, HST.out.1, by omega, fun e => HQ0.out (by omega), HST.out.2, ?_, ?_⟩
        · rw [List.map_append]; exact HO4.out
        · exact (HB.out.alloc hbs _).grown hg (by simp; omega) (fun k hk => (hlo k hk).1)
      case measure => simp [intOf]; omega
    · have t1 : decide ((k : Int) < (l.length : Int)) = false := decide_eq_false (by omega)
      have t1' : decide (k < l.length) = false := decide_eq_false (by omega)
      have t2 : decide ((k : Int) < (n.length : Int)) = false := decide_eq_false (by omega)
      have t2' : decide (k < n.length) = false := decide_eq_false (by omega)
      have hq0 : q = 0 := by omega
      subst hq0
      have hpl := HP.out.1
      have hRd := RdN.of_own HO.out
      have HRd := Lib.hid hRd
      have HV := Lib.hid (HP.out.full (by omega) (by omega))
      have HTR := Lib.hid (fun W hW => rtrim_any (some ao) p co W (by have := HM.out; omega) (by have := hRd.2.1; omega) hW)
      have HLE : Hid (p.length ≤ max l.length n.length + 1) := by have := HM.out; rw [Hid, hpl]; omega
      clear hgo hRd
      rw [hpl] at HTR
      go_wp2_with fail
      refine (HTR.out _ HRd.out.2.2).mono ?_
      rintro e wa ⟨rfl, rfl⟩
      go_wp2_with fail
      go_ret
      refine ⟨ao, Tr.cutz p, co, rfl, ?_, ⟨HP.out.2.1.cutz, norm_cutz p, by rw [mval_cutz]; exact HV.out, ?_⟩, own_fresh HO.out ao rfl, HRd.out.2.2.cutz, HB.out⟩
      · have := cutz_length_le p; have := HRd.out; omega
      · have := cutz_length_le p; have := HLE.out; omega
end Go.Proofs.YthmfkgcoocikjaaGreatDoor
