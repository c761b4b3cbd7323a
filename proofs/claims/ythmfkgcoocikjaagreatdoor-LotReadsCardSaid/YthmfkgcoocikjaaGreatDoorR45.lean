/-
  The walk of trancheref19.Positions. (Printed by gen_ref43.py.)
-/
import Derived.Test.YthmfkgcoocikjaaGreatDoorR44
import Derived.Sort.Walk0
import Derived.Deep.AppendLies
import Derived.ArgAppend
set_option linter.unusedVariables false
set_option linter.unusedSimpArgs false
namespace Go.Proofs.YthmfkgcoocikjaaGreatDoor
open Go.RowKit Tr Go.Shelf

theorem RdB.mono {n₀ n₁ : Nat} {w : World} {A : Option Addr} {ls : List SLot} (h : RdB n₀ w A ls) (hn : n₀ ≤ n₁) : RdB n₁ w A ls := by
  intro hl
  obtain ⟨ad, rfl, h1, h2⟩ := h hl
  exact ⟨ad, rfl, by omega, h2⟩
theorem flatP_len (ps : List Pos) : (flatP ps).length = ps.length * 3 := by
  induction ps with
  | nil => rfl
  | cons x r ih =>
    simp only [flatP, List.flatMap_cons, List.length_append, List.length_cons] at ih ⊢
    rw [ih]
    simp [Pos.cells]
    omega
theorem flatP_one (ps : List Pos) : ∀ u ∈ flatP ps, u.oneCell' = true := by
  intro u hu
  obtain ⟨x, _, hx⟩ := List.mem_flatMap.1 hu
  simp [Pos.cells] at hx
  rcases hx with rfl | rfl | rfl <;> rfl
theorem flatP_append (a b : List Pos) : flatP (a ++ b) = flatP a ++ flatP b := by simp [flatP]
/-- the slice that an append hands back -/
def PosV (base : Nat) (W : World) (p : Pos) (ps : List Pos) (j m : Nat) (v : Value) : Prop :=
  ∃ g2 c2, v = .slice (some ⟨g2, 0, none⟩) (j + (1 + (m - j))) c2 ∧ W.ownsRow base 53 3 (.slice (some ⟨g2, 0, none⟩) (j + (1 + (m - j))) c2) (j + (1 + (m - j))) (flatP (ps.take j) ++ (p.cells.toList ++ flatP (ps.drop j)))
theorem step_append_run {P : Program} {ops : Array Oper} {o : Oper} {a : Act} {K : Act → World → Prop} {Q : Exit → Act → World → Prop} {E : Prop} {t ty : TypeId} {sv xv v' : Value} {w w' : World} (hr : (Builtin.append_ #[t, t] ty #[sv, xv]).run P w = .ok v' w') (hgd : o.guard = none) (s x : Operand)
    (ho : o.op = .call { callee := .builtin .append, args := #[s, x], argTypes := #[t, t] }) (hty : o.type = ty) (hs : a.eval s = sv) (hx : a.eval x = xv) (h : K (a.put o.dst v') w') :
    if Region.wanted o (yielded ops a.tmps) = true then Oper.wp P o a w K Q else E := by
  subst hty
  have hw : Region.wanted o (yielded ops a.tmps) = true := by simp [Region.wanted, hgd]
  rw [if_pos hw]
  unfold Oper.wp execOp
  simp only [ho, resolve, invoke, builtin, Sem.run_bind, Sem.run_pure, Result.andThen_ok, List.map_toArray, List.map_cons, List.map_nil, hs, hx, hr]
  exact h
theorem papp_keep {w w' : World} {g : Nat} {xs : List Value} (hb : Below w.heap.size w w') (h : ∀ i u, xs[i]? = some u → w.cell? ((⟨g, 0, none⟩ : Addr).add i) = some u) : ∀ i u, xs[i]? = some u → w'.cell? ((⟨g, 0, none⟩ : Addr).add i) = some u := by
  intro i u hu
  have h1 := h i u hu
  exact (hb.cell (cell_lt h1)).trans h1
theorem papp1 (W : World) (Bn : Nat) (p : Pos) (hB : PosBox W Bn p) (a2 : Addr) (k c2 : Nat) (news : List Value) (hl : news.length = k * 3) (hn : ∀ i u, news[i]? = some u → W.cell? (a2.add i) = some u) (h1 : ∀ u ∈ news, u.oneCell' = true) (hk : k ≤ 100000) :
    ∃ g1 c1 w1, (Builtin.append_ #[31, 31] 31 #[.slice (some ⟨Bn, 0, none⟩) 1 1, .slice (some a2) k c2]).run Tryz.prog W = .ok (.slice (some ⟨g1, 0, none⟩) (1 + k) c1) w1 ∧ Below W.heap.size W w1 ∧ ∀ i u, (p.cells.toList ++ news)[i]? = some u → w1.cell? ((⟨g1, 0, none⟩ : Addr).add i) = some u := by
  obtain ⟨i0, hi0, hz0, hz1, hz2⟩ := info_parts Tryz.infoPos
  have hold : ∀ j u, p.cells.toList[j]? = some u → W.cell? ((⟨Bn, 0, none⟩ : Addr).add j) = some u := by
    intro j u hu
    rw [addr_add0, Lib.cell_of_heap hB j]
    simpa using hu
  by_cases h0 : k = 0
  · subst h0
    have : news = [] := List.eq_nil_of_length_eq_zero (by omega)
    subst this
    refine ⟨Bn, 1, W, ?_, Below.refl _ _, fun i u hu => hold i u (by simpa using hu)⟩
    have := run_append_room_cells (P := Tryz.prog) W 31 31 53 i0 Tryz.underlying31 hi0 Bn 0 1 1 a2 0 c2 [] (by simp) (fun j u h => by simp at h) (fun u h => by cases h) (by omega) (fun j h => by simp at h) (fun j h => by simp at h)
    rw [this]
    simp [World.setCells]
  · obtain ⟨v', w', hr, hown, hg⟩ := run_append_arg_grows (P := Tryz.prog) W 31 31 53 i0 _ 3 48 Tryz.underlying31 hi0 hz0 hz1 hz2 rfl (by decide) ⟨Bn, 0, none⟩ 1 1 p.cells.toList rfl hold a2 k c2 news hl hn (by omega) (by unfold maxLen; omega) (by omega)
    obtain ⟨g1, c1, rfl, _, _⟩ := hown.form (by omega)
    exact ⟨g1, c1, w', hr, (Below.refl _ W).grown hg (Nat.le_refl _) (fun k e => by cases e), hown.cells rfl⟩
theorem papp2 (base : Nat) (W : World) (g j : Nat) (olds : List Value) (hlo : olds.length = j * 3) (holds : ∀ i u, olds[i]? = some u → W.cell? ((⟨g, 0, none⟩ : Addr).add i) = some u) (a : Addr) (k c2 : Nat) (news : List Value) (hl : news.length = k * 3) (hn : ∀ i u, news[i]? = some u → W.cell? (a.add i) = some u) (hk : j + k ≤ 200000) (h0 : 0 < k) (hb : base ≤ W.heap.size) :
    ∃ v1 w1, (Builtin.append_ #[31, 31] 31 #[.slice (some ⟨g, 0, none⟩) j j, .slice (some a) k c2]).run Tryz.prog W = .ok v1 w1 ∧ (∃ g2 c3, v1 = .slice (some ⟨g2, 0, none⟩) (j + k) c3 ∧ w1.ownsRow base 53 3 (.slice (some ⟨g2, 0, none⟩) (j + k) c3) (j + k) (olds ++ news)) ∧ Below W.heap.size W w1 := by
  obtain ⟨i0, hi0, hz0, hz1, hz2⟩ := info_parts Tryz.infoPos
  obtain ⟨v', w', hr, hown, hg⟩ := run_append_arg_grows (P := Tryz.prog) W 31 31 53 i0 _ 3 48 Tryz.underlying31 hi0 hz0 hz1 hz2 rfl (by decide) ⟨g, 0, none⟩ j j olds hlo holds a k c2 news hl hn (by omega) (by unfold maxLen; omega) (by omega)
  obtain ⟨g2, c3, rfl, _, _⟩ := hown.form (by omega)
  exact ⟨_, w', hr, ⟨g2, c3, rfl, ownsRow_base_a hown hb⟩, (Below.refl _ W).grown hg (Nat.le_refl _) (fun k e => by cases e)⟩
theorem pslice1 (W : World) (g m c j : Nat) (hj : j ≤ c) : (Instr.sliceAt 31 (.slice (some ⟨g, 0, none⟩) m c) none (some (.int .i64 (j : Int))) (some (.int .i64 (j : Int)))).run Tryz.prog W = .ok (.slice (some ⟨g, 0, none⟩) j j) W := by
  have ht : Tryz.prog.underlying 31 = some (.slice (Tryz.prog.elem 31)) := by kernel_rfl
  have hz : (sizeOf (Tryz.prog.elem 31)).run Tryz.prog W = .ok 3 W := by kernel_rfl
  rw [run_sliceAt_slice W _ _ _ _ _ ht, run_slice_hm W _ _ _ _ ht .i64 .i64 _ _ (by omega) (by omega) (by omega), hz]
  simp [Result.andThen, sliced, addr_add0]
theorem pslice2 (W : World) (g m c j : Nat) (hj : j ≤ m) : (Instr.sliceAt 31 (.slice (some ⟨g, 0, none⟩) m c) (some (.int .i64 (j : Int))) none none).run Tryz.prog W = .ok (.slice (some (if c = j then ⟨g, 0, none⟩ else ⟨g, j * 3, none⟩)) (m - j) (c - j)) W := by
  have ht : Tryz.prog.underlying 31 = some (.slice (Tryz.prog.elem 31)) := by kernel_rfl
  have hz : (sizeOf (Tryz.prog.elem 31)).run Tryz.prog W = .ok 3 W := by kernel_rfl
  rw [run_sliceAt_slice W _ _ _ _ _ ht, run_slice_l W _ _ _ _ ht .i64 _ (by omega) (by omega), hz]
  simp [Result.andThen, sliced, addr_add0]
  split <;> rfl
/-- a name put in its place -/
theorem ins_asc {ns : List (List UInt8)} {b0 : List UInt8} {j : Nat} (ha : ns.Pairwise (· < ·)) (h1 : ∀ b ∈ ns.take j, b < b0) (h2 : ∀ b, ns[j]? = some b → b0 < b) : (ns.take j ++ b0 :: ns.drop j).Pairwise (· < ·) := by
  have ha' : (ns.take j ++ ns.drop j).Pairwise (· < ·) := by rw [List.take_append_drop]; exact ha
  obtain ⟨p1, p2, p3⟩ := List.pairwise_append.1 ha'
  have h3 : ∀ b ∈ ns.drop j, b0 < b := by
    intro b hb
    obtain ⟨i, hi, e⟩ := List.getElem_of_mem hb
    rw [List.getElem_drop] at e
    have hjl : j < ns.length := by rw [List.length_drop] at hi; omega
    have hj0 := h2 ns[j] (List.getElem?_eq_getElem hjl)
    by_cases h0 : i = 0
    · subst h0; simp at e; rw [← e]; exact hj0
    · have := List.pairwise_iff_getElem.1 ha j (j + i) hjl (by rw [List.length_drop] at hi; omega) (by omega)
      rw [e] at this
      exact List.lt_trans hj0 this
  refine List.pairwise_append.2 ⟨p1, List.pairwise_cons.2 ⟨h3, p2⟩, fun a ha b hb => ?_⟩
  rcases List.mem_cons.1 hb with rfl | hb
  · exact h1 a ha
  · exact p3 a ha b hb
theorem ins_mem {ns : List (List UInt8)} {b0 : List UInt8} {j : Nat} (b : List UInt8) : b ∈ ns.take j ++ b0 :: ns.drop j ↔ b = b0 ∨ b ∈ ns := by
  conv => rhs; rw [← List.take_append_drop j ns]
  simp only [List.mem_append, List.mem_cons]
  constructor
  · rintro (h | h | h)
    · exact .inr (.inl h)
    · exact .inl h
    · exact .inr (.inr h)
  · rintro (h | h | h)
    · exact .inr (.inl h)
    · exact .inl h
    · exact .inr (.inr h)
theorem ins_len {ns : List (List UInt8)} {b0 : List UInt8} {j : Nat} (hj : j ≤ ns.length) : (ns.take j ++ b0 :: ns.drop j).length = j + (1 + (ns.length - j)) := by simp; omega
theorem ins_flat {ls : List SLot} {ns : List (List UInt8)} {s : ByteArray} {j : Nat} : flatP ((ns.take j ++ s.data.toList :: ns.drop j).map fun b => posOf ls (bs b)) = flatP ((ns.map fun b => posOf ls (bs b)).take j) ++ ((posOf ls s).cells.toList ++ flatP ((ns.map fun b => posOf ls (bs b)).drop j)) := by
  rw [List.map_append, List.map_cons, flatP_append, List.map_take, List.map_drop, bs_of]
  rfl
theorem pos_set2 {W : World} {B : Nat} {a b c : ByteArray} (h : W.heap[B]? = some (.cells #[.string a, .string b, .string c] 53 (0, 0))) (y z : ByteArray) : PosBox (((W.setCell ⟨B, 1, none⟩ (.string y)).setCell ⟨B, 2, none⟩ (.string z)).drew) B ⟨a, y, z⟩ := by
  unfold PosBox Pos.cells
  show ((W.setCell ⟨B, 1, none⟩ (.string y)).setCell ⟨B, 2, none⟩ (.string z)).heap[B]? = _
  simp [World.setCell, Array.getElem?_modify, h]
theorem flatP_pre {ps : List Pos} {j i : Nat} {u : Value} (h : (flatP (ps.take j))[i]? = some u) : (flatP ps)[i]? = some u := by
  have e : flatP ps = flatP (ps.take j) ++ flatP (ps.drop j) := by rw [← flatP_append, List.take_append_drop]
  rw [e, List.getElem?_append_left (List.getElem?_eq_some_iff.1 h).1]
  exact h
theorem flatP_post {ps : List Pos} {j i : Nat} {u : Value} (hj : j ≤ ps.length) (h : (flatP (ps.drop j))[i]? = some u) : (flatP ps)[j * 3 + i]? = some u := by
  have e : flatP ps = flatP (ps.take j) ++ flatP (ps.drop j) := by rw [← flatP_append, List.take_append_drop]
  have hl : (flatP (ps.take j)).length = j * 3 := by rw [flatP_len, List.length_take, Nat.min_eq_left hj]
  rw [e, List.getElem?_append_right (by omega), hl, Nat.add_sub_cancel_left]
  exact h
theorem addr_addk (g m i : Nat) : (⟨g, m, none⟩ : Addr).add i = ⟨g, m + i, none⟩ := by unfold Addr.add; split <;> simp_all
theorem hasI_snoc {ls : List SLot} {k : Nat} {x : SLot} (hl : ls[k]? = some x) (b : List UInt8) : hasI (ls.take (k + 1)) (bs b) ↔ b = x.1.inst.data.toList ∨ hasI (ls.take k) (bs b) := by
  rw [take_snoc hl]
  unfold hasI
  constructor
  · rintro ⟨y, hy, e⟩
    rcases List.mem_append.1 hy with hy | hy
    · exact .inr ⟨y, hy, e⟩
    · rw [List.mem_singleton] at hy; subst hy; exact .inl (by rw [e]; rfl)
  · rintro (rfl | ⟨y, hy, e⟩)
    · exact ⟨x, by simp, (bs_of _).symm⟩
    · exact ⟨y, by simp [hy], e⟩

structure RQV (base : Nat) (W0 : World) (g m c j : Nat) (a2 : Addr) (p : Pos) (Bp : Nat) (ps : List Pos) (Bn g1 c1 : Nat) (L : Array Bool) (W : World) (s3 s58 s59 s60 s61 s62 s63 s64 s65 s66 s67 s68 : Value) : Prop where
  k0 : L.getD 0 false = true → s58 = .slice (some ⟨g, 0, none⟩) m c
  k1 : L.getD 1 false = true → s59 = .int .i64 (j : Int)
  k2 : L.getD 2 false = true → s60 = .int .i64 (j : Int)
  k3 : L.getD 3 false = true → s61 = .slice (some ⟨g, 0, none⟩) j j
  k4 : L.getD 4 false = true → s62 = .agg #[.string p.inst, .string p.qty, .string p.cost]
  k5 : L.getD 5 false = true → s63 = .slice (some ⟨Bn, 0, none⟩) 1 1
  k6 : L.getD 6 false = true → s64 = .slice (some ⟨g, 0, none⟩) m c
  k7 : L.getD 7 false = true → s65 = .int .i64 (j : Int)
  k8 : L.getD 8 false = true → s66 = .slice (some a2) (m - j) (c - j)
  k9 : L.getD 9 false = true → s67 = .slice (some ⟨g1, 0, none⟩) (1 + (m - j)) c1
  n3 : L.getD 11 false = false → s3 = .slice (some ⟨g, 0, none⟩) m c
  q : L.getD 11 false = true → L.getD 0 false = true ∧ L.getD 6 false = true
  r10 : L.getD 10 false = true → PosV base W p ps j m s68
  r11 : L.getD 11 false = true → PosV base W p ps j m s3
  be : Below W0.heap.size W0 W
  cp : PosBox W Bp p
  t5 : L.getD 5 false = true → PosBox W Bn p
  t9 : L.getD 9 false = true → ∀ i u, (p.cells.toList ++ flatP (ps.drop j))[i]? = some u → W.cell? ((⟨g1, 0, none⟩ : Addr).add i) = some u
  q9 : L.getD 9 false = true → L.getD 5 false = true
  q10 : L.getD 10 false = true → L.getD 9 false = true
  q11 : L.getD 11 false = true → L.getD 10 false = true
structure RQJ (base : Nat) (W0 : World) (g m c j : Nat) (a2 : Addr) (p : Pos) (Bp : Nat) (ps : List Pos) (x0 x1 x2 x4 x5 x8 x9 x10 x11 x12 x13 x14 x15 x16 x17 x18 x19 x20 x21 x22 x23 x24 x25 x26 x27 x28 x29 x30 x31 x32 x33 x34 x35 x36 x37 x38 x39 x40 x41 x42 x43 x44 x45 x46 x47 x48 x49 x50 x51 x52 x53 x54 x55 x56 x57 x69 : Value) (L : Array Bool) (a : Act) (W : World) : Prop where
  sz : L.size = 12
  fr : ∃ Bn g1 c1 : Nat, ∃ s3 s58 s59 s60 s61 s62 s63 s64 s65 s66 s67 s68 : Value, a = { tmps := #[x0, x1, x2, s3, x4, x5, .int .i64 (j : Int), .pointer (some ⟨Bp, 0, none⟩), x8, x9, x10, x11, x12, x13, x14, x15, x16, x17, x18, x19, x20, x21, x22, x23, x24, x25, x26, x27, x28, x29, x30, x31, x32, x33, x34, x35, x36, x37, x38, x39, x40, x41, x42, x43, x44, x45, x46, x47, x48, x49, x50, x51, x52, x53, x54, x55, x56, x57, s58, s59, s60, s61, s62, s63, s64, s65, s66, s67, s68, x69], defers := [] } ∧ RQV base W0 g m c j a2 p Bp ps Bn g1 c1 L W s3 s58 s59 s60 s61 s62 s63 s64 s65 s66 s67 s68

set_option maxHeartbeats 8000000 in
set_option maxRecDepth 100000 in
theorem rPositions19_any (n₀ : Nat) (A : Option Addr) (ls : List SLot) (c : Nat) (w : World) (hlen : ls.length ≤ 100000) (hR : RdB n₀ w A ls) (hnw : n₀ ≤ w.heap.size) :
    Calls Tryz.prog 18 #[.slice A ls.length c] w (PosPost w (posL ls)) := by
  have HR := Lib.hid hR
  have HN0 := Lib.hid hnw
  clear hR hnw
  go_enter Tryz.func18, Tryz.ntmps18
  have hb0 : Below w.heap.size w (w.alloc (.cells #[] 53)) := (Below.refl _ w).alloc (Nat.le_refl _) _
  have ho0 : (w.alloc (.cells #[] 53)).ownsRow w.heap.size 53 3 (.slice (some ⟨w.heap.size, 0, none⟩) 0 0) 0 [] := World.ownsRow_made w #[] 0 (Nat.le_refl _) (by unfold maxLen; omega) rfl
  have H0 := Lib.hid (And.intro hb0 ho0)
  clear hb0 ho0
  go_wp2_with fail
  go_loopw [3, 4] (fun v3 v wr => ∃ (k : Nat) (ns : List (List UInt8)) (g c' : Nat), v3 = .slice (some ⟨g, 0, none⟩) ns.length c' ∧ v = .int .i64 (k : Int) ∧ k ≤ ls.length ∧ ns.Pairwise (· < ·) ∧ (∀ b, b ∈ ns ↔ hasI (ls.take k) (bs b)) ∧ ns.length ≤ k ∧ wr.ownsRow w.heap.size 53 3 (.slice (some ⟨g, 0, none⟩) ns.length c') ns.length (flatP (ns.map fun b => posOf ls (bs b))) ∧ Below w.heap.size w wr) (fun _ v _ => ls.length - (intOf v).toNat)
  case atStart => exact ⟨0, [], w.heap.size, 0, rfl, rfl, by omega, List.Pairwise.nil, fun b => ⟨fun h => (by cases h), fun ⟨y, hy, _⟩ => (by cases hy)⟩, Nat.le_refl _, H0.out.2, H0.out.1⟩
  case round =>
    obtain ⟨k, ns, g, c', rfl, rfl, hk, hasc, hmem, hnk, hrow, hb⟩ := hrel
    have HASC := Lib.hid hasc
    have HMEM := Lib.hid hmem
    have HROW := Lib.hid hrow
    have HB := Lib.hid hb
    clear hasc hmem hrow hb
    rcases Nat.lt_or_ge k ls.length with hlt | hge
    · obtain ⟨x, hl⟩ : ∃ x, ls[k]? = some x := ⟨_, List.getElem?_eq_getElem hlt⟩
      obtain ⟨ad, rfl, had, hcell⟩ := HR.out (by intro e; rw [e] at hlt; cases hlt)
      have hcx : decide ((k : Int) < (ls.length : Int)) = true := by simp; omega
      obtain ⟨c0, c1, c2, c3, c4, c5, c6⟩ := (hcell k x hl).below (HB.out.mono HN0.out) (by rw [add_block]; exact had)
      have HHS := Lib.hid (hasI_snoc hl)
      have hgc := HROW.out
      have HGC : Hid (∀ j b, ns[j]? = some b → wr.cell? ⟨g, j * 3, none⟩ = some (.string (bs b))) := by
        intro j b hj
        have h1 := hgc.cells (g := g) rfl (j * 3) (.string (bs b)) (by rw [show j * 3 = j * 3 + 0 from rfl, flatP_get _ j (posOf ls (bs b)) (by rw [List.getElem?_map, hj]; rfl) 0 (by omega)]; rfl)
        rwa [addr_add0] at h1
      have HCAP : Hid (ns.length ≤ c' ∧ g < wr.heap.size ∧ w.heap.size ≤ g) := by
        rcases hgc.2 with ⟨h1, _⟩ | ⟨g', cap', cur, h1, h2, h3, h4, _⟩
        · cases h1
        · injection h1 with e1 _ e3
          injection e1 with e1
          injection e1 with e1
          subst e1 e3
          exact ⟨h4, (Array.getElem?_eq_some_iff.1 h3).1, h2⟩
      have HNZ : Hid (ns.length ≤ k) := hnk
      have HHX := Lib.hid hl
      clear hgc hcell hl
      go_wp2_with fail
      generalize hW1 : wr = W1 at *
      clear hW1 wr
      go_loopw [6] (fun v wr => ∃ j : Nat, v = .int .i64 (j : Int) ∧ j ≤ ns.length ∧ (∀ b ∈ ns.take j, b < x.1.inst.data.toList) ∧ wr = W1) (fun v _ => ns.length - (intOf v).toNat)
      case atStart => exact ⟨0, rfl, by omega, fun b hb => by simp at hb, rfl⟩
      case round =>
        obtain ⟨j, rfl, hj, hlo, rfl⟩ := hrel
        have HLO := Lib.hid hlo
        have HJN := Lib.hid hj
        clear hlo
        clear hnk
        rcases Nat.lt_or_ge j ns.length with hjl | hjg
        · obtain ⟨b, hb⟩ : ∃ b, ns[j]? = some b := ⟨_, List.getElem?_eq_getElem hjl⟩
          have d := HGC.out j b hb
          have t1 : decide ((j : Int) < (ns.length : Int)) = true := decide_eq_true (by omega)
          have hjb : (j : Int) < (ns.length : Int) := by omega
          have hnz : ns.length ≤ 100000 := by have := HNZ.out; omega
          have hbq := str_eq (bs b) x.1.inst
          have hbn : bs b = x.1.inst ↔ b = x.1.inst.data.toList := ⟨fun e => by rw [← e]; rfl, fun e => by rw [e]; rfl⟩
          rcases Classical.em (b < x.1.inst.data.toList) with h1 | h1
          · have hbl : Op.bytesLess (bs b).toList x.1.inst.toList = true := by rw [bytesLess_eq, Lib.toList_data, Lib.toList_data, bs_data]; exact decide_eq_true h1
            rw [decide_eq_false (fun e => List.lt_irrefl _ (by have e := hbn.1 e; rw [e] at h1; exact h1))] at hbq
            have HST : Hid (∀ a ∈ ns.take (j + 1), a < x.1.inst.data.toList) := by
              intro a ha
              rw [take_snoc hb, List.mem_append] at ha
              rcases ha with ha | ha
              · exact HLO.out a ha
              · rw [List.mem_singleton] at ha; subst ha; exact h1
            clear hbn h1 hb
            go_wp2_with fail
            go_roundw
            case rel => exact ⟨j + 1, by go_num, by omega, HST.out, trivial⟩
            case measure => simp [intOf]; omega
          have hbl : Op.bytesLess (bs b).toList x.1.inst.toList = false := by rw [bytesLess_eq, Lib.toList_data, Lib.toList_data, bs_data]; exact decide_eq_false h1
          rcases Classical.em (b = x.1.inst.data.toList) with h2 | h2
          · rw [decide_eq_true (hbn.2 h2)] at hbq
            have HM2 : Hid (∀ a, a ∈ ns ↔ hasI (ls.take (k + 1)) (bs a)) := by
              intro a
              rw [HHS.out a, ← HMEM.out a]
              constructor
              · exact .inr
              · rintro (h | h)
                · rw [h, ← h2]; exact List.mem_of_getElem? hb
                · exact h
            clear hbn h1 h2 hb
            go_wp2_with fail
            go_roundw
            case rel => exact ⟨k + 1, ns, g, c', rfl, by go_num, by omega, HASC.out, HM2.out, by have := HNZ.out; omega, HROW.out, HB.out⟩
            case measure => simp [intOf]; omega
          rw [decide_eq_false (fun e => h2 (hbn.1 e))] at hbq
          have HGT : Hid (∀ a, ns[j]? = some a → x.1.inst.data.toList < a) := by
            intro a ha
            rw [hb] at ha
            injection ha with ha
            subst ha
            rcases List.le_iff_lt_or_eq.1 (List.not_lt.1 h1) with h | h
            · exact h
            · exact absurd h.symm h2
          clear hbn h1 h2 hb
          have HINS : Hid ((ns.take j ++ x.1.inst.data.toList :: ns.drop j).Pairwise (· < ·) ∧ ∀ b, b ∈ ns.take j ++ x.1.inst.data.toList :: ns.drop j ↔ hasI (ls.take (k + 1)) (bs b)) :=
            ⟨ins_asc HASC.out HLO.out HGT.out, fun b => by rw [ins_mem, HHS.out b, ← HMEM.out b]⟩
          have hba : Below wr.heap.size wr (wr.alloc (.cells #[.string x.1.inst, .string ⟨#[]⟩, .string ⟨#[]⟩] 53)) := (Below.refl _ wr).alloc (Nat.le_refl _) _
          have HBA := Lib.hid hba
          have HTOT := Lib.hid (rTotal19_any (wr.alloc (.cells #[.string x.1.inst, .string ⟨#[]⟩, .string ⟨#[]⟩] 53)).heap.size (some ad) ls c x.1.inst (wr.alloc (.cells #[.string x.1.inst, .string ⟨#[]⟩, .string ⟨#[]⟩] 53)) (by omega) ((HR.out.below ((HB.out.trans (hba.mono HB.out.size)).mono HN0.out)).mono (Nat.le_trans HN0.out (HB.out.trans (hba.mono HB.out.size)).size)) (Nat.le_refl _))
          have HPX := Lib.hid (heap_alloc_new wr (.cells #[.string x.1.inst, .string ⟨#[]⟩, .string ⟨#[]⟩] 53))
          clear hba
          go_wp2_with fail
          refine HTOT.out.mono ?_
          rintro e w3 ⟨rfl, b3⟩
          have hp3 := (b3.block wr.heap.size (Array.getElem?_eq_some_iff.1 HPX.out).1).trans HPX.out
          have HW3 := Lib.hid (HBA.out.trans (b3.mono HBA.out.size))
          have HP3 := Lib.hid hp3
          have e0 := Lib.cell_of_heap hp3 0
          have e1 := Lib.cell_of_heap hp3 1
          have e2 := Lib.cell_of_heap hp3 2
          simp at e0 e1 e2
          have f1 := Lib.frozen_of_heap hp3 1
          have f2 := Lib.frozen_of_heap hp3 2
          clear b3 hp3 HPX HTOT HBA
          go_upto_region 12 with fail
          have hPB : PosBox (((w3.setCell ⟨wr.heap.size, 1, none⟩ (.string (I (sumBy qtyOf (ownL ls x.1.inst))))).setCell ⟨wr.heap.size, 2, none⟩ (.string (I (sumBy costOf (ownL ls x.1.inst))))).drew) wr.heap.size (posOf ls x.1.inst) := pos_set2 HP3.out _ _
          have hBB : Below wr.heap.size wr (((w3.setCell ⟨wr.heap.size, 1, none⟩ (.string (I (sumBy qtyOf (ownL ls x.1.inst))))).setCell ⟨wr.heap.size, 2, none⟩ (.string (I (sumBy costOf (ownL ls x.1.inst))))).drew) := ((HW3.out.setCell (p := ⟨wr.heap.size, 1, none⟩) (Nat.le_refl _) _).setCell (p := ⟨wr.heap.size, 2, none⟩) (Nat.le_refl _) _).drew
          clear e0 e1 e2 f1 f2 HW3 HP3
          try clear t1
          try clear hjg
          generalize ((w3.setCell ⟨wr.heap.size, 1, none⟩ (.string (I (sumBy qtyOf (ownL ls x.1.inst))))).setCell ⟨wr.heap.size, 2, none⟩ (.string (I (sumBy costOf (ownL ls x.1.inst))))) = W5 at hPB hBB ⊢
          obtain ⟨W4, hW4⟩ : ∃ W4, W4 = W5.drew := ⟨_, rfl⟩
          rw [← hW4] at hPB hBB
          obtain ⟨p, hp⟩ : ∃ p, posOf ls x.1.inst = p := ⟨_, rfl⟩
          rw [hp] at hPB
          have HP := Lib.hid hp
          have HCP := Lib.hid hPB
          have HBW0 := Lib.hid (HB.out.trans (hBB.mono HB.out.size))
          have HW0 : Hid (w.heap.size ≤ W4.heap.size) := HBW0.out.size
          have hgl := HCAP.out.2.1
          have hgc := HROW.out.cells (g := g) rfl
          have HGG : Hid (∀ W, Below W4.heap.size W4 W → ∀ i u, (flatP (ns.map fun b => posOf ls (bs b)))[i]? = some u → W.cell? ⟨g, i, none⟩ = some u) := by
            intro W hW i u hu
            have h1 := hgc i u hu
            rw [addr_add0] at h1
            exact (hW.cell (p := ⟨g, i, none⟩) (Nat.lt_of_lt_of_le hgl hBB.size)).trans ((hBB.cell (p := ⟨g, i, none⟩) hgl).trans h1)
          obtain ⟨a2, ha2⟩ : ∃ a2 : Addr, a2 = (if c' = j then ⟨g, 0, none⟩ else ⟨g, j * 3, none⟩) := ⟨_, rfl⟩
          have HS1 := Lib.hid (fun W => pslice1 W g ns.length c' j (Nat.le_trans HJN.out HCAP.out.1))
          have hs2 := fun W => pslice2 W g ns.length c' j HJN.out
          rw [← ha2] at hs2
          have HS2 := Lib.hid hs2
          have HTC : Hid (∀ W, Below W4.heap.size W4 W → ∀ i u, (flatP ((ns.map fun b => posOf ls (bs b)).take j))[i]? = some u → W.cell? ((⟨g, 0, none⟩ : Addr).add i) = some u) := by
            intro W hW i u hu
            rw [addr_add0]
            exact HGG.out W hW i u (flatP_pre hu)
          have HDC : Hid (∀ W, Below W4.heap.size W4 W → ∀ i u, (flatP ((ns.map fun b => posOf ls (bs b)).drop j))[i]? = some u → W.cell? (a2.add i) = some u) := by
            intro W hW i u hu
            have hcj : c' ≠ j := by
              intro e
              have h1 := HCAP.out.1
              have h2 := HJN.out
              have : (ns.map fun b => posOf ls (bs b)).drop j = [] := List.drop_eq_nil_of_le (by rw [List.length_map]; omega)
              rw [this] at hu
              simp [flatP] at hu
            rw [ha2, if_neg hcj, addr_addk]
            exact HGG.out W hW _ u (flatP_post (by rw [List.length_map]; exact HJN.out) hu)
          have HTL : Hid ((flatP ((ns.map fun b => posOf ls (bs b)).take j)).length = j * 3) := by rw [Hid, flatP_len, List.length_take, List.length_map, Nat.min_eq_left HJN.out]
          have HDL : Hid ((flatP ((ns.map fun b => posOf ls (bs b)).drop j)).length = (ns.length - j) * 3) := by rw [Hid, flatP_len, List.length_drop, List.length_map]
          have HNL : Hid ((p.cells.toList ++ flatP ((ns.map fun b => posOf ls (bs b)).drop j)).length = (1 + (ns.length - j)) * 3) := by rw [Hid, List.length_append, HDL.out]; simp [Pos.cells]; omega
          have HMZ : Hid (ns.length - j ≤ 100000) := by have := HNZ.out; show _ ≤ _; omega
          have HMZ2 : Hid (j + (1 + (ns.length - j)) ≤ 200000) := by have := HNZ.out; have := HJN.out; show _ ≤ _; omega
          clear hp hPB hBB hgl hgc ha2 hs2
          subst hW4
          obtain ⟨Bp, hBp⟩ : ∃ Bp, wr.heap.size = Bp := ⟨_, rfl⟩
          rw [hBp] at HCP ⊢
          clear hBp
          have mixed : Tryz.prog.follows .mixedOrders = true := by kernel_rfl
          refine wp_region_any mixed (wpAny_inv (RQJ w.heap.size W5.drew g ns.length c' j a2 p Bp (ns.map fun b => posOf ls (bs b)) _ _ _ _ _ _ _ _ _ _ _ _ _ _ _ _ _ _ _ _ _ _ _ _ _ _ _ _ _ _ _ _ _ _ _ _ _ _ _ _ _ _ _ _ _ _ _ _ _ _ _ _ _ _ _ _) ?stRQ ?dnRQ _ _ _ _ ⟨by simp, ⟨0, 0, 0, _, _, _, _, _, _, _, _, _, _, _, _, rfl, fun h => by simp at h, fun h => by simp at h, fun h => by simp at h, fun h => by simp at h, fun h => by simp at h, fun h => by simp at h, fun h => by simp at h, fun h => by simp at h, fun h => by simp at h, fun h => by simp at h, fun _ => rfl, fun h => by simp at h, fun h => by simp at h, fun h => by simp at h, Below.refl _ _, HCP.out, fun h => by simp at h, fun h => by simp at h, fun h => by simp at h, fun h => by simp at h, fun h => by simp at h⟩⟩ (by decide))
          case dnRQ =>
            intro L a w' hj hr
            have all : ∀ i, i < 12 → L.getD i false = true := by
              intro i
              induction i using Nat.strongRecOn with
              | ind i ih =>
                intro hi
                refine (off_or_on L i).resolve_left fun h => ?_
                refine List.eq_nil_iff_forall_not_mem.1 hr i (ready_of (by rw [hj.sz]; exact hi) h (Array.getElem?_eq_getElem (by simpa using hi)) (fun e he hbd => ih e.on ?_ ?_))
                · rcases (show i = 0 ∨ i = 1 ∨ i = 2 ∨ i = 3 ∨ i = 4 ∨ i = 5 ∨ i = 6 ∨ i = 7 ∨ i = 8 ∨ i = 9 ∨ i = 10 ∨ i = 11 from by omega) with rfl | rfl | rfl | rfl | rfl | rfl | rfl | rfl | rfl | rfl | rfl | rfl
                  · simp at he
                  · simp at he
                  · simp at he
                  · simp at he
                    rcases he with rfl | rfl | rfl
                    all_goals first | decide | (exact absurd hbd (by decide))
                  · simp at he
                  · simp at he
                    subst he
                    first | decide | (exact absurd hbd (by decide))
                  · simp at he
                  · simp at he
                  · simp at he
                    rcases he with rfl | rfl
                    all_goals first | decide | (exact absurd hbd (by decide))
                  · simp at he
                    rcases he with rfl | rfl
                    all_goals first | decide | (exact absurd hbd (by decide))
                  · simp at he
                    rcases he with rfl | rfl | rfl
                    all_goals first | decide | (exact absurd hbd (by decide))
                  · simp at he
                    rcases he with rfl | rfl | rfl | rfl | rfl | rfl | rfl | rfl | rfl | rfl | rfl | rfl | rfl
                    all_goals first | decide | (exact absurd hbd (by decide))
                · rcases (show i = 0 ∨ i = 1 ∨ i = 2 ∨ i = 3 ∨ i = 4 ∨ i = 5 ∨ i = 6 ∨ i = 7 ∨ i = 8 ∨ i = 9 ∨ i = 10 ∨ i = 11 from by omega) with rfl | rfl | rfl | rfl | rfl | rfl | rfl | rfl | rfl | rfl | rfl | rfl
                  · simp at he
                  · simp at he
                  · simp at he
                  · simp at he
                    rcases he with rfl | rfl | rfl
                    all_goals first | decide | (exact absurd hbd (by decide))
                  · simp at he
                  · simp at he
                    subst he
                    first | decide | (exact absurd hbd (by decide))
                  · simp at he
                  · simp at he
                  · simp at he
                    rcases he with rfl | rfl
                    all_goals first | decide | (exact absurd hbd (by decide))
                  · simp at he
                    rcases he with rfl | rfl
                    all_goals first | decide | (exact absurd hbd (by decide))
                  · simp at he
                    rcases he with rfl | rfl | rfl
                    all_goals first | decide | (exact absurd hbd (by decide))
                  · simp at he
                    rcases he with rfl | rfl | rfl | rfl | rfl | rfl | rfl | rfl | rfl | rfl | rfl | rfl | rfl
                    all_goals first | decide | (exact absurd hbd (by decide))
            obtain ⟨Bn, g1, c1, s3, s58, s59, s60, s61, s62, s63, s64, s65, s66, s67, s68, rfl, hv⟩ := hj.fr
            have HF := Lib.hid (And.intro (hv.r11 (all 11 (by omega))) hv.be)
            clear all hv hj hr
            obtain ⟨g2, c2, e2, hrow2⟩ := HF.out.1
            subst e2
            dsimp only
            go_wp2_with fail
            go_roundw
            case rel =>
              refine ⟨k + 1, ns.take j ++ x.1.inst.data.toList :: ns.drop j, g2, c2, ?_, by go_num, by omega, HINS.out.1, HINS.out.2, (by rw [ins_len HJN.out]; have := HJN.out; have := HNZ.out; omega), ?_, HBW0.out.trans (HF.out.2.mono HW0.out)⟩
              · rw [ins_len HJN.out]
              · rw [ins_len HJN.out, ins_flat, HP.out]; exact hrow2
            case measure => simp [intOf]; omega
          case stRQ =>
            intro L a w' hj i hi
            obtain ⟨hun, o, ho, hall⟩ := mem_ready.1 hi
            have hoff := getD_off hun
            have hlt := (Array.getElem?_eq_some_iff.1 ho).1
            simp at hlt
            obtain ⟨Bn, g1, c1, s3, s58, s59, s60, s61, s62, s63, s64, s65, s66, s67, s68, rfl, hv⟩ := hj.fr
            have HV := Lib.hid hv
            have HJ := Lib.hid hj
            clear hv hj
            rcases (show i = 0 ∨ i = 1 ∨ i = 2 ∨ i = 3 ∨ i = 4 ∨ i = 5 ∨ i = 6 ∨ i = 7 ∨ i = 8 ∨ i = 9 ∨ i = 10 ∨ i = 11 from by omega) with rfl | rfl | rfl | rfl | rfl | rfl | rfl | rfl | rfl | rfl | rfl | rfl
            · simp at ho
              subst ho
              clear hall hi
              have h11 : L.getD 11 false = false := (off_or_on L 11).resolve_right (fun h => not_on hoff (HV.out.q h).1)
              have e3 := HV.out.n3 h11
              subst e3
              refine wpOp_step rfl (fun K' hK' => ?_)
              have HK := Lib.hid hK'
              clear hK'
              go_simp
              exact HK.out _ _ ⟨by simp [HJ.out.sz], ⟨_, _, _, _, _, _, _, _, _, _, _, _, _, _, _, rfl, fun _ => rfl, fun h0 => HV.out.k1 (getD_dn (by decide) h0), fun h0 => HV.out.k2 (getD_dn (by decide) h0), fun h0 => HV.out.k3 (getD_dn (by decide) h0), fun h0 => HV.out.k4 (getD_dn (by decide) h0), fun h0 => HV.out.k5 (getD_dn (by decide) h0), fun h0 => HV.out.k6 (getD_dn (by decide) h0), fun h0 => HV.out.k7 (getD_dn (by decide) h0), fun h0 => HV.out.k8 (getD_dn (by decide) h0), fun h0 => HV.out.k9 (getD_dn (by decide) h0), fun _ => rfl, fun h => ⟨getD_up hun (HV.out.q (getD_dn (by decide) h)).1, getD_up hun (HV.out.q (getD_dn (by decide) h)).2⟩, fun h => HV.out.r10 (getD_dn (by decide) h), fun h => (not_on h11 (getD_dn (by decide) h)).elim, HV.out.be, HV.out.cp, fun h0 => HV.out.t5 (getD_dn (by decide) h0), fun h0 => HV.out.t9 (getD_dn (by decide) h0), fun h => getD_up hun (HV.out.q9 (getD_dn (by decide) h)), fun h => getD_up hun (HV.out.q10 (getD_dn (by decide) h)), fun h => getD_up hun (HV.out.q11 (getD_dn (by decide) h))⟩⟩
            · simp at ho
              subst ho
              clear hall hi
              refine wpOp_step rfl (fun K' hK' => ?_)
              have HK := Lib.hid hK'
              clear hK'
              go_simp
              exact HK.out _ _ ⟨by simp [HJ.out.sz], ⟨_, _, _, _, _, _, _, _, _, _, _, _, _, _, _, rfl, fun h0 => HV.out.k0 (getD_dn (by decide) h0), fun _ => rfl, fun h0 => HV.out.k2 (getD_dn (by decide) h0), fun h0 => HV.out.k3 (getD_dn (by decide) h0), fun h0 => HV.out.k4 (getD_dn (by decide) h0), fun h0 => HV.out.k5 (getD_dn (by decide) h0), fun h0 => HV.out.k6 (getD_dn (by decide) h0), fun h0 => HV.out.k7 (getD_dn (by decide) h0), fun h0 => HV.out.k8 (getD_dn (by decide) h0), fun h0 => HV.out.k9 (getD_dn (by decide) h0), fun h0 => HV.out.n3 (getD_df (by decide) h0), fun h => ⟨getD_up hun (HV.out.q (getD_dn (by decide) h)).1, getD_up hun (HV.out.q (getD_dn (by decide) h)).2⟩, fun h0 => HV.out.r10 (getD_dn (by decide) h0), fun h0 => HV.out.r11 (getD_dn (by decide) h0), HV.out.be, HV.out.cp, fun h0 => HV.out.t5 (getD_dn (by decide) h0), fun h0 => HV.out.t9 (getD_dn (by decide) h0), fun h => getD_up hun (HV.out.q9 (getD_dn (by decide) h)), fun h => getD_up hun (HV.out.q10 (getD_dn (by decide) h)), fun h => getD_up hun (HV.out.q11 (getD_dn (by decide) h))⟩⟩
            · simp at ho
              subst ho
              clear hall hi
              refine wpOp_step rfl (fun K' hK' => ?_)
              have HK := Lib.hid hK'
              clear hK'
              go_simp
              exact HK.out _ _ ⟨by simp [HJ.out.sz], ⟨_, _, _, _, _, _, _, _, _, _, _, _, _, _, _, rfl, fun h0 => HV.out.k0 (getD_dn (by decide) h0), fun h0 => HV.out.k1 (getD_dn (by decide) h0), fun _ => rfl, fun h0 => HV.out.k3 (getD_dn (by decide) h0), fun h0 => HV.out.k4 (getD_dn (by decide) h0), fun h0 => HV.out.k5 (getD_dn (by decide) h0), fun h0 => HV.out.k6 (getD_dn (by decide) h0), fun h0 => HV.out.k7 (getD_dn (by decide) h0), fun h0 => HV.out.k8 (getD_dn (by decide) h0), fun h0 => HV.out.k9 (getD_dn (by decide) h0), fun h0 => HV.out.n3 (getD_df (by decide) h0), fun h => ⟨getD_up hun (HV.out.q (getD_dn (by decide) h)).1, getD_up hun (HV.out.q (getD_dn (by decide) h)).2⟩, fun h0 => HV.out.r10 (getD_dn (by decide) h0), fun h0 => HV.out.r11 (getD_dn (by decide) h0), HV.out.be, HV.out.cp, fun h0 => HV.out.t5 (getD_dn (by decide) h0), fun h0 => HV.out.t9 (getD_dn (by decide) h0), fun h => getD_up hun (HV.out.q9 (getD_dn (by decide) h)), fun h => getD_up hun (HV.out.q10 (getD_dn (by decide) h)), fun h => getD_up hun (HV.out.q11 (getD_dn (by decide) h))⟩⟩
            · simp at ho
              subst ho
              have h0x : L.getD 0 false = true := hall { on := 0, ground := Ground.data } (by simp) (by decide)
              have h1x : L.getD 1 false = true := hall { on := 1, ground := Ground.data } (by simp) (by decide)
              have h2x : L.getD 2 false = true := hall { on := 2, ground := Ground.data } (by simp) (by decide)
              have H0 := Lib.hid h0x
              have H1 := Lib.hid h1x
              have H2 := Lib.hid h2x
              clear hall hi h0x h1x h2x
              have e0 := HV.out.k0 H0.out
              subst e0
              have e1 := HV.out.k1 H1.out
              subst e1
              have e2 := HV.out.k2 H2.out
              subst e2
              have hs1 := HS1.out
              refine wpOp_step rfl (fun K' hK' => ?_)
              have HK := Lib.hid hK'
              clear hK'
              go_simp
              exact HK.out _ _ ⟨by simp [HJ.out.sz], ⟨_, _, _, _, _, _, _, _, _, _, _, _, _, _, _, rfl, fun h0 => HV.out.k0 (getD_dn (by decide) h0), fun h0 => HV.out.k1 (getD_dn (by decide) h0), fun h0 => HV.out.k2 (getD_dn (by decide) h0), fun _ => rfl, fun h0 => HV.out.k4 (getD_dn (by decide) h0), fun h0 => HV.out.k5 (getD_dn (by decide) h0), fun h0 => HV.out.k6 (getD_dn (by decide) h0), fun h0 => HV.out.k7 (getD_dn (by decide) h0), fun h0 => HV.out.k8 (getD_dn (by decide) h0), fun h0 => HV.out.k9 (getD_dn (by decide) h0), fun h0 => HV.out.n3 (getD_df (by decide) h0), fun h => ⟨getD_up hun (HV.out.q (getD_dn (by decide) h)).1, getD_up hun (HV.out.q (getD_dn (by decide) h)).2⟩, fun h0 => HV.out.r10 (getD_dn (by decide) h0), fun h0 => HV.out.r11 (getD_dn (by decide) h0), HV.out.be, HV.out.cp, fun h0 => HV.out.t5 (getD_dn (by decide) h0), fun h0 => HV.out.t9 (getD_dn (by decide) h0), fun h => getD_up hun (HV.out.q9 (getD_dn (by decide) h)), fun h => getD_up hun (HV.out.q10 (getD_dn (by decide) h)), fun h => getD_up hun (HV.out.q11 (getD_dn (by decide) h))⟩⟩
            · simp at ho
              subst ho
              clear hall hi
              have hcp := HV.out.cp
              have m0 := Lib.cell_of_heap hcp 0; have m1 := Lib.cell_of_heap hcp 1; have m2 := Lib.cell_of_heap hcp 2
              simp [Pos.cells] at m0 m1 m2
              clear hcp
              refine wpOp_step rfl (fun K' hK' => ?_)
              have HK := Lib.hid hK'
              clear hK'
              go_simp
              exact HK.out _ _ ⟨by simp [HJ.out.sz], ⟨_, _, _, _, _, _, _, _, _, _, _, _, _, _, _, rfl, fun h0 => HV.out.k0 (getD_dn (by decide) h0), fun h0 => HV.out.k1 (getD_dn (by decide) h0), fun h0 => HV.out.k2 (getD_dn (by decide) h0), fun h0 => HV.out.k3 (getD_dn (by decide) h0), fun _ => rfl, fun h0 => HV.out.k5 (getD_dn (by decide) h0), fun h0 => HV.out.k6 (getD_dn (by decide) h0), fun h0 => HV.out.k7 (getD_dn (by decide) h0), fun h0 => HV.out.k8 (getD_dn (by decide) h0), fun h0 => HV.out.k9 (getD_dn (by decide) h0), fun h0 => HV.out.n3 (getD_df (by decide) h0), fun h => ⟨getD_up hun (HV.out.q (getD_dn (by decide) h)).1, getD_up hun (HV.out.q (getD_dn (by decide) h)).2⟩, fun h0 => HV.out.r10 (getD_dn (by decide) h0), fun h0 => HV.out.r11 (getD_dn (by decide) h0), HV.out.be, HV.out.cp, fun h0 => HV.out.t5 (getD_dn (by decide) h0), fun h0 => HV.out.t9 (getD_dn (by decide) h0), fun h => getD_up hun (HV.out.q9 (getD_dn (by decide) h)), fun h => getD_up hun (HV.out.q10 (getD_dn (by decide) h)), fun h => getD_up hun (HV.out.q11 (getD_dn (by decide) h))⟩⟩
            · simp at ho
              subst ho
              have h4x : L.getD 4 false = true := hall { on := 4, ground := Ground.data } (by simp) (by decide)
              have H4 := Lib.hid h4x
              clear hall hi h4x
              have e0 := HV.out.k4 H4.out
              subst e0
              have hbb : Below w'.heap.size w' (w'.alloc (.cells #[.string p.inst, .string p.qty, .string p.cost] 53)) := (Below.refl _ w').alloc (Nat.le_refl _) _
              refine wpOp_step rfl (fun K' hK' => ?_)
              have HK := Lib.hid hK'
              clear hK'
              go_simp
              exact HK.out _ _ ⟨by simp [HJ.out.sz], ⟨w'.heap.size, _, _, _, _, _, _, _, _, _, _, _, _, _, _, rfl, fun h0 => HV.out.k0 (getD_dn (by decide) h0), fun h0 => HV.out.k1 (getD_dn (by decide) h0), fun h0 => HV.out.k2 (getD_dn (by decide) h0), fun h0 => HV.out.k3 (getD_dn (by decide) h0), fun h0 => HV.out.k4 (getD_dn (by decide) h0), fun _ => rfl, fun h0 => HV.out.k6 (getD_dn (by decide) h0), fun h0 => HV.out.k7 (getD_dn (by decide) h0), fun h0 => HV.out.k8 (getD_dn (by decide) h0), fun h0 => HV.out.k9 (getD_dn (by decide) h0), fun h0 => HV.out.n3 (getD_df (by decide) h0), fun h => ⟨getD_up hun (HV.out.q (getD_dn (by decide) h)).1, getD_up hun (HV.out.q (getD_dn (by decide) h)).2⟩, fun h => (not_on hoff (HV.out.q9 (HV.out.q10 (getD_dn (by decide) h)))).elim, fun h => (not_on hoff (HV.out.q9 (HV.out.q10 (HV.out.q11 (getD_dn (by decide) h))))).elim, HV.out.be.trans (hbb.mono HV.out.be.size), HV.out.cp.below hbb, fun _ => heap_alloc_new _ _, fun h => (not_on hoff (HV.out.q9 (getD_dn (by decide) h))).elim, fun h => getD_up hun (HV.out.q9 (getD_dn (by decide) h)), fun h => getD_up hun (HV.out.q10 (getD_dn (by decide) h)), fun h => getD_up hun (HV.out.q11 (getD_dn (by decide) h))⟩⟩
            · simp at ho
              subst ho
              clear hall hi
              have h11 : L.getD 11 false = false := (off_or_on L 11).resolve_right (fun h => not_on hoff (HV.out.q h).2)
              have e3 := HV.out.n3 h11
              subst e3
              refine wpOp_step rfl (fun K' hK' => ?_)
              have HK := Lib.hid hK'
              clear hK'
              go_simp
              exact HK.out _ _ ⟨by simp [HJ.out.sz], ⟨_, _, _, _, _, _, _, _, _, _, _, _, _, _, _, rfl, fun h0 => HV.out.k0 (getD_dn (by decide) h0), fun h0 => HV.out.k1 (getD_dn (by decide) h0), fun h0 => HV.out.k2 (getD_dn (by decide) h0), fun h0 => HV.out.k3 (getD_dn (by decide) h0), fun h0 => HV.out.k4 (getD_dn (by decide) h0), fun h0 => HV.out.k5 (getD_dn (by decide) h0), fun _ => rfl, fun h0 => HV.out.k7 (getD_dn (by decide) h0), fun h0 => HV.out.k8 (getD_dn (by decide) h0), fun h0 => HV.out.k9 (getD_dn (by decide) h0), fun _ => rfl, fun h => ⟨getD_up hun (HV.out.q (getD_dn (by decide) h)).1, getD_up hun (HV.out.q (getD_dn (by decide) h)).2⟩, fun h => HV.out.r10 (getD_dn (by decide) h), fun h => (not_on h11 (getD_dn (by decide) h)).elim, HV.out.be, HV.out.cp, fun h0 => HV.out.t5 (getD_dn (by decide) h0), fun h0 => HV.out.t9 (getD_dn (by decide) h0), fun h => getD_up hun (HV.out.q9 (getD_dn (by decide) h)), fun h => getD_up hun (HV.out.q10 (getD_dn (by decide) h)), fun h => getD_up hun (HV.out.q11 (getD_dn (by decide) h))⟩⟩
            · simp at ho
              subst ho
              clear hall hi
              refine wpOp_step rfl (fun K' hK' => ?_)
              have HK := Lib.hid hK'
              clear hK'
              go_simp
              exact HK.out _ _ ⟨by simp [HJ.out.sz], ⟨_, _, _, _, _, _, _, _, _, _, _, _, _, _, _, rfl, fun h0 => HV.out.k0 (getD_dn (by decide) h0), fun h0 => HV.out.k1 (getD_dn (by decide) h0), fun h0 => HV.out.k2 (getD_dn (by decide) h0), fun h0 => HV.out.k3 (getD_dn (by decide) h0), fun h0 => HV.out.k4 (getD_dn (by decide) h0), fun h0 => HV.out.k5 (getD_dn (by decide) h0), fun h0 => HV.out.k6 (getD_dn (by decide) h0), fun _ => rfl, fun h0 => HV.out.k8 (getD_dn (by decide) h0), fun h0 => HV.out.k9 (getD_dn (by decide) h0), fun h0 => HV.out.n3 (getD_df (by decide) h0), fun h => ⟨getD_up hun (HV.out.q (getD_dn (by decide) h)).1, getD_up hun (HV.out.q (getD_dn (by decide) h)).2⟩, fun h0 => HV.out.r10 (getD_dn (by decide) h0), fun h0 => HV.out.r11 (getD_dn (by decide) h0), HV.out.be, HV.out.cp, fun h0 => HV.out.t5 (getD_dn (by decide) h0), fun h0 => HV.out.t9 (getD_dn (by decide) h0), fun h => getD_up hun (HV.out.q9 (getD_dn (by decide) h)), fun h => getD_up hun (HV.out.q10 (getD_dn (by decide) h)), fun h => getD_up hun (HV.out.q11 (getD_dn (by decide) h))⟩⟩
            · simp at ho
              subst ho
              have h6x : L.getD 6 false = true := hall { on := 6, ground := Ground.data } (by simp) (by decide)
              have h7x : L.getD 7 false = true := hall { on := 7, ground := Ground.data } (by simp) (by decide)
              have H6 := Lib.hid h6x
              have H7 := Lib.hid h7x
              clear hall hi h6x h7x
              have e0 := HV.out.k6 H6.out
              subst e0
              have e1 := HV.out.k7 H7.out
              subst e1
              have hs2 := HS2.out
              refine wpOp_step rfl (fun K' hK' => ?_)
              have HK := Lib.hid hK'
              clear hK'
              go_simp
              exact HK.out _ _ ⟨by simp [HJ.out.sz], ⟨_, _, _, _, _, _, _, _, _, _, _, _, _, _, _, rfl, fun h0 => HV.out.k0 (getD_dn (by decide) h0), fun h0 => HV.out.k1 (getD_dn (by decide) h0), fun h0 => HV.out.k2 (getD_dn (by decide) h0), fun h0 => HV.out.k3 (getD_dn (by decide) h0), fun h0 => HV.out.k4 (getD_dn (by decide) h0), fun h0 => HV.out.k5 (getD_dn (by decide) h0), fun h0 => HV.out.k6 (getD_dn (by decide) h0), fun h0 => HV.out.k7 (getD_dn (by decide) h0), fun _ => rfl, fun h0 => HV.out.k9 (getD_dn (by decide) h0), fun h0 => HV.out.n3 (getD_df (by decide) h0), fun h => ⟨getD_up hun (HV.out.q (getD_dn (by decide) h)).1, getD_up hun (HV.out.q (getD_dn (by decide) h)).2⟩, fun h0 => HV.out.r10 (getD_dn (by decide) h0), fun h0 => HV.out.r11 (getD_dn (by decide) h0), HV.out.be, HV.out.cp, fun h0 => HV.out.t5 (getD_dn (by decide) h0), fun h0 => HV.out.t9 (getD_dn (by decide) h0), fun h => getD_up hun (HV.out.q9 (getD_dn (by decide) h)), fun h => getD_up hun (HV.out.q10 (getD_dn (by decide) h)), fun h => getD_up hun (HV.out.q11 (getD_dn (by decide) h))⟩⟩
            · simp at ho
              subst ho
              have h5x : L.getD 5 false = true := hall { on := 5, ground := Ground.data } (by simp) (by decide)
              have h8x : L.getD 8 false = true := hall { on := 8, ground := Ground.data } (by simp) (by decide)
              have H5 := Lib.hid h5x
              have H8 := Lib.hid h8x
              clear hall hi h5x h8x
              have e0 := HV.out.k5 H5.out
              subst e0
              have e1 := HV.out.k8 H8.out
              subst e1
              obtain ⟨g1', c1', w1, hrun, hb1, hc1⟩ := papp1 w' Bn p (HV.out.t5 H5.out) a2 (ns.length - j) (c' - j) (flatP ((ns.map fun b => posOf ls (bs b)).drop j)) HDL.out (HDC.out w' HV.out.be) (flatP_one _) HMZ.out
              refine wpOp_step rfl (fun K' hK' => ?_)
              have HK := Lib.hid hK'
              clear hK'
              refine step_append_run hrun rfl _ _ rfl rfl rfl rfl ?_
              go_simp
              exact HK.out _ _ ⟨by simp [HJ.out.sz], ⟨_, g1', c1', _, _, _, _, _, _, _, _, _, _, _, _, rfl, fun h0 => HV.out.k0 (getD_dn (by decide) h0), fun h0 => HV.out.k1 (getD_dn (by decide) h0), fun h0 => HV.out.k2 (getD_dn (by decide) h0), fun h0 => HV.out.k3 (getD_dn (by decide) h0), fun h0 => HV.out.k4 (getD_dn (by decide) h0), fun h0 => HV.out.k5 (getD_dn (by decide) h0), fun h0 => HV.out.k6 (getD_dn (by decide) h0), fun h0 => HV.out.k7 (getD_dn (by decide) h0), fun h0 => HV.out.k8 (getD_dn (by decide) h0), fun _ => rfl, fun h0 => HV.out.n3 (getD_df (by decide) h0), fun h => ⟨getD_up hun (HV.out.q (getD_dn (by decide) h)).1, getD_up hun (HV.out.q (getD_dn (by decide) h)).2⟩, fun h => (not_on hoff (HV.out.q10 (getD_dn (by decide) h))).elim, fun h => (not_on hoff (HV.out.q10 (HV.out.q11 (getD_dn (by decide) h)))).elim, HV.out.be.trans (hb1.mono HV.out.be.size), HV.out.cp.below hb1, fun h => (HV.out.t5 (getD_dn (by decide) h)).below hb1, fun _ => hc1, fun _ => getD_up hun H5.out, fun h => getD_up hun (HV.out.q10 (getD_dn (by decide) h)), fun h => getD_up hun (HV.out.q11 (getD_dn (by decide) h))⟩⟩
            · simp at ho
              subst ho
              have h3x : L.getD 3 false = true := hall { on := 3, ground := Ground.data } (by simp) (by decide)
              have h9x : L.getD 9 false = true := hall { on := 9, ground := Ground.data } (by simp) (by decide)
              have H3 := Lib.hid h3x
              have H9 := Lib.hid h9x
              clear hall hi h3x h9x
              have e0 := HV.out.k3 H3.out
              subst e0
              have e1 := HV.out.k9 H9.out
              subst e1
              obtain ⟨v1, w1, hrun, hv1, hb1⟩ := papp2 w.heap.size w' g j (flatP ((ns.map fun b => posOf ls (bs b)).take j)) HTL.out (HTC.out w' HV.out.be) ⟨g1, 0, none⟩ (1 + (ns.length - j)) c1 (p.cells.toList ++ flatP ((ns.map fun b => posOf ls (bs b)).drop j)) HNL.out (HV.out.t9 H9.out) HMZ2.out (by omega) (Nat.le_trans HW0.out HV.out.be.size)
              refine wpOp_step rfl (fun K' hK' => ?_)
              have HK := Lib.hid hK'
              clear hK'
              refine step_append_run hrun rfl _ _ rfl rfl rfl rfl ?_
              go_simp
              exact HK.out _ _ ⟨by simp [HJ.out.sz], ⟨_, _, _, _, _, _, _, _, _, _, _, _, _, _, _, rfl, fun h0 => HV.out.k0 (getD_dn (by decide) h0), fun h0 => HV.out.k1 (getD_dn (by decide) h0), fun h0 => HV.out.k2 (getD_dn (by decide) h0), fun h0 => HV.out.k3 (getD_dn (by decide) h0), fun h0 => HV.out.k4 (getD_dn (by decide) h0), fun h0 => HV.out.k5 (getD_dn (by decide) h0), fun h0 => HV.out.k6 (getD_dn (by decide) h0), fun h0 => HV.out.k7 (getD_dn (by decide) h0), fun h0 => HV.out.k8 (getD_dn (by decide) h0), fun h0 => HV.out.k9 (getD_dn (by decide) h0), fun h0 => HV.out.n3 (getD_df (by decide) h0), fun h => ⟨getD_up hun (HV.out.q (getD_dn (by decide) h)).1, getD_up hun (HV.out.q (getD_dn (by decide) h)).2⟩, fun _ => hv1, fun h => (not_on hoff (HV.out.q11 (getD_dn (by decide) h))).elim, HV.out.be.trans (hb1.mono HV.out.be.size), HV.out.cp.below hb1, fun h => (HV.out.t5 (getD_dn (by decide) h)).below hb1, fun h => by have hx := HV.out.t9 (getD_dn (by decide) h); exact papp_keep hb1 hx, fun h => getD_up hun (HV.out.q9 (getD_dn (by decide) h)), fun _ => getD_up hun H9.out, fun h => getD_up hun (HV.out.q11 (getD_dn (by decide) h))⟩⟩
            · simp at ho
              subst ho
              have h10x : L.getD 10 false = true := hall { on := 10, ground := Ground.data } (by simp) (by decide)
              have h0x : L.getD 0 false = true := hall { on := 0, ground := Ground.phase } (by simp) (by decide)
              have h6x : L.getD 6 false = true := hall { on := 6, ground := Ground.phase } (by simp) (by decide)
              have H10 := Lib.hid h10x
              have H0 := Lib.hid h0x
              have H6 := Lib.hid h6x
              clear hall hi h10x h0x h6x
              refine wpOp_step rfl (fun K' hK' => ?_)
              have HK := Lib.hid hK'
              clear hK'
              go_simp
              exact HK.out _ _ ⟨by simp [HJ.out.sz], ⟨_, _, _, _, _, _, _, _, _, _, _, _, _, _, _, rfl, fun h0 => HV.out.k0 (getD_dn (by decide) h0), fun h0 => HV.out.k1 (getD_dn (by decide) h0), fun h0 => HV.out.k2 (getD_dn (by decide) h0), fun h0 => HV.out.k3 (getD_dn (by decide) h0), fun h0 => HV.out.k4 (getD_dn (by decide) h0), fun h0 => HV.out.k5 (getD_dn (by decide) h0), fun h0 => HV.out.k6 (getD_dn (by decide) h0), fun h0 => HV.out.k7 (getD_dn (by decide) h0), fun h0 => HV.out.k8 (getD_dn (by decide) h0), fun h0 => HV.out.k9 (getD_dn (by decide) h0), fun h => (not_on h (getD_set_same hun)).elim, fun _ => ⟨getD_up hun H0.out, getD_up hun H6.out⟩, fun h0 => HV.out.r10 (getD_dn (by decide) h0), fun _ => HV.out.r10 H10.out, HV.out.be, HV.out.cp, fun h0 => HV.out.t5 (getD_dn (by decide) h0), fun h0 => HV.out.t9 (getD_dn (by decide) h0), fun h => getD_up hun (HV.out.q9 (getD_dn (by decide) h)), fun h => getD_up hun (HV.out.q10 (getD_dn (by decide) h)), fun _ => getD_up hun H10.out⟩⟩
        · have t1 : decide ((j : Int) < (ns.length : Int)) = false := decide_eq_false (by omega)
          have HGT : Hid (∀ a, ns[j]? = some a → x.1.inst.data.toList < a) := by
            intro a ha
            rw [List.getElem?_eq_none hjg] at ha
            cases ha
          have HINS : Hid ((ns.take j ++ x.1.inst.data.toList :: ns.drop j).Pairwise (· < ·) ∧ ∀ b, b ∈ ns.take j ++ x.1.inst.data.toList :: ns.drop j ↔ hasI (ls.take (k + 1)) (bs b)) :=
            ⟨ins_asc HASC.out HLO.out HGT.out, fun b => by rw [ins_mem, HHS.out b, ← HMEM.out b]⟩
          have hba : Below wr.heap.size wr (wr.alloc (.cells #[.string x.1.inst, .string ⟨#[]⟩, .string ⟨#[]⟩] 53)) := (Below.refl _ wr).alloc (Nat.le_refl _) _
          have HBA := Lib.hid hba
          have HTOT := Lib.hid (rTotal19_any (wr.alloc (.cells #[.string x.1.inst, .string ⟨#[]⟩, .string ⟨#[]⟩] 53)).heap.size (some ad) ls c x.1.inst (wr.alloc (.cells #[.string x.1.inst, .string ⟨#[]⟩, .string ⟨#[]⟩] 53)) (by omega) ((HR.out.below ((HB.out.trans (hba.mono HB.out.size)).mono HN0.out)).mono (Nat.le_trans HN0.out (HB.out.trans (hba.mono HB.out.size)).size)) (Nat.le_refl _))
          have HPX := Lib.hid (heap_alloc_new wr (.cells #[.string x.1.inst, .string ⟨#[]⟩, .string ⟨#[]⟩] 53))
          clear hba
          go_wp2_with fail
          refine HTOT.out.mono ?_
          rintro e w3 ⟨rfl, b3⟩
          have hp3 := (b3.block wr.heap.size (Array.getElem?_eq_some_iff.1 HPX.out).1).trans HPX.out
          have HW3 := Lib.hid (HBA.out.trans (b3.mono HBA.out.size))
          have HP3 := Lib.hid hp3
          have e0 := Lib.cell_of_heap hp3 0
          have e1 := Lib.cell_of_heap hp3 1
          have e2 := Lib.cell_of_heap hp3 2
          simp at e0 e1 e2
          have f1 := Lib.frozen_of_heap hp3 1
          have f2 := Lib.frozen_of_heap hp3 2
          clear b3 hp3 HPX HTOT HBA
          go_upto_region 12 with fail
          have hPB : PosBox (((w3.setCell ⟨wr.heap.size, 1, none⟩ (.string (I (sumBy qtyOf (ownL ls x.1.inst))))).setCell ⟨wr.heap.size, 2, none⟩ (.string (I (sumBy costOf (ownL ls x.1.inst))))).drew) wr.heap.size (posOf ls x.1.inst) := pos_set2 HP3.out _ _
          have hBB : Below wr.heap.size wr (((w3.setCell ⟨wr.heap.size, 1, none⟩ (.string (I (sumBy qtyOf (ownL ls x.1.inst))))).setCell ⟨wr.heap.size, 2, none⟩ (.string (I (sumBy costOf (ownL ls x.1.inst))))).drew) := ((HW3.out.setCell (p := ⟨wr.heap.size, 1, none⟩) (Nat.le_refl _) _).setCell (p := ⟨wr.heap.size, 2, none⟩) (Nat.le_refl _) _).drew
          clear e0 e1 e2 f1 f2 HW3 HP3
          try clear t1
          try clear hjg
          generalize ((w3.setCell ⟨wr.heap.size, 1, none⟩ (.string (I (sumBy qtyOf (ownL ls x.1.inst))))).setCell ⟨wr.heap.size, 2, none⟩ (.string (I (sumBy costOf (ownL ls x.1.inst))))) = W5 at hPB hBB ⊢
          obtain ⟨W4, hW4⟩ : ∃ W4, W4 = W5.drew := ⟨_, rfl⟩
          rw [← hW4] at hPB hBB
          obtain ⟨p, hp⟩ : ∃ p, posOf ls x.1.inst = p := ⟨_, rfl⟩
          rw [hp] at hPB
          have HP := Lib.hid hp
          have HCP := Lib.hid hPB
          have HBW0 := Lib.hid (HB.out.trans (hBB.mono HB.out.size))
          have HW0 : Hid (w.heap.size ≤ W4.heap.size) := HBW0.out.size
          have hgl := HCAP.out.2.1
          have hgc := HROW.out.cells (g := g) rfl
          have HGG : Hid (∀ W, Below W4.heap.size W4 W → ∀ i u, (flatP (ns.map fun b => posOf ls (bs b)))[i]? = some u → W.cell? ⟨g, i, none⟩ = some u) := by
            intro W hW i u hu
            have h1 := hgc i u hu
            rw [addr_add0] at h1
            exact (hW.cell (p := ⟨g, i, none⟩) (Nat.lt_of_lt_of_le hgl hBB.size)).trans ((hBB.cell (p := ⟨g, i, none⟩) hgl).trans h1)
          obtain ⟨a2, ha2⟩ : ∃ a2 : Addr, a2 = (if c' = j then ⟨g, 0, none⟩ else ⟨g, j * 3, none⟩) := ⟨_, rfl⟩
          have HS1 := Lib.hid (fun W => pslice1 W g ns.length c' j (Nat.le_trans HJN.out HCAP.out.1))
          have hs2 := fun W => pslice2 W g ns.length c' j HJN.out
          rw [← ha2] at hs2
          have HS2 := Lib.hid hs2
          have HTC : Hid (∀ W, Below W4.heap.size W4 W → ∀ i u, (flatP ((ns.map fun b => posOf ls (bs b)).take j))[i]? = some u → W.cell? ((⟨g, 0, none⟩ : Addr).add i) = some u) := by
            intro W hW i u hu
            rw [addr_add0]
            exact HGG.out W hW i u (flatP_pre hu)
          have HDC : Hid (∀ W, Below W4.heap.size W4 W → ∀ i u, (flatP ((ns.map fun b => posOf ls (bs b)).drop j))[i]? = some u → W.cell? (a2.add i) = some u) := by
            intro W hW i u hu
            have hcj : c' ≠ j := by
              intro e
              have h1 := HCAP.out.1
              have h2 := HJN.out
              have : (ns.map fun b => posOf ls (bs b)).drop j = [] := List.drop_eq_nil_of_le (by rw [List.length_map]; omega)
              rw [this] at hu
              simp [flatP] at hu
            rw [ha2, if_neg hcj, addr_addk]
            exact HGG.out W hW _ u (flatP_post (by rw [List.length_map]; exact HJN.out) hu)
          have HTL : Hid ((flatP ((ns.map fun b => posOf ls (bs b)).take j)).length = j * 3) := by rw [Hid, flatP_len, List.length_take, List.length_map, Nat.min_eq_left HJN.out]
          have HDL : Hid ((flatP ((ns.map fun b => posOf ls (bs b)).drop j)).length = (ns.length - j) * 3) := by rw [Hid, flatP_len, List.length_drop, List.length_map]
          have HNL : Hid ((p.cells.toList ++ flatP ((ns.map fun b => posOf ls (bs b)).drop j)).length = (1 + (ns.length - j)) * 3) := by rw [Hid, List.length_append, HDL.out]; simp [Pos.cells]; omega
          have HMZ : Hid (ns.length - j ≤ 100000) := by have := HNZ.out; show _ ≤ _; omega
          have HMZ2 : Hid (j + (1 + (ns.length - j)) ≤ 200000) := by have := HNZ.out; have := HJN.out; show _ ≤ _; omega
          clear hp hPB hBB hgl hgc ha2 hs2
          subst hW4
          obtain ⟨Bp, hBp⟩ : ∃ Bp, wr.heap.size = Bp := ⟨_, rfl⟩
          rw [hBp] at HCP ⊢
          clear hBp
          have mixed : Tryz.prog.follows .mixedOrders = true := by kernel_rfl
          refine wp_region_any mixed (wpAny_inv (RQJ w.heap.size W5.drew g ns.length c' j a2 p Bp (ns.map fun b => posOf ls (bs b)) _ _ _ _ _ _ _ _ _ _ _ _ _ _ _ _ _ _ _ _ _ _ _ _ _ _ _ _ _ _ _ _ _ _ _ _ _ _ _ _ _ _ _ _ _ _ _ _ _ _ _ _ _ _ _ _) ?stRQ ?dnRQ _ _ _ _ ⟨by simp, ⟨0, 0, 0, _, _, _, _, _, _, _, _, _, _, _, _, rfl, fun h => by simp at h, fun h => by simp at h, fun h => by simp at h, fun h => by simp at h, fun h => by simp at h, fun h => by simp at h, fun h => by simp at h, fun h => by simp at h, fun h => by simp at h, fun h => by simp at h, fun _ => rfl, fun h => by simp at h, fun h => by simp at h, fun h => by simp at h, Below.refl _ _, HCP.out, fun h => by simp at h, fun h => by simp at h, fun h => by simp at h, fun h => by simp at h, fun h => by simp at h⟩⟩ (by decide))
          case dnRQ =>
            intro L a w' hj hr
            have all : ∀ i, i < 12 → L.getD i false = true := by
              intro i
              induction i using Nat.strongRecOn with
              | ind i ih =>
                intro hi
                refine (off_or_on L i).resolve_left fun h => ?_
                refine List.eq_nil_iff_forall_not_mem.1 hr i (ready_of (by rw [hj.sz]; exact hi) h (Array.getElem?_eq_getElem (by simpa using hi)) (fun e he hbd => ih e.on ?_ ?_))
                · rcases (show i = 0 ∨ i = 1 ∨ i = 2 ∨ i = 3 ∨ i = 4 ∨ i = 5 ∨ i = 6 ∨ i = 7 ∨ i = 8 ∨ i = 9 ∨ i = 10 ∨ i = 11 from by omega) with rfl | rfl | rfl | rfl | rfl | rfl | rfl | rfl | rfl | rfl | rfl | rfl
                  · simp at he
                  · simp at he
                  · simp at he
                  · simp at he
                    rcases he with rfl | rfl | rfl
                    all_goals first | decide | (exact absurd hbd (by decide))
                  · simp at he
                  · simp at he
                    subst he
                    first | decide | (exact absurd hbd (by decide))
                  · simp at he
                  · simp at he
                  · simp at he
                    rcases he with rfl | rfl
                    all_goals first | decide | (exact absurd hbd (by decide))
                  · simp at he
                    rcases he with rfl | rfl
                    all_goals first | decide | (exact absurd hbd (by decide))
                  · simp at he
                    rcases he with rfl | rfl | rfl
                    all_goals first | decide | (exact absurd hbd (by decide))
                  · simp at he
                    rcases he with rfl | rfl | rfl | rfl | rfl | rfl | rfl | rfl | rfl | rfl | rfl | rfl | rfl
                    all_goals first | decide | (exact absurd hbd (by decide))
                · rcases (show i = 0 ∨ i = 1 ∨ i = 2 ∨ i = 3 ∨ i = 4 ∨ i = 5 ∨ i = 6 ∨ i = 7 ∨ i = 8 ∨ i = 9 ∨ i = 10 ∨ i = 11 from by omega) with rfl | rfl | rfl | rfl | rfl | rfl | rfl | rfl | rfl | rfl | rfl | rfl
                  · simp at he
                  · simp at he
                  · simp at he
                  · simp at he
                    rcases he with rfl | rfl | rfl
                    all_goals first | decide | (exact absurd hbd (by decide))
                  · simp at he
                  · simp at he
                    subst he
                    first | decide | (exact absurd hbd (by decide))
                  · simp at he
                  · simp at he
                  · simp at he
                    rcases he with rfl | rfl
                    all_goals first | decide | (exact absurd hbd (by decide))
                  · simp at he
                    rcases he with rfl | rfl
                    all_goals first | decide | (exact absurd hbd (by decide))
                  · simp at he
                    rcases he with rfl | rfl | rfl
                    all_goals first | decide | (exact absurd hbd (by decide))
                  · simp at he
                    rcases he with rfl | rfl | rfl | rfl | rfl | rfl | rfl | rfl | rfl | rfl | rfl | rfl | rfl
                    all_goals first | decide | (exact absurd hbd (by decide))
            obtain ⟨Bn, g1, c1, s3, s58, s59, s60, s61, s62, s63, s64, s65, s66, s67, s68, rfl, hv⟩ := hj.fr
            have HF := Lib.hid (And.intro (hv.r11 (all 11 (by omega))) hv.be)
            clear all hv hj hr
            obtain ⟨g2, c2, e2, hrow2⟩ := HF.out.1
            subst e2
            dsimp only
            go_wp2_with fail
            go_roundw
            case rel =>
              refine ⟨k + 1, ns.take j ++ x.1.inst.data.toList :: ns.drop j, g2, c2, ?_, by go_num, by omega, HINS.out.1, HINS.out.2, (by rw [ins_len HJN.out]; have := HJN.out; have := HNZ.out; omega), ?_, HBW0.out.trans (HF.out.2.mono HW0.out)⟩
              · rw [ins_len HJN.out]
              · rw [ins_len HJN.out, ins_flat, HP.out]; exact hrow2
            case measure => simp [intOf]; omega
          case stRQ =>
            intro L a w' hj i hi
            obtain ⟨hun, o, ho, hall⟩ := mem_ready.1 hi
            have hoff := getD_off hun
            have hlt := (Array.getElem?_eq_some_iff.1 ho).1
            simp at hlt
            obtain ⟨Bn, g1, c1, s3, s58, s59, s60, s61, s62, s63, s64, s65, s66, s67, s68, rfl, hv⟩ := hj.fr
            have HV := Lib.hid hv
            have HJ := Lib.hid hj
            clear hv hj
            rcases (show i = 0 ∨ i = 1 ∨ i = 2 ∨ i = 3 ∨ i = 4 ∨ i = 5 ∨ i = 6 ∨ i = 7 ∨ i = 8 ∨ i = 9 ∨ i = 10 ∨ i = 11 from by omega) with rfl | rfl | rfl | rfl | rfl | rfl | rfl | rfl | rfl | rfl | rfl | rfl
            · simp at ho
              subst ho
              clear hall hi
              have h11 : L.getD 11 false = false := (off_or_on L 11).resolve_right (fun h => not_on hoff (HV.out.q h).1)
              have e3 := HV.out.n3 h11
              subst e3
              refine wpOp_step rfl (fun K' hK' => ?_)
              have HK := Lib.hid hK'
              clear hK'
              go_simp
              exact HK.out _ _ ⟨by simp [HJ.out.sz], ⟨_, _, _, _, _, _, _, _, _, _, _, _, _, _, _, rfl, fun _ => rfl, fun h0 => HV.out.k1 (getD_dn (by decide) h0), fun h0 => HV.out.k2 (getD_dn (by decide) h0), fun h0 => HV.out.k3 (getD_dn (by decide) h0), fun h0 => HV.out.k4 (getD_dn (by decide) h0), fun h0 => HV.out.k5 (getD_dn (by decide) h0), fun h0 => HV.out.k6 (getD_dn (by decide) h0), fun h0 => HV.out.k7 (getD_dn (by decide) h0), fun h0 => HV.out.k8 (getD_dn (by decide) h0), fun h0 => HV.out.k9 (getD_dn (by decide) h0), fun _ => rfl, fun h => ⟨getD_up hun (HV.out.q (getD_dn (by decide) h)).1, getD_up hun (HV.out.q (getD_dn (by decide) h)).2⟩, fun h => HV.out.r10 (getD_dn (by decide) h), fun h => (not_on h11 (getD_dn (by decide) h)).elim, HV.out.be, HV.out.cp, fun h0 => HV.out.t5 (getD_dn (by decide) h0), fun h0 => HV.out.t9 (getD_dn (by decide) h0), fun h => getD_up hun (HV.out.q9 (getD_dn (by decide) h)), fun h => getD_up hun (HV.out.q10 (getD_dn (by decide) h)), fun h => getD_up hun (HV.out.q11 (getD_dn (by decide) h))⟩⟩
            · simp at ho
              subst ho
              clear hall hi
              refine wpOp_step rfl (fun K' hK' => ?_)
              have HK := Lib.hid hK'
              clear hK'
              go_simp
              exact HK.out _ _ ⟨by simp [HJ.out.sz], ⟨_, _, _, _, _, _, _, _, _, _, _, _, _, _, _, rfl, fun h0 => HV.out.k0 (getD_dn (by decide) h0), fun _ => rfl, fun h0 => HV.out.k2 (getD_dn (by decide) h0), fun h0 => HV.out.k3 (getD_dn (by decide) h0), fun h0 => HV.out.k4 (getD_dn (by decide) h0), fun h0 => HV.out.k5 (getD_dn (by decide) h0), fun h0 => HV.out.k6 (getD_dn (by decide) h0), fun h0 => HV.out.k7 (getD_dn (by decide) h0), fun h0 => HV.out.k8 (getD_dn (by decide) h0), fun h0 => HV.out.k9 (getD_dn (by decide) h0), fun h0 => HV.out.n3 (getD_df (by decide) h0), fun h => ⟨getD_up hun (HV.out.q (getD_dn (by decide) h)).1, getD_up hun (HV.out.q (getD_dn (by decide) h)).2⟩, fun h0 => HV.out.r10 (getD_dn (by decide) h0), fun h0 => HV.out.r11 (getD_dn (by decide) h0), HV.out.be, HV.out.cp, fun h0 => HV.out.t5 (getD_dn (by decide) h0), fun h0 => HV.out.t9 (getD_dn (by decide) h0), fun h => getD_up hun (HV.out.q9 (getD_dn (by decide) h)), fun h => getD_up hun (HV.out.q10 (getD_dn (by decide) h)), fun h => getD_up hun (HV.out.q11 (getD_dn (by decide) h))⟩⟩
            · simp at ho
              subst ho
              clear hall hi
              refine wpOp_step rfl (fun K' hK' => ?_)
              have HK := Lib.hid hK'
              clear hK'
              go_simp
              exact HK.out _ _ ⟨by simp [HJ.out.sz], ⟨_, _, _, _, _, _, _, _, _, _, _, _, _, _, _, rfl, fun h0 => HV.out.k0 (getD_dn (by decide) h0), fun h0 => HV.out.k1 (getD_dn (by decide) h0), fun _ => rfl, fun h0 => HV.out.k3 (getD_dn (by decide) h0), fun h0 => HV.out.k4 (getD_dn (by decide) h0), fun h0 => HV.out.k5 (getD_dn (by decide) h0), fun h0 => HV.out.k6 (getD_dn (by decide) h0), fun h0 => HV.out.k7 (getD_dn (by decide) h0), fun h0 => HV.out.k8 (getD_dn (by decide) h0), fun h0 => HV.out.k9 (getD_dn (by decide) h0), fun h0 => HV.out.n3 (getD_df (by decide) h0), fun h => ⟨getD_up hun (HV.out.q (getD_dn (by decide) h)).1, getD_up hun (HV.out.q (getD_dn (by decide) h)).2⟩, fun h0 => HV.out.r10 (getD_dn (by decide) h0), fun h0 => HV.out.r11 (getD_dn (by decide) h0), HV.out.be, HV.out.cp, fun h0 => HV.out.t5 (getD_dn (by decide) h0), fun h0 => HV.out.t9 (getD_dn (by decide) h0), fun h => getD_up hun (HV.out.q9 (getD_dn (by decide) h)), fun h => getD_up hun (HV.out.q10 (getD_dn (by decide) h)), fun h => getD_up hun (HV.out.q11 (getD_dn (by decide) h))⟩⟩
            · simp at ho
              subst ho
              have h0x : L.getD 0 false = true := hall { on := 0, ground := Ground.data } (by simp) (by decide)
              have h1x : L.getD 1 false = true := hall { on := 1, ground := Ground.data } (by simp) (by decide)
              have h2x : L.getD 2 false = true := hall { on := 2, ground := Ground.data } (by simp) (by decide)
              have H0 := Lib.hid h0x
              have H1 := Lib.hid h1x
              have H2 := Lib.hid h2x
              clear hall hi h0x h1x h2x
              have e0 := HV.out.k0 H0.out
              subst e0
              have e1 := HV.out.k1 H1.out
              subst e1
              have e2 := HV.out.k2 H2.out
              subst e2
              have hs1 := HS1.out
              refine wpOp_step rfl (fun K' hK' => ?_)
              have HK := Lib.hid hK'
              clear hK'
              go_simp
              exact HK.out _ _ ⟨by simp [HJ.out.sz], ⟨_, _, _, _, _, _, _, _, _, _, _, _, _, _, _, rfl, fun h0 => HV.out.k0 (getD_dn (by decide) h0), fun h0 => HV.out.k1 (getD_dn (by decide) h0), fun h0 => HV.out.k2 (getD_dn (by decide) h0), fun _ => rfl, fun h0 => HV.out.k4 (getD_dn (by decide) h0), fun h0 => HV.out.k5 (getD_dn (by decide) h0), fun h0 => HV.out.k6 (getD_dn (by decide) h0), fun h0 => HV.out.k7 (getD_dn (by decide) h0), fun h0 => HV.out.k8 (getD_dn (by decide) h0), fun h0 => HV.out.k9 (getD_dn (by decide) h0), fun h0 => HV.out.n3 (getD_df (by decide) h0), fun h => ⟨getD_up hun (HV.out.q (getD_dn (by decide) h)).1, getD_up hun (HV.out.q (getD_dn (by decide) h)).2⟩, fun h0 => HV.out.r10 (getD_dn (by decide) h0), fun h0 => HV.out.r11 (getD_dn (by decide) h0), HV.out.be, HV.out.cp, fun h0 => HV.out.t5 (getD_dn (by decide) h0), fun h0 => HV.out.t9 (getD_dn (by decide) h0), fun h => getD_up hun (HV.out.q9 (getD_dn (by decide) h)), fun h => getD_up hun (HV.out.q10 (getD_dn (by decide) h)), fun h => getD_up hun (HV.out.q11 (getD_dn (by decide) h))⟩⟩
            · simp at ho
              subst ho
              clear hall hi
              have hcp := HV.out.cp
              have m0 := Lib.cell_of_heap hcp 0; have m1 := Lib.cell_of_heap hcp 1; have m2 := Lib.cell_of_heap hcp 2
              simp [Pos.cells] at m0 m1 m2
              clear hcp
              refine wpOp_step rfl (fun K' hK' => ?_)
              have HK := Lib.hid hK'
              clear hK'
              go_simp
              exact HK.out _ _ ⟨by simp [HJ.out.sz], ⟨_, _, _, _, _, _, _, _, _, _, _, _, _, _, _, rfl, fun h0 => HV.out.k0 (getD_dn (by decide) h0), fun h0 => HV.out.k1 (getD_dn (by decide) h0), fun h0 => HV.out.k2 (getD_dn (by decide) h0), fun h0 => HV.out.k3 (getD_dn (by decide) h0), fun _ => rfl, fun h0 => HV.out.k5 (getD_dn (by decide) h0), fun h0 => HV.out.k6 (getD_dn (by decide) h0), fun h0 => HV.out.k7 (getD_dn (by decide) h0), fun h0 => HV.out.k8 (getD_dn (by decide) h0), fun h0 => HV.out.k9 (getD_dn (by decide) h0), fun h0 => HV.out.n3 (getD_df (by decide) h0), fun h => ⟨getD_up hun (HV.out.q (getD_dn (by decide) h)).1, getD_up hun (HV.out.q (getD_dn (by decide) h)).2⟩, fun h0 => HV.out.r10 (getD_dn (by decide) h0), fun h0 => HV.out.r11 (getD_dn (by decide) h0), HV.out.be, HV.out.cp, fun h0 => HV.out.t5 (getD_dn (by decide) h0), fun h0 => HV.out.t9 (getD_dn (by decide) h0), fun h => getD_up hun (HV.out.q9 (getD_dn (by decide) h)), fun h => getD_up hun (HV.out.q10 (getD_dn (by decide) h)), fun h => getD_up hun (HV.out.q11 (getD_dn (by decide) h))⟩⟩
            · simp at ho
              subst ho
              have h4x : L.getD 4 false = true := hall { on := 4, ground := Ground.data } (by simp) (by decide)
              have H4 := Lib.hid h4x
              clear hall hi h4x
              have e0 := HV.out.k4 H4.out
              subst e0
              have hbb : Below w'.heap.size w' (w'.alloc (.cells #[.string p.inst, .string p.qty, .string p.cost] 53)) := (Below.refl _ w').alloc (Nat.le_refl _) _
              refine wpOp_step rfl (fun K' hK' => ?_)
              have HK := Lib.hid hK'
              clear hK'
              go_simp
              exact HK.out _ _ ⟨by simp [HJ.out.sz], ⟨w'.heap.size, _, _, _, _, _, _, _, _, _, _, _, _, _, _, rfl, fun h0 => HV.out.k0 (getD_dn (by decide) h0), fun h0 => HV.out.k1 (getD_dn (by decide) h0), fun h0 => HV.out.k2 (getD_dn (by decide) h0), fun h0 => HV.out.k3 (getD_dn (by decide) h0), fun h0 => HV.out.k4 (getD_dn (by decide) h0), fun _ => rfl, fun h0 => HV.out.k6 (getD_dn (by decide) h0), fun h0 => HV.out.k7 (getD_dn (by decide) h0), fun h0 => HV.out.k8 (getD_dn (by decide) h0), fun h0 => HV.out.k9 (getD_dn (by decide) h0), fun h0 => HV.out.n3 (getD_df (by decide) h0), fun h => ⟨getD_up hun (HV.out.q (getD_dn (by decide) h)).1, getD_up hun (HV.out.q (getD_dn (by decide) h)).2⟩, fun h => (not_on hoff (HV.out.q9 (HV.out.q10 (getD_dn (by decide) h)))).elim, fun h => (not_on hoff (HV.out.q9 (HV.out.q10 (HV.out.q11 (getD_dn (by decide) h))))).elim, HV.out.be.trans (hbb.mono HV.out.be.size), HV.out.cp.below hbb, fun _ => heap_alloc_new _ _, fun h => (not_on hoff (HV.out.q9 (getD_dn (by decide) h))).elim, fun h => getD_up hun (HV.out.q9 (getD_dn (by decide) h)), fun h => getD_up hun (HV.out.q10 (getD_dn (by decide) h)), fun h => getD_up hun (HV.out.q11 (getD_dn (by decide) h))⟩⟩
            · simp at ho
              subst ho
              clear hall hi
              have h11 : L.getD 11 false = false := (off_or_on L 11).resolve_right (fun h => not_on hoff (HV.out.q h).2)
              have e3 := HV.out.n3 h11
              subst e3
              refine wpOp_step rfl (fun K' hK' => ?_)
              have HK := Lib.hid hK'
              clear hK'
              go_simp
              exact HK.out _ _ ⟨by simp [HJ.out.sz], ⟨_, _, _, _, _, _, _, _, _, _, _, _, _, _, _, rfl, fun h0 => HV.out.k0 (getD_dn (by decide) h0), fun h0 => HV.out.k1 (getD_dn (by decide) h0), fun h0 => HV.out.k2 (getD_dn (by decide) h0), fun h0 => HV.out.k3 (getD_dn (by decide) h0), fun h0 => HV.out.k4 (getD_dn (by decide) h0), fun h0 => HV.out.k5 (getD_dn (by decide) h0), fun _ => rfl, fun h0 => HV.out.k7 (getD_dn (by decide) h0), fun h0 => HV.out.k8 (getD_dn (by decide) h0), fun h0 => HV.out.k9 (getD_dn (by decide) h0), fun _ => rfl, fun h => ⟨getD_up hun (HV.out.q (getD_dn (by decide) h)).1, getD_up hun (HV.out.q (getD_dn (by decide) h)).2⟩, fun h => HV.out.r10 (getD_dn (by decide) h), fun h => (not_on h11 (getD_dn (by decide) h)).elim, HV.out.be, HV.out.cp, fun h0 => HV.out.t5 (getD_dn (by decide) h0), fun h0 => HV.out.t9 (getD_dn (by decide) h0), fun h => getD_up hun (HV.out.q9 (getD_dn (by decide) h)), fun h => getD_up hun (HV.out.q10 (getD_dn (by decide) h)), fun h => getD_up hun (HV.out.q11 (getD_dn (by decide) h))⟩⟩
            · simp at ho
              subst ho
              clear hall hi
              refine wpOp_step rfl (fun K' hK' => ?_)
              have HK := Lib.hid hK'
              clear hK'
              go_simp
              exact HK.out _ _ ⟨by simp [HJ.out.sz], ⟨_, _, _, _, _, _, _, _, _, _, _, _, _, _, _, rfl, fun h0 => HV.out.k0 (getD_dn (by decide) h0), fun h0 => HV.out.k1 (getD_dn (by decide) h0), fun h0 => HV.out.k2 (getD_dn (by decide) h0), fun h0 => HV.out.k3 (getD_dn (by decide) h0), fun h0 => HV.out.k4 (getD_dn (by decide) h0), fun h0 => HV.out.k5 (getD_dn (by decide) h0), fun h0 => HV.out.k6 (getD_dn (by decide) h0), fun _ => rfl, fun h0 => HV.out.k8 (getD_dn (by decide) h0), fun h0 => HV.out.k9 (getD_dn (by decide) h0), fun h0 => HV.out.n3 (getD_df (by decide) h0), fun h => ⟨getD_up hun (HV.out.q (getD_dn (by decide) h)).1, getD_up hun (HV.out.q (getD_dn (by decide) h)).2⟩, fun h0 => HV.out.r10 (getD_dn (by decide) h0), fun h0 => HV.out.r11 (getD_dn (by decide) h0), HV.out.be, HV.out.cp, fun h0 => HV.out.t5 (getD_dn (by decide) h0), fun h0 => HV.out.t9 (getD_dn (by decide) h0), fun h => getD_up hun (HV.out.q9 (getD_dn (by decide) h)), fun h => getD_up hun (HV.out.q10 (getD_dn (by decide) h)), fun h => getD_up hun (HV.out.q11 (getD_dn (by decide) h))⟩⟩
            · simp at ho
              subst ho
              have h6x : L.getD 6 false = true := hall { on := 6, ground := Ground.data } (by simp) (by decide)
              have h7x : L.getD 7 false = true := hall { on := 7, ground := Ground.data } (by simp) (by decide)
              have H6 := Lib.hid h6x
              have H7 := Lib.hid h7x
              clear hall hi h6x h7x
              have e0 := HV.out.k6 H6.out
              subst e0
              have e1 := HV.out.k7 H7.out
              subst e1
              have hs2 := HS2.out
              refine wpOp_step rfl (fun K' hK' => ?_)
              have HK := Lib.hid hK'
              clear hK'
              go_simp
              exact HK.out _ _ ⟨by simp [HJ.out.sz], ⟨_, _, _, _, _, _, _, _, _, _, _, _, _, _, _, rfl, fun h0 => HV.out.k0 (getD_dn (by decide) h0), fun h0 => HV.out.k1 (getD_dn (by decide) h0), fun h0 => HV.out.k2 (getD_dn (by decide) h0), fun h0 => HV.out.k3 (getD_dn (by decide) h0), fun h0 => HV.out.k4 (getD_dn (by decide) h0), fun h0 => HV.out.k5 (getD_dn (by decide) h0), fun h0 => HV.out.k6 (getD_dn (by decide) h0), fun h0 => HV.out.k7 (getD_dn (by decide) h0), fun _ => rfl, fun h0 => HV.out.k9 (getD_dn (by decide) h0), fun h0 => HV.out.n3 (getD_df (by decide) h0), fun h => ⟨getD_up hun (HV.out.q (getD_dn (by decide) h)).1, getD_up hun (HV.out.q (getD_dn (by decide) h)).2⟩, fun h0 => HV.out.r10 (getD_dn (by decide) h0), fun h0 => HV.out.r11 (getD_dn (by decide) h0), HV.out.be, HV.out.cp, fun h0 => HV.out.t5 (getD_dn (by decide) h0), fun h0 => HV.out.t9 (getD_dn (by decide) h0), fun h => getD_up hun (HV.out.q9 (getD_dn (by decide) h)), fun h => getD_up hun (HV.out.q10 (getD_dn (by decide) h)), fun h => getD_up hun (HV.out.q11 (getD_dn (by decide) h))⟩⟩
            · simp at ho
              subst ho
              have h5x : L.getD 5 false = true := hall { on := 5, ground := Ground.data } (by simp) (by decide)
              have h8x : L.getD 8 false = true := hall { on := 8, ground := Ground.data } (by simp) (by decide)
              have H5 := Lib.hid h5x
              have H8 := Lib.hid h8x
              clear hall hi h5x h8x
              have e0 := HV.out.k5 H5.out
              subst e0
              have e1 := HV.out.k8 H8.out
              subst e1
              obtain ⟨g1', c1', w1, hrun, hb1, hc1⟩ := papp1 w' Bn p (HV.out.t5 H5.out) a2 (ns.length - j) (c' - j) (flatP ((ns.map fun b => posOf ls (bs b)).drop j)) HDL.out (HDC.out w' HV.out.be) (flatP_one _) HMZ.out
              refine wpOp_step rfl (fun K' hK' => ?_)
              have HK := Lib.hid hK'
              clear hK'
              refine step_append_run hrun rfl _ _ rfl rfl rfl rfl ?_
              go_simp
              exact HK.out _ _ ⟨by simp [HJ.out.sz], ⟨_, g1', c1', _, _, _, _, _, _, _, _, _, _, _, _, rfl, fun h0 => HV.out.k0 (getD_dn (by decide) h0), fun h0 => HV.out.k1 (getD_dn (by decide) h0), fun h0 => HV.out.k2 (getD_dn (by decide) h0), fun h0 => HV.out.k3 (getD_dn (by decide) h0), fun h0 => HV.out.k4 (getD_dn (by decide) h0), fun h0 => HV.out.k5 (getD_dn (by decide) h0), fun h0 => HV.out.k6 (getD_dn (by decide) h0), fun h0 => HV.out.k7 (getD_dn (by decide) h0), fun h0 => HV.out.k8 (getD_dn (by decide) h0), fun _ => rfl, fun h0 => HV.out.n3 (getD_df (by decide) h0), fun h => ⟨getD_up hun (HV.out.q (getD_dn (by decide) h)).1, getD_up hun (HV.out.q (getD_dn (by decide) h)).2⟩, fun h => (not_on hoff (HV.out.q10 (getD_dn (by decide) h))).elim, fun h => (not_on hoff (HV.out.q10 (HV.out.q11 (getD_dn (by decide) h)))).elim, HV.out.be.trans (hb1.mono HV.out.be.size), HV.out.cp.below hb1, fun h => (HV.out.t5 (getD_dn (by decide) h)).below hb1, fun _ => hc1, fun _ => getD_up hun H5.out, fun h => getD_up hun (HV.out.q10 (getD_dn (by decide) h)), fun h => getD_up hun (HV.out.q11 (getD_dn (by decide) h))⟩⟩
            · simp at ho
              subst ho
              have h3x : L.getD 3 false = true := hall { on := 3, ground := Ground.data } (by simp) (by decide)
              have h9x : L.getD 9 false = true := hall { on := 9, ground := Ground.data } (by simp) (by decide)
              have H3 := Lib.hid h3x
              have H9 := Lib.hid h9x
              clear hall hi h3x h9x
              have e0 := HV.out.k3 H3.out
              subst e0
              have e1 := HV.out.k9 H9.out
              subst e1
              obtain ⟨v1, w1, hrun, hv1, hb1⟩ := papp2 w.heap.size w' g j (flatP ((ns.map fun b => posOf ls (bs b)).take j)) HTL.out (HTC.out w' HV.out.be) ⟨g1, 0, none⟩ (1 + (ns.length - j)) c1 (p.cells.toList ++ flatP ((ns.map fun b => posOf ls (bs b)).drop j)) HNL.out (HV.out.t9 H9.out) HMZ2.out (by omega) (Nat.le_trans HW0.out HV.out.be.size)
              refine wpOp_step rfl (fun K' hK' => ?_)
              have HK := Lib.hid hK'
              clear hK'
              refine step_append_run hrun rfl _ _ rfl rfl rfl rfl ?_
              go_simp
              exact HK.out _ _ ⟨by simp [HJ.out.sz], ⟨_, _, _, _, _, _, _, _, _, _, _, _, _, _, _, rfl, fun h0 => HV.out.k0 (getD_dn (by decide) h0), fun h0 => HV.out.k1 (getD_dn (by decide) h0), fun h0 => HV.out.k2 (getD_dn (by decide) h0), fun h0 => HV.out.k3 (getD_dn (by decide) h0), fun h0 => HV.out.k4 (getD_dn (by decide) h0), fun h0 => HV.out.k5 (getD_dn (by decide) h0), fun h0 => HV.out.k6 (getD_dn (by decide) h0), fun h0 => HV.out.k7 (getD_dn (by decide) h0), fun h0 => HV.out.k8 (getD_dn (by decide) h0), fun h0 => HV.out.k9 (getD_dn (by decide) h0), fun h0 => HV.out.n3 (getD_df (by decide) h0), fun h => ⟨getD_up hun (HV.out.q (getD_dn (by decide) h)).1, getD_up hun (HV.out.q (getD_dn (by decide) h)).2⟩, fun _ => hv1, fun h => (not_on hoff (HV.out.q11 (getD_dn (by decide) h))).elim, HV.out.be.trans (hb1.mono HV.out.be.size), HV.out.cp.below hb1, fun h => (HV.out.t5 (getD_dn (by decide) h)).below hb1, fun h => by have hx := HV.out.t9 (getD_dn (by decide) h); exact papp_keep hb1 hx, fun h => getD_up hun (HV.out.q9 (getD_dn (by decide) h)), fun _ => getD_up hun H9.out, fun h => getD_up hun (HV.out.q11 (getD_dn (by decide) h))⟩⟩
            · simp at ho
              subst ho
              have h10x : L.getD 10 false = true := hall { on := 10, ground := Ground.data } (by simp) (by decide)
              have h0x : L.getD 0 false = true := hall { on := 0, ground := Ground.phase } (by simp) (by decide)
              have h6x : L.getD 6 false = true := hall { on := 6, ground := Ground.phase } (by simp) (by decide)
              have H10 := Lib.hid h10x
              have H0 := Lib.hid h0x
              have H6 := Lib.hid h6x
              clear hall hi h10x h0x h6x
              refine wpOp_step rfl (fun K' hK' => ?_)
              have HK := Lib.hid hK'
              clear hK'
              go_simp
              exact HK.out _ _ ⟨by simp [HJ.out.sz], ⟨_, _, _, _, _, _, _, _, _, _, _, _, _, _, _, rfl, fun h0 => HV.out.k0 (getD_dn (by decide) h0), fun h0 => HV.out.k1 (getD_dn (by decide) h0), fun h0 => HV.out.k2 (getD_dn (by decide) h0), fun h0 => HV.out.k3 (getD_dn (by decide) h0), fun h0 => HV.out.k4 (getD_dn (by decide) h0), fun h0 => HV.out.k5 (getD_dn (by decide) h0), fun h0 => HV.out.k6 (getD_dn (by decide) h0), fun h0 => HV.out.k7 (getD_dn (by decide) h0), fun h0 => HV.out.k8 (getD_dn (by decide) h0), fun h0 => HV.out.k9 (getD_dn (by decide) h0), fun h => (not_on h (getD_set_same hun)).elim, fun _ => ⟨getD_up hun H0.out, getD_up hun H6.out⟩, fun h0 => HV.out.r10 (getD_dn (by decide) h0), fun _ => HV.out.r10 H10.out, HV.out.be, HV.out.cp, fun h0 => HV.out.t5 (getD_dn (by decide) h0), fun h0 => HV.out.t9 (getD_dn (by decide) h0), fun h => getD_up hun (HV.out.q9 (getD_dn (by decide) h)), fun h => getD_up hun (HV.out.q10 (getD_dn (by decide) h)), fun _ => getD_up hun H10.out⟩⟩
    · have hcx : decide ((k : Int) < (ls.length : Int)) = false := by simp; omega
      have hkk : k = ls.length := by omega
      subst hkk
      have hmem := HMEM.out
      rw [List.take_length] at hmem
      have hns := names_unique HASC.out hmem
      have hrow := HROW.out
      have e : ns.length = (posL ls).length := by rw [posL_len, hns]
      have HPP : Hid (PosPost w (posL ls) (.returned (.slice (some ⟨g, 0, none⟩) ns.length c')) wr) := by
        have e1 : (ns.map fun b => posOf ls (bs b)) = posL ls := by unfold posL; rw [← hns]
        rw [e1, e] at hrow
        rw [e]
        obtain ⟨A2, c2, e2, q1, q2, q3⟩ := RdPos.of_own hrow
        injection e2 with e3 _ e5
        subst e3 e5
        exact ⟨_, _, rfl, q1, q2, q3, HB.out⟩
      clear hmem hns hrow e
      go_wp2_with fail
      go_ret
      exact HPP.out
end Go.Proofs.YthmfkgcoocikjaaGreatDoor
