/-
  slices.Clone and slices.Insert of lots.
  slices.Insert of a lot: the road with a new row; all roads in one.
-/
import Derived.Test.YtdnmpgoigagjmaaGreatDoorA43
import Derived.Lib.Overlaps
import Derived.Lib.AppendZerosOnto
import Derived.Laws.CopyOwn
set_option linter.unusedVariables false
set_option linter.unusedSimpArgs false
namespace Go.Proofs.YtdnmpgoigagjmaaGreatDoor
open Go.RowKit Tr Go.Shelf
theorem run_copy_row7 {P : Program} (w : World) (dT sT ty elem : TypeId) (g o dLen dCap : Nat) (a : Addr) (sLen sCap : Nat) (cur : List Value) (t : TypeId) (cs : List Value) (n : Nat)
 (hu : P.underlying dT = some (.slice elem)) (hs : (P.info? elem).map (·.size) = some 7)
 (hg : w.heap[g]? = some (.cells cur.toArray t (0, 0))) (hn : n = Nat.min sLen dLen) (hcl : cs.length = n * 7)
 (hsrc : ∀ j v, cs[j]? = some v → w.cell? (a.add j) = some v) (hfit : o + cs.length ≤ cur.length) (h1 : ∀ v ∈ cs, v.oneCell' = true) :
 (Builtin.copy_ #[dT, sT] ty #[.slice (some ⟨g, o, none⟩) dLen dCap, .slice (some a) sLen sCap]).run P w =
   .ok (goInt n) (w.setRow g (splice cur o cs).toArray) := by
 have hl := run_loadCells_list (P := P) w a cs hsrc
 have hst := run_storeCells_at P g o t cs 0 cur.toArray w hg (by simpa using hfit) h1
 cases hq : P.info? elem with
 | none => simp [hq] at hs
 | some i =>
   have hi : i.size = 7 := by simpa [hq] using hs
   rw [hcl] at hl
   simp [Builtin.copy_, run_underlying hu, Builtin.lenOf, Builtin.firstCells, sizeOf, typeInfo, hq, hi, ← hn, hl, hst, splice]
theorem step_copy_run7 {P : Program} {ops : Array Oper} {o : Oper} {a : Act} {w : World} {K : Act → World → Prop} {Q : Exit → Act → World → Prop} {E : Prop}
 (hg : o.guard = none) (d x : Operand) (dT sT : TypeId) (hop : o.op = Op.call { callee := Callee.builtin Builtin.copy, args := #[d, x], argTypes := #[dT, sT] })
 (v u : Value) (hd : a.eval d = v) (hx : a.eval x = u) {v' : Value} {w' : World} (hr : (Builtin.copy_ #[dT, sT] o.type #[v, u]).run P w = .ok v' w') (hK : K (a.put o.dst v') w') :
 if Region.wanted o (yielded ops a.tmps) = true then Oper.wp P o a w K Q else E := by
 have hw : Region.wanted o (yielded ops a.tmps) = true := by simp [Region.wanted, hg]
 rw [if_pos hw]
 unfold Oper.wp
 simp [execOp, hop, resolve, invoke, builtin, hd, hx, hr, Result.andThen]
 exact hK
theorem wpList_copy_run7 {P : Program} (w : World) {ops : Array Oper} {rest : List Oper} {o : Oper} {a : Act} {Q : Exit → Act → World → Prop} (hgd : o.guard = none) (d s : Operand) (t t' : TypeId)
 (ho : o.op = .call { callee := .builtin .copy, args := #[d, s], argTypes := #[t, t'] }) (v u : Value) (hd : a.eval d = v) (hs : a.eval s = u) {v' : Value} {w' : World}
 (hr : (Builtin.copy_ #[t, t'] o.type #[v, u]).run P w = .ok v' w') (h : wpList P ops Q rest (a.put o.dst v') w') : wpList P ops Q (o :: rest) a w := by
 refine wpList_plain hgd fun K hK => ?_
 unfold Oper.wp execOp
 simp only [ho, resolve, invoke, builtin, Sem.run_bind, Sem.run_pure, Result.andThen_ok, List.map_toArray, List.map_cons, List.map_nil, hd, hs, hr]
 exact hK _ _ h
set_option maxHeartbeats 4000000 in
set_option maxRecDepth 100000 in
theorem cloneLots_own (A : Option Addr) (ls : List SLot) (c n : Nat) (w : World) (hR : RdB n w A ls) (hn : n ≤ w.heap.size) (hl : ls.length ≤ 100000) (hA : A = none → ls.length = 0 ∧ c = 0) :
 Calls Tryz.prog 36 #[.slice A ls.length c] w fun e w' => ∃ v, e = .returned v ∧ w'.ownsRow w.heap.size 49 7 v ls.length (flatL ls) ∧ Below w.heap.size w w' := by
 cases A with
 | none =>
   obtain ⟨e, rfl⟩ := hA rfl
   obtain rfl : ls = [] := List.eq_nil_of_length_eq_zero e
   clear hR hA
   have he : ∀ W : World, (binOp .eql 22 (.slice none 0 0) (.slice none 0 0)).run Tryz.prog W = .ok (.bool true) W := fun _ => rfl
   go_enter Tryz.func36, Tryz.ntmps36
   go_wp2_with fail
   go_ret
   exact ⟨_, rfl, World.ownsRow_nil _ _ _ _, Below.refl _ _⟩
 | some ad =>
   obtain ⟨i0, hi0, hz0, hz1, hz2⟩ := info_parts Tryz.infoLot
   obtain ⟨N, hN⟩ : ∃ N, ls.length = N := ⟨_, rfl⟩
   have hfl := flatL_len ls
   rw [hN] at hl hfl ⊢
   have HR := Lib.hid hR
   have HN := Lib.hid hn
   clear hR hA hn
   have hown : (w.alloc (.cells #[] 49)).ownsRow w.heap.size 49 7 (.slice (some ⟨w.heap.size, 0, none⟩) 0 0) 0 [] := World.ownsRow_made w #[] 0 (Nat.le_refl _) (Nat.zero_le _) rfl
   have HO := Lib.hid hown
   have HB : Hid (Below w.heap.size w (w.alloc (.cells #[] 49))) := (Below.refl _ w).alloc (Nat.le_refl _) _
   have HF := Lib.hid ((HR.out.below (HB.out.mono HN.out)).flat)
   clear hown
   have he : ∀ W : World, (binOp .eql 22 (.slice (some ad) N c) (.slice none 0 0)).run Tryz.prog W = .ok (.bool false) W := fun _ => rfl
   go_enter Tryz.func36, Tryz.ntmps36
   go_wp2_with (at_builtin; refine wpList_append_own _ rfl _ _ 22 rfl w.heap.size 49 i0 (.agg #[.string ⟨#[]⟩, .string ⟨#[]⟩, .int .i64 0, .int .i64 0, .string ⟨#[]⟩, .string ⟨#[]⟩, .string ⟨#[]⟩]) 7 96 Tryz.underlying22 hi0 hz0 hz1 hz2 rfl (by decide) _ _ _ rfl HO.out ad N c (flatL ls) rfl hfl HF.out (flatL_one _) (by unfold maxLen; omega) (by omega) HB.out.size ?_; intro v2 w2 hown2 hgrow2 _; have HO2 := Lib.hid hown2; have HB2 := Lib.hid (HB.out.grown hgrow2 HB.out.size (fun k hk => (HO.out.lt k hk).1)); clear hown2 hgrow2)
   have hrow := HO2.out
   rw [Nat.zero_add, List.nil_append] at hrow
   have HF2 := Lib.hid (And.intro hrow HB2.out)
   clear hrow
   go_ret
   exact ⟨_, rfl, HF2.out.1, HF2.out.2⟩
theorem lslice_nil (W : World) : (Instr.sliceAt 22 (.slice none 0 0) (some (.int .i64 ((0 : Nat) : Int))) none none).run Tryz.prog W = .ok (.slice none 0 0) W := by
 have ht : Tryz.prog.underlying 22 = some (.slice (Tryz.prog.elem 22)) := by kernel_rfl
 have hz : (sizeOf (Tryz.prog.elem 22)).run Tryz.prog W = .ok 7 W := by kernel_rfl
 rw [run_sliceAt_slice W _ _ _ _ _ ht, run_slice_l W _ _ _ _ ht .i64 _ (by omega) (by omega), hz]
 simp [Result.andThen, sliced]
theorem lotbox_src {w : World} {B : Nat} {x : Lot} (h : LotBox w B x) : ∀ j u, x.cells.toList[j]? = some u → w.cell? ((⟨B, 0, none⟩ : Addr).add j) = some u := by
 intro j u hu
 rw [addr_add0, Lib.cell_of_heap h j, ← Array.getElem?_toList]
 exact hu
theorem lotcells_one (x : Lot) : ∀ u ∈ x.cells.toList, u.oneCell' = true := by
 intro u hu
 simp at hu
 rcases hu with rfl | rfl | rfl | rfl | rfl | rfl | rfl <;> rfl
set_option maxHeartbeats 4000000 in
set_option maxRecDepth 100000 in
theorem insLots_end (base : Nat) (v : Value) (n : Nat) (xs : List Value) (x : Lot) (B cB : Nat) (w : World) (hown : w.ownsRow base 49 7 v n xs) (hx : LotBox w B x) (hl : n ≤ 100000) (hb : base ≤ w.heap.size) :
 Calls Tryz.prog 110 #[v, .int .i64 (n : Int), .slice (some ⟨B, 0, none⟩) 1 cB] w fun e w' => ∃ v', e = .returned v' ∧ w'.ownsRow base 49 7 v' (n + 1) (xs ++ x.cells.toList) ∧ Below base w w' := by
 obtain ⟨i0, hi0, hz0, hz1, hz2⟩ := info_parts Tryz.infoLot
 have HO := Lib.hid hown
 have HX := Lib.hid hx
 have HBZ := Lib.hid hb
 obtain ⟨A, c, rfl, hsl⟩ : ∃ A c, v = .slice A n c ∧ ∃ u, ∀ W, (Instr.sliceAt 22 (.slice A n c) (some (.int .i64 (n : Int))) none none).run Tryz.prog W = .ok u W := by
  rcases hown.2 with ⟨rfl, rfl⟩ | ⟨g, cap, cur, rfl, _, _, hc, _⟩
  ·exact ⟨none, 0, rfl, _, fun W => lslice_nil W⟩
  ·exact ⟨_, _, rfl, _, fun W => lslice_hi W _ _ _ _ (Nat.le_refl _)⟩
 obtain ⟨u, hsl⟩ := hsl
 have hs0 := hsl w
 clear hown hx hb
 go_enter Tryz.func110, Tryz.ntmps110
 go_wp2_with (at_builtin; refine wpList_append_own _ rfl _ _ 22 rfl base 49 i0 (.agg #[.string ⟨#[]⟩, .string ⟨#[]⟩, .int .i64 0, .int .i64 0, .string ⟨#[]⟩, .string ⟨#[]⟩, .string ⟨#[]⟩]) 7 96 Tryz.underlying22 hi0 hz0 hz1 hz2 rfl (by decide) _ _ _ rfl HO.out ⟨B, 0, none⟩ 1 cB x.cells.toList rfl (by simp) (lotbox_src HX.out) (lotcells_one x) (by unfold maxLen; omega) (by omega) HBZ.out ?_; intro v2 w2 hown2 hgrow2 _; have HO2 := Lib.hid hown2; have HB2 := Lib.hid ((Below.refl base w).grown hgrow2 HBZ.out (fun k hk => (HO.out.lt k hk).1)); clear hown2 hgrow2)
 go_ret
 exact ⟨_, rfl, HO2.out, HB2.out⟩
theorem splice_take {α : Type} (L : List α) (o : Nat) (cs : List α) (m : Nat) (hm : m ≤ o) (ho : o ≤ L.length) : (splice L o cs).take m = L.take m := by
 unfold splice
 rw [List.take_append_of_le_length (by rw [List.length_take]; omega), List.take_take, Nat.min_eq_left hm]
theorem splice_shift {α : Type} (L xs : List α) (a b k : Nat) (hL : a + k + b ≤ L.length) (hx : xs.length = k) :
 (splice (splice L (a + k) ((L.drop a).take b)) a xs).take (a + k + b) = L.take a ++ (xs ++ (L.drop a).take b) := by
 have hb : ((L.drop a).take b).length = b := by rw [List.length_take, List.length_drop]; omega
 generalize (L.drop a).take b = ys at hb
 unfold splice
 rw [hx, hb]
 have e1 : (L.take (a + k) ++ (ys ++ L.drop (a + k + b))).take a = L.take a := by
  rw [List.take_append_of_le_length (by rw [List.length_take]; omega), List.take_take, Nat.min_eq_left (by omega)]
 have e2 : (L.take (a + k) ++ (ys ++ L.drop (a + k + b))).drop (a + k) = ys ++ L.drop (a + k + b) := by
  rw [List.drop_append_of_le_length (by rw [List.length_take]; omega), List.drop_eq_nil_of_le (by rw [List.length_take]; omega), List.nil_append]
 rw [e1, e2, ← List.append_assoc, ← List.append_assoc, List.take_append_of_le_length (by simp; omega), List.take_of_length_le (by simp; omega), List.append_assoc]
theorem overlaps_no (w : World) (B g m vc lb cb o nB nG : Nat) (x y : Array Value) (hB : w.heap[B]? = some (.cells x 49 (0, 0))) (hg : w.heap[g]? = some (.cells y 49 (0, 0))) (hne : B ≠ g) (hy : y.size ≠ 0) :
 (callFunc 152 #[.slice (some ⟨B, 0, none⟩) m vc, .slice (some ⟨g, o, none⟩) lb cb]).run Tryz.prog w = .ok (.value (.bool false)) w := by
 have ht : Tryz.prog.underlying 22 = some (.slice 49) := by kernel_rfl
 have hz : ∀ W, (sizeOf 49).run Tryz.prog W = .ok 7 W := fun W => by kernel_rfl
 rw [run_callFunc_extern Tryz.func152 (by kernel_rfl) (by kernel_rfl) (by kernel_rfl) (e := Extern.SlicesOverlaps.overlaps #[22, 22] #[4]) (by kernel_rfl),
  Lib.run_overlaps_apart w 22 4 49 ht 7 hz ⟨B, 0, none⟩ ⟨g, o, none⟩ m vc lb cb hne 49 49 x.size y.size (by simp [World.shape?, hB]) (by simp [World.shape?, hg]) hy (by simp [World.frozen?, hB]) (by simp [World.frozen?, hB])]
 rfl
set_option maxHeartbeats 4000000 in
set_option maxRecDepth 100000 in
theorem insLots_shift (g n c i : Nat) (cur : List Value) (x : Lot) (B cB : Nat) (w : World) (hg : w.heap[g]? = some (.cells cur.toArray 49 (0, 0))) (hcl : cur.length = c * 7) (h1 : ∀ u ∈ cur.take (n * 7), u.oneCell' = true)
 (hi : i < n) (hroom : n + 1 ≤ c) (hc : c ≤ 9223372036854775807) (hx : LotBox w B x) (hne : B ≠ g) :
 Calls Tryz.prog 110 #[.slice (some ⟨g, 0, none⟩) n c, .int .i64 (i : Int), .slice (some ⟨B, 0, none⟩) 1 cB] w fun e w' => e = .returned (.slice (some ⟨g, 0, none⟩) (n + 1) c) ∧
  (∃ cur' : List Value, w'.heap[g]? = some (.cells cur'.toArray 49 (0, 0)) ∧ cur'.length = c * 7 ∧ cur'.take ((n + 1) * 7) = (cur.take (n * 7)).take (i * 7) ++ (x.cells.toList ++ (cur.take (n * 7)).drop (i * 7))) ∧ w.grownBy w' (some g) := by
 have ht : Tryz.prog.underlying 22 = some (.slice 49) := by kernel_rfl
 have hsz : (Tryz.prog.info? 49).map (·.size) = some 7 := by
  obtain ⟨i0, hi0, h0, h1, h2⟩ := info_parts Tryz.infoLot
  rw [hi0]; simp [h1]
 have mixed : Tryz.prog.follows .mixedOrders = true := by kernel_rfl
 obtain ⟨ys, hys⟩ : ∃ ys, ys = (cur.drop (i * 7)).take ((n - i) * 7) := ⟨_, rfl⟩
 have hyl : ys.length = (n - i) * 7 := by rw [hys, List.length_take, List.length_drop, hcl]; omega
 obtain ⟨r1, hr1⟩ : ∃ r1, r1 = splice cur ((i + 1) * 7) ys := ⟨_, rfl⟩
 have hl1 : r1.length = c * 7 := by rw [hr1, length_splice _ _ _ (by rw [hyl, hcl]; omega), hcl]
 obtain ⟨r2, hr2⟩ : ∃ r2, r2 = splice r1 (i * 7) x.cells.toList := ⟨_, rfl⟩
 have hl2 : r2.length = c * 7 := by rw [hr2, length_splice _ _ _ (by rw [hl1]; simp; omega), hl1]
 have hxl : x.cells.toList.length = 7 := rfl
 have hend : r2.take ((n + 1) * 7) = (cur.take (n * 7)).take (i * 7) ++ (x.cells.toList ++ (cur.take (n * 7)).drop (i * 7)) := by
  have h := splice_shift cur x.cells.toList (i * 7) ((n - i) * 7) 7 (by rw [hcl]; omega) hxl
  rw [← hys, show i * 7 + 7 = (i + 1) * 7 from by omega, ← hr1, ← hr2, show (i + 1) * 7 + (n - i) * 7 = (n + 1) * 7 from by omega] at h
  rw [h, List.take_take, Nat.min_eq_left (by omega), List.drop_take, show n * 7 - i * 7 = (n - i) * 7 from by omega, ← hys]
 have HEND := Lib.hid hend
 have hcp1 : ∀ (W : World), W.heap[g]? = some (.cells cur.toArray 49 (0, 0)) → ∀ ty dc sc, (Builtin.copy_ #[22, 22] ty #[.slice (some ⟨g, (i + 1) * 7, none⟩) (n - i) dc, .slice (some ⟨g, i * 7, none⟩) (n + 1 - i) sc]).run Tryz.prog W = .ok (goInt (n - i : Nat)) (W.setRow g r1.toArray) := fun W hW ty dc sc => by
  rw [hr1]
  refine run_copy_row7 W _ _ ty 49 g _ _ dc ⟨g, i * 7, none⟩ _ sc cur 49 ys (n - i) ht hsz hW (by simp only [Nat.min_def]; split <;> omega) hyl ?_ (by rw [hyl, hcl]; omega) ?_
  ·intro j v hj
   rw [hys, List.getElem?_take] at hj
   split at hj
   ·rw [List.getElem?_drop] at hj
    rw [Addr.add_lit, Lib.cell_of_heap hW (i * 7 + j)]
    simpa using hj
   ·cases hj
  ·intro u hu
   refine h1 u ?_
   rw [hys] at hu
   have h : (cur.drop (i * 7)).take ((n - i) * 7) = (cur.take (n * 7)).drop (i * 7) := by rw [List.drop_take]; congr 1; omega
   rw [h] at hu
   exact List.mem_of_mem_drop hu
 have hcp2 : ∀ (W : World), W.heap[g]? = some (.cells r1.toArray 49 (0, 0)) → LotBox W B x → ∀ ty dc, (Builtin.copy_ #[22, 22] ty #[.slice (some ⟨g, i * 7, none⟩) (n + 1 - i) dc, .slice (some ⟨B, 0, none⟩) 1 cB]).run Tryz.prog W = .ok (goInt (1 : Nat)) (W.setRow g r2.toArray) := fun W hW hWx ty dc => by
  rw [hr2]
  exact run_copy_row7 W _ _ ty 49 g _ _ dc ⟨B, 0, none⟩ _ cB r1 49 x.cells.toList 1 ht hsz hW (by simp only [Nat.min_def]; split <;> omega) rfl (lotbox_src hWx) (by rw [hl1]; simp; omega) (lotcells_one x)
 have hov := fun lb cb => overlaps_no w B g 1 cB lb cb ((i + 1) * 7) 0 0 x.cells cur.toArray hx hg hne (by simp [hcl]; omega)
 have g1 : w.drew.heap[g]? = some (.cells cur.toArray 49 (0, 0)) := hg
 have g2 : (w.drew.setRow g r1.toArray).heap[g]? = some (.cells r1.toArray 49 (0, 0)) := setRow_heap _ g _ _ _ _ g1
 have g3 : LotBox (w.drew.setRow g r1.toArray) B x := (setRow_other _ g B _ hne).trans hx
 have g4 : ((w.drew.setRow g r1.toArray).setRow g r2.toArray).heap[g]? = some (.cells r2.toArray 49 (0, 0)) := setRow_heap _ g _ _ _ _ g2
 have g5 : w.grownBy ((w.drew.setRow g r1.toArray).setRow g r2.toArray) (some g) := by
  refine ⟨rfl, rfl, rfl, by simp [World.setRow], fun k hk hkg => ?_⟩
  rw [setRow_other _ g k _ (fun e => hkg (by rw [e])), setRow_other _ g k _ (fun e => hkg (by rw [e]))]
  rfl
 have HFIN := Lib.hid (And.intro g4 g5)
 have HL2 := Lib.hid hl2
 have hs1 := fun W => lslice_hi W ⟨g, 0, none⟩ n c i (by omega)
 have hs2 := fun W => lslice_lo W ⟨g, 0, none⟩ n c (n + 1) (by omega)
 have hs3 := fun W => lslice_hi W ⟨g, 0, none⟩ (n + 1) c (i + 1) (by omega)
 have hs4 := fun W => lslice_hi W ⟨g, 0, none⟩ (n + 1) c i (by omega)
 rw [if_neg (by omega), addr_add0] at hs1 hs3 hs4
 have hz2 : ((i : Int) == (n : Int)) = false := beq_eq_false_iff_ne.2 (by omega)
 have hz3 : decide ((n : Int) + 1 > (c : Int)) = false := decide_eq_false (by omega)
 have hz4 : decide ((c : Int) < (n : Int) + 1) = false := decide_eq_false (by omega)
 have hw1 : IntKind.i64.wrap ((n : Int) + 1) = (n : Int) + 1 := by rw [IntKind.wrap_i64]; omega
 have hw2 : IntKind.i64.wrap ((i : Int) + 1) = (i : Int) + 1 := by rw [IntKind.wrap_i64]; omega
 have hb1 : (0 : Int) ≤ (i : Int) + 1 := by omega
 have hin : i ≤ n := by omega
 have htn : ((i : Int) + 1).toNat = i + 1 := by omega
 have hb2 : ¬ (c = i + 1) := by omega
 have hb3 : (i : Int) ≤ (n : Int) + 1 := by omega
 have hb4 : ¬ (c = i) := by omega
 have c1 := hcp1 w.drew g1
 have c2 := hcp2 _ g2 g3
 clear hys hyl hr1 hl1 hr2 hend hcp1 hcp2 g4 g5 hcl h1 hx hg
 go_enter Tryz.func110, Tryz.ntmps110
 go_wp2_with (simp only [hov])
 clear hov
 go_region_law (refine step_copy_run7 rfl _ _ 22 22 rfl _ _ (by simp [Act.eval, Act.put]) (by simp [Act.eval, Act.put]) (c1 _ _ _) ?_)
 go_wp2_with (at_builtin; refine wpList_copy_run7 _ rfl _ _ 22 22 rfl _ _ rfl rfl (c2 _ _) ?_)
 go_ret
 exact ⟨rfl, ⟨_, HFIN.out.1, HL2.out, HEND.out⟩, HFIN.out.2⟩
end Go.Proofs.YtdnmpgoigagjmaaGreatDoor
namespace Go.Proofs.YtdnmpgoigagjmaaGreatDoor
open Go.RowKit Tr Go.Shelf
theorem zeroCells_one (n : Nat) : ∀ u ∈ (Builtin.zeroCells (Value.agg #[.string ⟨#[]⟩, .string ⟨#[]⟩, .int .i64 0, .int .i64 0, .string ⟨#[]⟩, .string ⟨#[]⟩, .string ⟨#[]⟩]).cells n).toList, True := fun _ _ => trivial
theorem splice_grow {α : Type} (p zs xs ys : List α) (a k b : Nat) (hp : p.length = a) (hx : xs.length = k) (hy : ys.length = b) (hz : k + b ≤ zs.length) :
 (splice (splice (p ++ zs) a xs) (a + k) ys).take (a + k + b) = p ++ (xs ++ ys) := by
 subst hp hx hy
 have e1 : splice (p ++ zs) p.length xs = (p ++ xs) ++ zs.drop xs.length := by
  unfold splice
  rw [List.take_left, List.drop_append, List.drop_eq_nil_of_le (by omega), List.nil_append, Nat.add_sub_cancel_left, List.append_assoc]
 rw [e1]
 unfold splice
 rw [← List.length_append, List.take_left, ← List.append_assoc, List.take_append_of_le_length (by simp; omega), List.take_of_length_le (by simp; omega), List.append_assoc]
set_option maxHeartbeats 4000000 in
set_option maxRecDepth 100000 in
theorem insLots_grow (g n c i : Nat) (cur : List Value) (x : Lot) (B cB : Nat) (w : World) (hg : w.heap[g]? = some (.cells cur.toArray 49 (0, 0))) (hcl : cur.length = c * 7) (h1 : ∀ u ∈ cur.take (n * 7), u.oneCell' = true)
 (hi : i < n) (hnc : n ≤ c) (hroom : c < n + 1) (hc : n ≤ 100000) (hx : LotBox w B x) (hne : B ≠ g) :
 Calls Tryz.prog 110 #[.slice (some ⟨g, 0, none⟩) n c, .int .i64 (i : Int), .slice (some ⟨B, 0, none⟩) 1 cB] w fun e w' => ∃ v', e = .returned v' ∧
  w'.ownsRow w.heap.size 49 7 v' (n + 1) ((cur.take (n * 7)).take (i * 7) ++ (x.cells.toList ++ (cur.take (n * 7)).drop (i * 7))) ∧ Below w.heap.size w w' := by
 obtain rfl : c = n := by omega
 have ht : Tryz.prog.underlying 22 = some (.slice 49) := by kernel_rfl
 have hti : Tryz.prog.underlying 3 = some (.int .i64) := by kernel_rfl
 obtain ⟨i0, hi0, hz0, hzs, hzb⟩ := info_parts Tryz.infoLot
 have hsz : (Tryz.prog.info? 49).map (·.size) = some 7 := by rw [hi0]; simp [hzs]
 have mixed : Tryz.prog.follows .mixedOrders = true := by kernel_rfl
 have hgl : g < w.heap.size := (Array.getElem?_eq_some_iff.1 hg).1
 have hBl : B < w.heap.size := hx.lt
 have htk : cur.take (c * 7) = cur := List.take_of_length_le (by omega)
 rw [htk] at h1 ⊢
 obtain ⟨ps, hps⟩ : ∃ ps, ps = cur.take (i * 7) := ⟨_, rfl⟩
 have hpl : ps.length = i * 7 := by rw [hps, List.length_take]; omega
 obtain ⟨ys, hys⟩ : ∃ ys, ys = cur.drop (i * 7) := ⟨_, rfl⟩
 have hyl : ys.length = (c - i) * 7 := by rw [hys, List.length_drop, hcl]; omega
 obtain ⟨G, hG⟩ : ∃ G, G = grownCap w (c + 1) c 49 := ⟨_, rfl⟩
 have hGn : c + 1 ≤ G := by rw [hG]; exact grownCap_ge w _ _ _
 have hGm : G ≤ maxLen := by rw [hG]; exact grownCap_le_maxLen w (c + 1) c 49 (by unfold maxLen; omega)
 have hG63 : G ≤ 9223372036854775807 := by unfold maxLen at hGm; omega
 have hold : (Builtin.firstCells i0.size i (.slice (some ⟨g, 0, none⟩) i c)).run Tryz.prog w.drew = .ok ps.toArray w.drew := by
  rw [hzs]
  refine run_firstCells_some w.drew 7 i ⟨g, 0, none⟩ i c ps hpl (fun j v hj => ?_)
  rw [hps, List.getElem?_take] at hj
  split at hj
  ·rw [addr_add0]
   show w.cell? _ = _
   rw [Lib.cell_of_heap hg j]
   simpa using hj
  ·cases hj
 obtain ⟨zs, hzs2⟩ : ∃ zs : List Value, zs = (Builtin.zeroCells (Value.agg #[.string ⟨#[]⟩, .string ⟨#[]⟩, .int .i64 0, .int .i64 0, .string ⟨#[]⟩, .string ⟨#[]⟩, .string ⟨#[]⟩]).cells (c + 1 - i)).toList ++ (Builtin.zeroCells (Value.agg #[.string ⟨#[]⟩, .string ⟨#[]⟩, .int .i64 0, .int .i64 0, .string ⟨#[]⟩, .string ⟨#[]⟩, .string ⟨#[]⟩]).cells (G - (c + 1))).toList := ⟨_, rfl⟩
 have hzl : zs.length = (c + 1 - i) * 7 + (G - (c + 1)) * 7 := by rw [hzs2]; simp [size_zeroCells, Value.cells]
 have hrow : ps.toArray ++ Builtin.zeroCells (Value.agg #[.string ⟨#[]⟩, .string ⟨#[]⟩, .int .i64 0, .int .i64 0, .string ⟨#[]⟩, .string ⟨#[]⟩, .string ⟨#[]⟩]).cells (c + 1 - i) ++ Builtin.zeroCells (Value.agg #[.string ⟨#[]⟩, .string ⟨#[]⟩, .int .i64 0, .int .i64 0, .string ⟨#[]⟩, .string ⟨#[]⟩, .string ⟨#[]⟩]).cells (G - (c + 1)) = (ps ++ zs).toArray := by
  rw [hzs2]
  apply Array.toList_inj.1
  simp
 have hrz : ∀ ty, (Builtin.append_ #[22, 3] ty #[.slice (some ⟨g, 0, none⟩) i c, .int .i64 ((c : Int) + 1 - (i : Int))]).run Tryz.prog w = .ok (.slice (some ⟨w.heap.size, 0, none⟩) (c + 1) G) (w.drew.alloc (.cells (ps ++ zs).toArray 49)) := fun ty => by
  have h := Lib.run_append_grow_zeros w 22 3 ty 49 i0 _ .i64 .i64 ht hti hi0 hz0 (some ⟨g, 0, none⟩) i c ps hold (c + 1 - i) (by omega) (by omega) (by omega) (by omega) (by rw [hzb]; omega) (by rw [hzb, show i + (c + 1 - i) = c + 1 from by omega]; exact growslice_fits (by omega) (by omega))
  rw [show i + (c + 1 - i) = c + 1 from by omega, ← hG, show ((c + 1 - i : Nat) : Int) = (c : Int) + 1 - (i : Int) from by omega, hrow] at h
  exact h
 obtain ⟨r0, hr0⟩ : ∃ r0, r0 = ps ++ zs := ⟨_, rfl⟩
 rw [← hr0] at hrz
 have hl0 : r0.length = G * 7 := by rw [hr0, List.length_append, hpl, hzl]; omega
 obtain ⟨r1, hr1⟩ : ∃ r1, r1 = splice r0 (i * 7) x.cells.toList := ⟨_, rfl⟩
 have hxl : x.cells.toList.length = 7 := rfl
 have hl1 : r1.length = G * 7 := by rw [hr1, length_splice _ _ _ (by rw [hl0, hxl]; omega), hl0]
 obtain ⟨r2, hr2⟩ : ∃ r2, r2 = splice r1 ((i + 1) * 7) ys := ⟨_, rfl⟩
 have hl2 : r2.length = G * 7 := by rw [hr2, length_splice _ _ _ (by rw [hl1, hyl]; omega), hl1]
 have hend : r2.take ((c + 1) * 7) = cur.take (i * 7) ++ (x.cells.toList ++ cur.drop (i * 7)) := by
  have h := splice_grow ps zs x.cells.toList ys (i * 7) 7 ((c - i) * 7) hpl hxl hyl (by rw [hzl]; omega)
  rw [← hr0, ← hr1, show i * 7 + 7 = (i + 1) * 7 from by omega, ← hr2, show (i + 1) * 7 + (c - i) * 7 = (c + 1) * 7 from by omega] at h
  rw [h, hps, hys]
 have hN : w.heap.size ≠ g := by omega
 have hNB : w.heap.size ≠ B := by omega
 have hcp1 : ∀ (W : World), W.heap[w.heap.size]? = some (.cells r0.toArray 49 (0, 0)) → LotBox W B x → ∀ ty dc, (Builtin.copy_ #[22, 22] ty #[.slice (some ⟨w.heap.size, i * 7, none⟩) (c + 1 - i) dc, .slice (some ⟨B, 0, none⟩) 1 cB]).run Tryz.prog W = .ok (goInt (1 : Nat)) (W.setRow w.heap.size r1.toArray) := fun W hW hWx ty dc => by
  rw [hr1]
  exact run_copy_row7 W _ _ ty 49 w.heap.size _ _ dc ⟨B, 0, none⟩ _ cB r0 49 x.cells.toList 1 ht hsz hW (by simp only [Nat.min_def]; split <;> omega) rfl (lotbox_src hWx) (by rw [hl0, hxl]; omega) (lotcells_one x)
 have hcp2 : ∀ (W : World), W.heap[w.heap.size]? = some (.cells r1.toArray 49 (0, 0)) → W.heap[g]? = some (.cells cur.toArray 49 (0, 0)) → ∀ ty dc sc, (Builtin.copy_ #[22, 22] ty #[.slice (some ⟨w.heap.size, (i + 1) * 7, none⟩) (c - i) dc, .slice (some ⟨g, i * 7, none⟩) (c - i) sc]).run Tryz.prog W = .ok (goInt (c - i : Nat)) (W.setRow w.heap.size r2.toArray) := fun W hW hWg ty dc sc => by
  rw [hr2]
  refine run_copy_row7 W _ _ ty 49 w.heap.size _ _ dc ⟨g, i * 7, none⟩ _ sc r1 49 ys (c - i) ht hsz hW (by simp) hyl ?_ (by rw [hl1, hyl]; omega) (fun u hu => h1 u (by rw [hys] at hu; exact List.mem_of_mem_drop hu))
  intro j v hj
  rw [hys, List.getElem?_drop] at hj
  rw [Addr.add_lit, Lib.cell_of_heap hWg (i * 7 + j)]
  simpa using hj
 obtain ⟨W1, hW1⟩ : ∃ W1, W1 = w.drew.alloc (.cells r0.toArray 49) := ⟨_, rfl⟩
 rw [← hW1] at hrz
 have k1 : W1.heap[w.heap.size]? = some (.cells r0.toArray 49 (0, 0)) := by rw [hW1]; exact heap_alloc_new w.drew _
 have k2 : ∀ k, k < w.heap.size → W1.heap[k]? = w.heap[k]? := fun k hk => by rw [hW1]; exact heap_alloc_old w.drew _ hk
 have b1 : Below w.heap.size w W1 := by rw [hW1]; exact (Below.refl _ w).drew.alloc (Nat.le_refl _) _
 have k3 : LotBox W1 B x := (k2 B hBl).trans hx
 have c1 := hcp1 W1 k1 k3
 obtain ⟨W2, hW2⟩ : ∃ W2, W2 = W1.setRow w.heap.size r1.toArray := ⟨_, rfl⟩
 have k4 : W2.heap[w.heap.size]? = some (.cells r1.toArray 49 (0, 0)) := by rw [hW2]; exact setRow_heap _ _ _ _ _ _ k1
 have k5 : W2.heap[g]? = some (.cells cur.toArray 49 (0, 0)) := by rw [hW2, setRow_other _ _ g _ (by omega), k2 g hgl, hg]
 have b2 : Below w.heap.size w W2 := by rw [hW2]; exact below_setRow b1 (Nat.le_refl _) _
 rw [← hW2] at c1
 have c2 := hcp2 W2.drew k4 k5
 have b3 : Below w.heap.size w (W2.drew.setRow w.heap.size r2.toArray) := below_setRow b2.drew (Nat.le_refl _) _
 have k6 : (W2.drew.setRow w.heap.size r2.toArray).heap[w.heap.size]? = some (.cells r2.toArray 49 (0, 0)) := setRow_heap _ _ _ _ _ _ (show W2.drew.heap[w.heap.size]? = _ from k4)
 have hfin : (W2.drew.setRow w.heap.size r2.toArray).ownsRow w.heap.size 49 7 (.slice (some ⟨w.heap.size, 0, none⟩) (c + 1) G) (c + 1) (cur.take (i * 7) ++ (x.cells.toList ++ cur.drop (i * 7))) := by
  refine ⟨?_, .inr ⟨_, G, _, rfl, Nat.le_refl _, k6, hGn, hGm, by simpa using hl2, ?_⟩⟩
  ·rw [← hend, List.length_take, hl2]; omega
  ·rw [← hend]
 have HFIN := Lib.hid (And.intro hfin b3)
 have hs1 := fun W => lslice_hi W ⟨g, 0, none⟩ c c i (by omega)
 have hs2 := fun W => lslice_lo W ⟨g, 0, none⟩ c c i (by omega)
 have hs3 := fun W => lslice_hi W ⟨w.heap.size, 0, none⟩ (c + 1) G i (by omega)
 rw [if_neg (by omega), addr_add0] at hs1 hs3
 have hz2 : ((i : Int) == (c : Int)) = false := beq_eq_false_iff_ne.2 (by omega)
 have hz3 : decide ((c : Int) + 1 > (c : Int)) = true := decide_eq_true (by omega)
 have hz4 : decide ((c : Int) < (c : Int) + 1) = true := decide_eq_true (by omega)
 have hw1 : IntKind.i64.wrap ((c : Int) + 1) = (c : Int) + 1 := by rw [IntKind.wrap_i64]; omega
 have hw2 : IntKind.i64.wrap ((i : Int) + 1) = (i : Int) + 1 := by rw [IntKind.wrap_i64]; omega
 have hw3 : IntKind.i64.wrap ((c : Int) + 1 - (i : Int)) = (c : Int) + 1 - (i : Int) := by rw [IntKind.wrap_i64]; omega
 have hb1 : (0 : Int) ≤ (i : Int) + 1 := by omega
 have hin : i ≤ c := by omega
 have htn : ((i : Int) + 1).toNat = i + 1 := by omega
 have hb2 : ¬ (G = i + 1) := by omega
 have hb3 : (i : Int) ≤ (c : Int) + 1 := by omega
 have hb4 : ¬ (G = i) := by omega
 have hb5 : ¬ (c = i) := by omega
 clear hys hyl hr1 hl1 hr2 hl2 hend hcp1 hcp2 hcl h1 hx hg hold hzs2 hzl hrow hr0 hl0 hfin b1 b2 b3 k1 k2 k3 k4 k5 k6 hps hpl hG htk hGm hW1 hW2
 go_enter Tryz.func110, Tryz.ntmps110
 go_wp2_with (first
  | (at_builtin; refine Lib.wpList_append_run _ rfl _ _ _ _ rfl _ _ rfl rfl _ _ (hrz _) ?_)
  | (at_builtin; refine wpList_copy_run7 _ rfl _ _ 22 22 rfl _ _ rfl rfl (c1 _ _) ?_))
 go_region_law (refine step_copy_run7 rfl _ _ 22 22 rfl _ _ (by simp [Act.eval, Act.put]) (by simp [Act.eval, Act.put]) (c2 _ _ _) ?_)
 go_wp2_with fail
 go_ret
 exact ⟨_, rfl, HFIN.out.1, HFIN.out.2⟩
theorem own_mono {w : World} {base base' : Nat} {n : Nat} {v : Value} {xs : List Value} (h : w.ownsRow base 49 7 v n xs) (hb : base' ≤ base) : w.ownsRow base' 49 7 v n xs := by
 refine ⟨h.1, ?_⟩
 rcases h.2 with h | ⟨g, cap, cur, hv, hg, hr⟩
 ·exact .inl h
 ·exact .inr ⟨g, cap, cur, hv, Nat.le_trans hb hg, hr⟩
theorem insLots_any (base : Nat) (v : Value) (n : Nat) (xs : List Value) (x : Lot) (B cB i : Nat) (w : World) (hown : w.ownsRow base 49 7 v n xs) (h1 : ∀ u ∈ xs, u.oneCell' = true) (hx : LotBox w B x)
 (hne : v.ownBlock ≠ some B) (hi : i ≤ n) (hl : n ≤ 100000) (hb : base ≤ w.heap.size) :
 Calls Tryz.prog 110 #[v, .int .i64 (i : Int), .slice (some ⟨B, 0, none⟩) 1 cB] w fun e w' => ∃ v', e = .returned v' ∧ w'.ownsRow base 49 7 v' (n + 1) (xs.take (i * 7) ++ (x.cells.toList ++ xs.drop (i * 7))) ∧ Below base w w' := by
 have hxs := hown.1
 rcases Nat.eq_or_lt_of_le hi with rfl | hlt
 ·rw [List.take_of_length_le (by omega), List.drop_eq_nil_of_le (by omega), List.append_nil]
  exact insLots_end base v i xs x B cB w hown hx hl hb
 rcases hown.2 with ⟨rfl, rfl⟩ | ⟨g, c, cur, rfl, hgb, hg, hnc, hcm, hcl, htk⟩
 ·exact absurd hlt (by omega)
 have hne' : B ≠ g := fun e => hne (by rw [e]; rfl)
 have hgl : g < w.heap.size := (Array.getElem?_eq_some_iff.1 hg).1
 have hcl' : cur.toList.length = c * 7 := by simpa using hcl
 have hg' : w.heap[g]? = some (.cells cur.toList.toArray 49 (0, 0)) := by rw [Array.toArray_toList]; exact hg
 have h1' : ∀ u ∈ cur.toList.take (n * 7), u.oneCell' = true := by rw [htk]; exact h1
 rcases Nat.lt_or_ge c (n + 1) with hroom | hroom
 ·refine (insLots_grow g n c i cur.toList x B cB w hg' hcl' h1' hlt hnc hroom hl hx hne').mono ?_
  rintro e w' ⟨v', rfl, ho, hbw⟩
  rw [htk] at ho
  exact ⟨v', rfl, own_mono ho hb, hbw.mono hb⟩
 ·refine (insLots_shift g n c i cur.toList x B cB w hg' hcl' h1' hlt hroom (by unfold maxLen at hcm; omega) hx hne').mono ?_
  rintro e w' ⟨rfl, ⟨cur', hg2, hl', ht'⟩, hgr⟩
  rw [htk] at ht'
  refine ⟨_, rfl, ⟨?_, .inr ⟨g, c, _, rfl, hgb, hg2, hroom, hcm, by simpa using hl', by simpa using ht'⟩⟩, (Below.refl base w).grown hgr hb (fun k hk => by cases hk; exact hgb)⟩
  rw [← ht', List.length_take, hl']; omega
end Go.Proofs.YtdnmpgoigagjmaaGreatDoor
