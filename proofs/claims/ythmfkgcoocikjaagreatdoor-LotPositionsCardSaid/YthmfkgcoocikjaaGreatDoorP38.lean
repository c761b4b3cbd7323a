/-
  tranchelaw19.LotPositions returns true. (Printed by gen_law9.py.)
-/
import Derived.Test.YthmfkgcoocikjaaGreatDoorP36
import Derived.Test.YthmfkgcoocikjaaGreatDoorP37
import Derived.Deep.RegionWith
import Derived.Laws.Cover1
import Derived.Sort.Walk0
import Derived.Laws.BitsLemmas
set_option linter.unusedVariables false
set_option linter.unusedSimpArgs false
namespace Go.Proofs.YthmfkgcoocikjaaGreatDoor
open Go.RowKit Tr Go.Shelf

def TruePost19 (w : World) (e : Ending) (w' : World) : Prop := e = .returned (.bool true) ∧ Below w.heap.size w w'
set_option maxHeartbeats 2000000 in
theorem rGreat19_len (A : Option Addr) (ls : List Lot) (c : Nat) (hlm : ls.length ≤ 9223372036854775807) (w : World) (hR : RdL w A ls) :
    Calls Tryz.prog 9 #[.slice A ls.length c] w (GreatPost w ((ls.length ≤ 12 ∨ 999 ≤ ls.length) ∧ ls.length ≤ 1002 ∧ ∀ l ∈ ls, l.tiny)) := by
  by_cases h2 : 1002 < ls.length
  · have t1 : decide ((12 : Int) < (ls.length : Int)) = true := decide_eq_true (by omega)
    have t2 : decide ((ls.length : Int) < 999) = false := decide_eq_false (by omega)
    have t3 : decide ((1002 : Int) < (ls.length : Int)) = true := decide_eq_true (by omega)
    clear h2
    go_enter Tryz.func9, Tryz.ntmps9
    go_wp2_with fail
    go_ret
    exact ⟨true, rfl, fun h => (by cases h), Below.refl _ _⟩
  · refine (rGreat19_any A ls c hlm w hR).mono ?_
    rintro e w1 ⟨g, h1, h3, h4⟩
    exact ⟨g, h1, fun hg => ⟨(h3 hg).1, by omega, (h3 hg).2⟩, h4⟩

/-- the closure of LotPositions -/
theorem posClo_any (p : Pos) (B : Nat) (l : Lot) (w : World) (h : LotBox w B l) :
    Calls Tryz.prog 33 #[.agg #[.string p.inst, .string p.qty, .string p.cost], .pointer (some ⟨B, 0, none⟩)] w fun e w' => e = .returned (.bool (decide (p.inst = l.inst))) ∧ Below w.heap.size w w' := by
  obtain ⟨W0, hW0⟩ : ∃ W0, w.alloc (.cells #[.string p.inst, .string p.qty, .string p.cost] 53) = W0 := ⟨_, rfl⟩
  have hb : Below w.heap.size w W0 := by rw [← hW0]; exact (Below.refl _ w).alloc (Nat.le_refl _) _
  have k1 : PosBox W0 w.heap.size p := by rw [← hW0]; exact heap_alloc_new w _
  have k0 := h.below hb
  have c1 := Lib.cell_of_heap k0 1
  have d0 := Lib.cell_of_heap k1 0
  simp [Pos.cells] at c1 d0
  have hse := str_eq p.inst l.inst
  have HB := Lib.hid hb
  clear k0 k1 h hb
  go_enter Tryz.func33, Tryz.ntmps33
  go_wp2_with fail
  go_ret
  exact ⟨rfl, HB.out⟩

set_option maxHeartbeats 2000000 in
set_option maxRecDepth 100000 in
theorem idxPos_has (n₀ : Nat) (A : Option Addr) (ps : List Pos) (c B : Nat) (l : Lot) (hlen : ps.length ≤ 1000000) (hm : ∃ p ∈ ps, p.inst = l.inst) (w : World) (hR : RdPos n₀ w A ps) (hn : n₀ ≤ w.heap.size) (hx : LotBox w B l) :
    Calls Tryz.prog 74 #[.slice A ps.length c, .func (.func 33) #[] #[.pointer (some ⟨B, 0, none⟩)]] w fun e w' => (∃ n : Nat, e = .returned (.int .i64 (n : Int))) ∧ Below w.heap.size w w' := by
  have HR := Lib.hid hR
  have HX := Lib.hid hx
  have HM := Lib.hid hm
  clear hR hx hm
  go_enter Tryz.func74, Tryz.ntmps74
  go_wp2_with fail
  go_loopw [5, 8] (fun _ v wr => ∃ k : Nat, v = .int .i64 (k : Int) ∧ k ≤ ps.length ∧ (∀ p ∈ ps.take k, p.inst ≠ l.inst) ∧ Below w.heap.size w wr) (fun _ v _ => ps.length - (intOf v).toNat)
  case atStart => exact ⟨0, rfl, by omega, fun p hp => by simp at hp, Below.refl _ _⟩
  case round =>
    obtain ⟨k, rfl, hk, hno, hb⟩ := hrel
    have HNO := Lib.hid hno
    have HB := Lib.hid hb
    clear hno hb
    rcases Nat.lt_or_ge k ps.length with hlt | hge
    · obtain ⟨p, hp⟩ : ∃ p, ps[k]? = some p := ⟨_, List.getElem?_eq_getElem hlt⟩
      obtain ⟨ad, rfl, had, hcell⟩ := HR.out (by intro e; rw [e] at hlt; cases hlt)
      have hcx : decide ((k : Int) < (ps.length : Int)) = true := by simp; omega
      obtain ⟨c0, c1, c2⟩ := (hcell k p hp).below (HB.out.mono hn) (by rw [add_block]; exact had)
      have HTK := Lib.hid (take_snoc hp)
      have HCL := Lib.hid (fun W (hW : Below w.heap.size w W) => posClo_any p B l W ((hW.block B HX.out.lt).trans HX.out))
      clear hcell hp
      go_wp2_with fail
      refine (HCL.out _ HB.out).mono ?_
      rintro e w1 ⟨rfl, b1⟩
      have HB1 := Lib.hid (HB.out.trans (b1.mono HB.out.size))
      clear b1 HCL c0 c1 c2
      by_cases he : p.inst = l.inst
      · rw [decide_eq_true he]
        clear he
        go_wp2_with fail
        go_ret
        exact ⟨⟨k, rfl⟩, HB1.out⟩
      · rw [decide_eq_false he]
        have HE := Lib.hid he
        clear he
        go_wp2_with fail
        go_roundw
        case rel =>
          refine ⟨k + 1, by go_num, by omega, fun x hx => ?_, HB1.out⟩
          rw [HTK.out, List.mem_append] at hx
          rcases hx with hx | hx
          · exact HNO.out x hx
          · rw [List.mem_singleton] at hx; subst hx; exact HE.out
        case measure => simp [intOf]; omega
    · exfalso
      obtain ⟨p, hp, e⟩ := HM.out
      exact HNO.out p (by rw [List.take_of_length_le hge]; exact hp) e
theorem hasPos_any (n₀ : Nat) (A : Option Addr) (ps : List Pos) (c B : Nat) (l : Lot) (hlen : ps.length ≤ 1000000) (hm : ∃ p ∈ ps, p.inst = l.inst) (w : World) (hR : RdPos n₀ w A ps) (hn : n₀ ≤ w.heap.size) (hx : LotBox w B l) :
    Calls Tryz.prog 32 #[.slice A ps.length c, .func (.func 33) #[] #[.pointer (some ⟨B, 0, none⟩)]] w fun e w' => e = .returned (.bool true) ∧ Below w.heap.size w w' := by
  have HI := Lib.hid (idxPos_has n₀ A ps c B l hlen hm w hR hn hx)
  clear hR hm hx
  go_enter Tryz.func32, Tryz.ntmps32
  go_wp2_with fail
  refine HI.out.mono ?_
  rintro e w1 ⟨⟨n, rfl⟩, b1⟩
  have t1 : decide ((0 : Int) ≤ (n : Int)) = true := decide_eq_true (by omega)
  have t2 : decide ((n : Int) ≥ 0) = true := t1
  go_wp2_with fail
  go_ret
  exact ⟨rfl, b1⟩
theorem cntL_snoc (ls : List SLot) (ns : List (List UInt8)) (b : List UInt8) : cntL ls (ns ++ [b]) = cntL ls ns + (ownL ls (bs b)).length := by unfold cntL; simp
theorem names_lt {ls : List SLot} {k : Nat} {a b : List UInt8} (ha : (names ls)[k]? = some a) (hb : (names ls)[k + 1]? = some b) : a < b := by
  obtain ⟨h1, e1⟩ := List.getElem?_eq_some_iff.1 ha
  obtain ⟨h2, e2⟩ := List.getElem?_eq_some_iff.1 hb
  have := List.pairwise_iff_getElem.1 (names_asc ls) k (k + 1) h1 h2 (by omega)
  rwa [e1, e2] at this
theorem pos_has {ls : List SLot} {k : Nat} {x : SLot} (h : ls[k]? = some x) : ∃ p ∈ posL ls, p.inst = x.1.inst := by
  refine ⟨posOf ls x.1.inst, ?_, rfl⟩
  unfold posL
  refine List.mem_map.2 ⟨x.1.inst.data.toList, (mem_names _ _).2 ⟨x, List.mem_of_getElem? h, rfl⟩, rfl⟩
theorem own_has {ls : List SLot} {b : List UInt8} (h : b ∈ names ls) : (ownL ls (bs b)).length ≠ 0 := by
  obtain ⟨x, hx, e⟩ := (mem_names b ls).1 h
  intro h0
  have h1 : x ∈ ownL ls (bs b) := by unfold ownL; exact List.mem_filter.2 ⟨hx, by simp [e]⟩
  rw [List.eq_nil_of_length_eq_zero h0] at h1
  cases h1
/-- a round's own lots -/
structure LP (w : World) (n1 : Nat) (B : Nat) (p : Pos) (n2 : Nat) (A : Option Addr) (own : List SLot) (W : World) : Prop where
  be : Below w.heap.size w W
  b1 : n1 ≤ W.heap.size
  pb : PosBox W B p
  rd : RdB n2 W A own
  n2 : n2 ≤ W.heap.size
theorem LP.below {w : World} {n1 B : Nat} {p : Pos} {n2 : Nat} {A : Option Addr} {own : List SLot} {W W' : World} (h : LP w n1 B p n2 A own W) (hb : Below W.heap.size W W') : LP w n1 B p n2 A own W' :=
  ⟨h.be.trans (hb.mono h.be.size), Nat.le_trans h.b1 hb.size, h.pb.below hb, h.rd.below (hb.mono h.n2), Nat.le_trans h.n2 hb.size⟩
def PosC (W : World) (B : Nat) (s : ByteArray) (Q Cc : Int) : Prop := W.cell? ⟨B, 0, none⟩ = some (.string s) ∧ W.cell? ⟨B, 1, none⟩ = some (.string (I Q)) ∧ W.cell? ⟨B, 2, none⟩ = some (.string (I Cc))
theorem LP.cells {w : World} {n1 B : Nat} {s : ByteArray} {Q Cc : Int} {n2 : Nat} {A : Option Addr} {own : List SLot} {W : World} (h : LP w n1 B ⟨s, I Q, I Cc⟩ n2 A own W) : PosC W B s Q Cc :=
  ⟨Lib.cell_of_heap h.pb 0, Lib.cell_of_heap h.pb 1, Lib.cell_of_heap h.pb 2⟩
def LotV (W : World) (own : List SLot) (v : Value) : Prop := ∃ A c n, v = .slice A own.length c ∧ RdB n W A own ∧ n ≤ W.heap.size

structure LAV (w w2 : World) (B : Nat) (s : ByteArray) (Q Cc : Int) (n2 : Nat) (A' : Option Addr) (c' : Nat) (own : List SLot) (ad : Addr) (N cP : Nat)  (L : Array Bool) (W : World) (s35 s36 s37 s38 s39 s40 s41 s42 s43 s44 s45 s46 s47 s48 s49 s50 s51 s52 s53 s54 s55 s56 s57 s58 s59 s60 s61 s62 s63 s64 s65 s66 s67 s68 s69 s70 s71 s72 s73 : Value) : Prop where
  k0 : L.getD 0 false = true → s35 = .int .i64 0
  k1 : L.getD 1 false = true → s36 = .bool false
  k2 : L.getD 2 false = true → s37 = .bool false
  k3 : L.getD 3 false = true → s38 = undef
  k4 : L.getD 4 false = true → s39 = undef
  k5 : L.getD 5 false = true → s40 = undef
  k6 : L.getD 6 false = true → s41 = undef
  k7 : L.getD 7 false = true → s42 = undef
  k8 : L.getD 8 false = true → s43 = undef
  k9 : L.getD 9 false = true → s44 = undef
  k10 : L.getD 10 false = true → s45 = undef
  k11 : L.getD 11 false = true → s46 = undef
  k12 : L.getD 12 false = true → s47 = .bool false
  k13 : L.getD 13 false = true → s48 = .bool false
  k14 : L.getD 14 false = true → s49 = .slice A' own.length c'
  k15 : L.getD 15 false = true → s50 = .int .i64 (own.length : Int)
  k16 : L.getD 16 false = true → s51 = .bool false
  k17 : L.getD 17 false = true → s52 = .bool false
  k18 : L.getD 18 false = true → s53 = .bool false
  k19 : L.getD 19 false = true → s54 = .string (I Q)
  k20 : L.getD 20 false = true → s55 = .pointer (some ⟨B, 1, none⟩)
  k21 : L.getD 21 false = true → s56 = .string (I Q)
  k22 : L.getD 22 false = true → s57 = .bool false
  k23 : L.getD 23 false = true → s58 = .bool false
  k24 : L.getD 24 false = true → s59 = .bool false
  k25 : L.getD 25 false = true → s60 = .string (I Cc)
  k26 : L.getD 26 false = true → s61 = .pointer (some ⟨B, 2, none⟩)
  k27 : L.getD 27 false = true → s62 = .string (I Cc)
  k28 : L.getD 28 false = true → s63 = .bool false
  k29 : L.getD 29 false = true → s64 = .bool false
  k30 : L.getD 30 false = true → s65 = .bool false
  k31 : L.getD 31 false = true → s66 = .slice A' own.length c'
  k32 : L.getD 32 false = true → s67 = .slice A' own.length c'
  k33 : L.getD 33 false = true → s68 = .pointer (some ⟨B, 0, none⟩)
  k34 : L.getD 34 false = true → s69 = .string s
  k36 : L.getD 36 false = true → s71 = .bool true
  k37 : L.getD 37 false = true → s72 = .bool false
  k38 : L.getD 38 false = true → s73 = .bool false
  r35 : L.getD 35 false = true → LotV W own s70
  g : LP w w2.heap.size B ⟨s, I Q, I Cc⟩ n2 A' own W
  d : Below w2.heap.size w2 W
  c : PosC W B s Q Cc
structure LAJ (w w2 : World) (B : Nat) (s : ByteArray) (Q Cc : Int) (n2 : Nat) (A' : Option Addr) (c' : Nat) (own : List SLot) (ad : Addr) (N cP : Nat) (x0 x1 x2 x3 x10 x11 x12 x13 x14 x15 x16 x17 x18 x19 x20 x21 x22 x23 x24 x25 x26 x27 x28 x29 x30 x31 x32 x33 x34 x74 x75 x76 x77 x78 x79 x80 x81 x82 x83 x84 x85 x86 x87 x88 x89 x90 x91 x92 x93 x94 x95 x96 : Value) (L : Array Bool) (a : Act) (W : World) : Prop where
  sz : L.size = 39
  fr : ∃ s35 s36 s37 s38 s39 s40 s41 s42 s43 s44 s45 s46 s47 s48 s49 s50 s51 s52 s53 s54 s55 s56 s57 s58 s59 s60 s61 s62 s63 s64 s65 s66 s67 s68 s69 s70 s71 s72 s73 : Value, a = { tmps := #[x0, x1, x2, x3, .slice (some ad) N cP, .int .i64 0, .pointer (some ⟨B, 0, none⟩), .slice A' own.length c', .string (I Q), .string (I Cc), x10, x11, x12, x13, x14, x15, x16, x17, x18, x19, x20, x21, x22, x23, x24, x25, x26, x27, x28, x29, x30, x31, x32, x33, x34, s35, s36, s37, s38, s39, s40, s41, s42, s43, s44, s45, s46, s47, s48, s49, s50, s51, s52, s53, s54, s55, s56, s57, s58, s59, s60, s61, s62, s63, s64, s65, s66, s67, s68, s69, s70, s71, s72, s73, x74, x75, x76, x77, x78, x79, x80, x81, x82, x83, x84, x85, x86, x87, x88, x89, x90, x91, x92, x93, x94, x95, x96], defers := [] } ∧ LAV w w2 B s Q Cc n2 A' c' own ad N cP  L W s35 s36 s37 s38 s39 s40 s41 s42 s43 s44 s45 s46 s47 s48 s49 s50 s51 s52 s53 s54 s55 s56 s57 s58 s59 s60 s61 s62 s63 s64 s65 s66 s67 s68 s69 s70 s71 s72 s73
structure LBV (w w2 : World) (B : Nat) (s : ByteArray) (Q Cc : Int) (n2 : Nat) (A' : Option Addr) (c' : Nat) (own : List SLot) (ad : Addr) (N cP : Nat) (i : Int) (k' : Nat) (sa : ByteArray)  (L : Array Bool) (W : World) (s35 s36 s37 s38 s39 s40 s41 s42 s43 s44 s45 s46 s47 s48 s49 s50 s51 s52 s53 s54 s55 s56 s57 s58 s59 s60 s61 s62 s63 s64 s65 s66 s67 s68 s69 s70 s71 s72 s73 : Value) : Prop where
  k0 : L.getD 0 false = true → s35 = .int .i64 i
  k1 : L.getD 1 false = true → s36 = .bool true
  k2 : L.getD 2 false = true → s37 = .bool true
  k3 : L.getD 3 false = true → s38 = .slice (some ad) N cP
  k4 : L.getD 4 false = true → s39 = .int .i64 i
  k5 : L.getD 5 false = true → s40 = .int .i64 (k' : Int)
  k6 : L.getD 6 false = true → s41 = .pointer (some (ad.add (k' * 3)))
  k7 : L.getD 7 false = true → s42 = .pointer (some (ad.add (k' * 3)))
  k8 : L.getD 8 false = true → s43 = .string sa
  k9 : L.getD 9 false = true → s44 = .pointer (some ⟨B, 0, none⟩)
  k10 : L.getD 10 false = true → s45 = .string s
  k11 : L.getD 11 false = true → s46 = .bool false
  k12 : L.getD 12 false = true → s47 = .bool false
  k13 : L.getD 13 false = true → s48 = .bool false
  k14 : L.getD 14 false = true → s49 = .slice A' own.length c'
  k15 : L.getD 15 false = true → s50 = .int .i64 (own.length : Int)
  k16 : L.getD 16 false = true → s51 = .bool false
  k17 : L.getD 17 false = true → s52 = .bool false
  k18 : L.getD 18 false = true → s53 = .bool false
  k19 : L.getD 19 false = true → s54 = .string (I Q)
  k20 : L.getD 20 false = true → s55 = .pointer (some ⟨B, 1, none⟩)
  k21 : L.getD 21 false = true → s56 = .string (I Q)
  k22 : L.getD 22 false = true → s57 = .bool false
  k23 : L.getD 23 false = true → s58 = .bool false
  k24 : L.getD 24 false = true → s59 = .bool false
  k25 : L.getD 25 false = true → s60 = .string (I Cc)
  k26 : L.getD 26 false = true → s61 = .pointer (some ⟨B, 2, none⟩)
  k27 : L.getD 27 false = true → s62 = .string (I Cc)
  k28 : L.getD 28 false = true → s63 = .bool false
  k29 : L.getD 29 false = true → s64 = .bool false
  k30 : L.getD 30 false = true → s65 = .bool false
  k31 : L.getD 31 false = true → s66 = .slice A' own.length c'
  k32 : L.getD 32 false = true → s67 = .slice A' own.length c'
  k33 : L.getD 33 false = true → s68 = .pointer (some ⟨B, 0, none⟩)
  k34 : L.getD 34 false = true → s69 = .string s
  k36 : L.getD 36 false = true → s71 = .bool true
  k37 : L.getD 37 false = true → s72 = .bool false
  k38 : L.getD 38 false = true → s73 = .bool false
  r35 : L.getD 35 false = true → LotV W own s70
  g : LP w w2.heap.size B ⟨s, I Q, I Cc⟩ n2 A' own W
  d : Below w2.heap.size w2 W
  c : PosC W B s Q Cc
  e : W.cell? (ad.add (k' * 3)) = some (.string sa)
structure LBJ (w w2 : World) (B : Nat) (s : ByteArray) (Q Cc : Int) (n2 : Nat) (A' : Option Addr) (c' : Nat) (own : List SLot) (ad : Addr) (N cP : Nat) (i : Int) (k' : Nat) (sa : ByteArray) (x0 x1 x2 x3 x10 x11 x12 x13 x14 x15 x16 x17 x18 x19 x20 x21 x22 x23 x24 x25 x26 x27 x28 x29 x30 x31 x32 x33 x34 x74 x75 x76 x77 x78 x79 x80 x81 x82 x83 x84 x85 x86 x87 x88 x89 x90 x91 x92 x93 x94 x95 x96 : Value) (L : Array Bool) (a : Act) (W : World) : Prop where
  sz : L.size = 39
  fr : ∃ s35 s36 s37 s38 s39 s40 s41 s42 s43 s44 s45 s46 s47 s48 s49 s50 s51 s52 s53 s54 s55 s56 s57 s58 s59 s60 s61 s62 s63 s64 s65 s66 s67 s68 s69 s70 s71 s72 s73 : Value, a = { tmps := #[x0, x1, x2, x3, .slice (some ad) N cP, .int .i64 i, .pointer (some ⟨B, 0, none⟩), .slice A' own.length c', .string (I Q), .string (I Cc), x10, x11, x12, x13, x14, x15, x16, x17, x18, x19, x20, x21, x22, x23, x24, x25, x26, x27, x28, x29, x30, x31, x32, x33, x34, s35, s36, s37, s38, s39, s40, s41, s42, s43, s44, s45, s46, s47, s48, s49, s50, s51, s52, s53, s54, s55, s56, s57, s58, s59, s60, s61, s62, s63, s64, s65, s66, s67, s68, s69, s70, s71, s72, s73, x74, x75, x76, x77, x78, x79, x80, x81, x82, x83, x84, x85, x86, x87, x88, x89, x90, x91, x92, x93, x94, x95, x96], defers := [] } ∧ LBV w w2 B s Q Cc n2 A' c' own ad N cP i k' sa  L W s35 s36 s37 s38 s39 s40 s41 s42 s43 s44 s45 s46 s47 s48 s49 s50 s51 s52 s53 s54 s55 s56 s57 s58 s59 s60 s61 s62 s63 s64 s65 s66 s67 s68 s69 s70 s71 s72 s73

set_option maxHeartbeats 16000000 in
set_option maxRecDepth 100000 in
theorem LotPositions_any (A : Option Addr) (ls : List Lot) (c : Nat) (hlm : ls.length ≤ 9223372036854775807) (w : World) (hR : RdL w A ls) (ht : Tabs w) :
    Calls Tryz.prog 5 #[.slice A ls.length c] w (TruePost19 w) := by
  have HT := Lib.hid ht
  have HR := Lib.hid hR
  clear ht hR
  go_enter Tryz.func5, Tryz.ntmps5
  go_wp2_with fail
  refine (rGreat19_len A ls c hlm w HR.out).mono ?_
  rintro e w1 ⟨g, rfl, hg, b1⟩
  have HB1 := Lib.hid b1
  have HV := Lib.hid hg
  clear b1 hg
  cases g
  case true =>
    go_wp2_with fail
    refine (awake19_any _ (HT.out.below HB1.out)).mono ?_
    rintro e wz ⟨rfl, bz⟩
    have HZ := Lib.hid (HB1.out.trans (bz.mono HB1.out.size))
    clear bz
    go_wp2_with fail
    go_ret
    exact ⟨rfl, HZ.out⟩
  obtain ⟨v1, v2, v3⟩ := HV.out rfl
  obtain ⟨sls, rfl⟩ := exists_slots ls (fun l hl => (v3 l hl).sized)
  rw [List.length_map] at v2 ⊢
  have HRB := Lib.hid HR.out.rdb
  clear v1 v3 HV hlm HR
  have HPO := Lib.hid (fun W (hW : Below w.heap.size w W) => lPositions_any w.heap.size A sls c W (by omega) (HRB.out.below hW) hW.size (HT.out.below hW))
  have HLO := Lib.hid (fun s W (hW : Below w.heap.size w W) => lOf_any w.heap.size A sls c s W (by omega) (HRB.out.below hW) hW.size)
  have HPL : Hid ((posL sls).length ≤ 1002) := by rw [Hid, posL_len]; exact Nat.le_trans (names_len sls) v2
  go_wp2_with fail
  refine (HPO.out _ HB1.out).mono ?_
  rintro e w2 ⟨AP, cP, rfl, hcp, hap, hrp, b2⟩
  have HB2 := Lib.hid (HB1.out.trans (b2.mono HB1.out.size))
  have HRP := Lib.hid hrp
  clear b2 hcp hap hrp HPO HB1
  obtain ⟨N, hN⟩ : ∃ N, (posL sls).length = N := ⟨_, rfl⟩
  have hNz : N ≤ 1002 := by have := HPL.out; omega
  rw [hN]
  have HN := Lib.hid hN
  clear hN
  go_wp2_with fail
  go_loopw [3, 19] (fun v3 v wr => ∃ k : Nat, v3 = .int .i64 ((cntL sls ((names sls).take k) : Nat) : Int) ∧ v = .int .i64 (k : Int) ∧ k ≤ N ∧ Below w2.heap.size w2 wr) (fun _ v _ => N - (intOf v).toNat)
  case atStart => exact ⟨0, rfl, rfl, by omega, Below.refl _ _⟩
  case round =>
    obtain ⟨k, rfl, rfl, hk, hb⟩ := hrel
    have HB := Lib.hid hb
    have HBW := Lib.hid (HB2.out.trans (hb.mono HB2.out.size))
    clear hb
    rcases Nat.lt_or_ge k N with hlt | hge
    · obtain ⟨b, hget⟩ : ∃ b, (names sls)[k]? = some b := ⟨_, List.getElem?_eq_getElem (by rw [← posL_len, HN.out]; exact hlt)⟩
      have hcx : decide ((k : Int) < (N : Int)) = true := by simp; omega
      obtain ⟨ad, rfl, had, hcell⟩ := HRP.out (by intro e; rw [e] at HN; have := HN.out; simp at this; omega)
      obtain ⟨c0, c1, c2⟩ := (hcell k _ (posL_get hget)).below HB.out (by rw [add_block]; exact had)
      have HCL := Lib.hid hcell
      have HGET := Lib.hid hget
      have HOH := Lib.hid (own_has (List.mem_of_getElem? hget))
      have HCS : Hid (cntL sls ((names sls).take (k + 1)) = cntL sls ((names sls).take k) + (ownL sls (bs b)).length) := by rw [Hid, take_snoc hget, cntL_snoc]
      have hcz : cntL sls ((names sls).take k) + (ownL sls (bs b)).length ≤ 1002 * 1002 := by
        have h1 : ∀ ns : List (List UInt8), cntL sls ns ≤ ns.length * 1002 := by
          intro ns
          induction ns with
          | nil => exact Nat.le_refl _
          | cons a r ih =>
            have : (ownL sls (bs a)).length ≤ 1002 := Nat.le_trans (List.length_filter_le _ _) v2
            unfold cntL at ih ⊢
            rw [List.map_cons, List.sum_cons, List.length_cons, Nat.add_mul]
            omega
        have h2 := h1 ((names sls).take (k + 1))
        rw [HCS.out] at h2
        have h3 : ((names sls).take (k + 1)).length ≤ 1002 := Nat.le_trans (List.length_take_le' _ _) (by rw [← posL_len]; exact HPL.out)
        exact Nat.le_trans h2 (Nat.mul_le_mul_right _ h3)
      generalize cntL sls ((names sls).take k) = C at HCS hcz ⊢
      have hol : (ownL sls (bs b)).length ≤ 1002 := Nat.le_trans (List.length_filter_le _ _) v2
      have hp3 : posOf sls (bs b) = ⟨bs b, I (sumBy qtyOf (ownL sls (bs b))), I (sumBy costOf (ownL sls (bs b)))⟩ := rfl
      have HLO1 := Lib.hid (HLO.out (bs b))
      have HLO2 := Lib.hid (fun n2 A' c' W (h1 : RdB n2 W A' (ownL sls (bs b))) (h2 : n2 ≤ W.heap.size) => lOf_any n2 A' (ownL sls (bs b)) c' (bs b) W (by omega) h1 h2)
      have HLT := Lib.hid (fun n2 A' c' W (h1 : RdB n2 W A' (ownL sls (bs b))) (h2 : n2 ≤ W.heap.size) (h3 : Tabs W) => lTotal_any n2 A' (ownL sls (bs b)) c' (bs b) W (by omega) h1 h2 h3)
      rw [ownL_own] at HLT HLO2
      have HB0 := Lib.hid (posOf_inst sls (bs b))
      have hpc : (posOf sls (bs b)).cells = #[.string (bs b), .string (I (sumBy qtyOf (ownL sls (bs b)))), .string (I (sumBy costOf (ownL sls (bs b))))] := rfl
      rw [hp3] at c0 c1 c2
      dsimp only at c0 c1 c2
      generalize hown : ownL sls (bs b) = own at *
      generalize sumBy qtyOf own = Q at *
      generalize sumBy costOf own = Cc at *
      obtain ⟨s, hs⟩ : ∃ s, bs b = s := ⟨_, rfl⟩
      rw [hs] at c0 HLO1 HLO2 HLT HB0 hpc
      have HS := Lib.hid hs
      clear hs
      obtain ⟨W5, hW5⟩ : ∃ W5, wr.alloc (.cells #[.string s, .string (I Q), .string (I Cc)] 53) = W5 := ⟨_, rfl⟩
      have b5 : Below wr.heap.size wr W5 := by rw [← hW5]; exact (Below.refl _ wr).alloc (Nat.le_refl _) _
      have k5 : PosBox W5 wr.heap.size ⟨s, I Q, I Cc⟩ := by rw [← hW5]; exact heap_alloc_new wr _
      have m0 := Lib.cell_of_heap k5 0
      have m1 := Lib.cell_of_heap k5 1
      have m2 := Lib.cell_of_heap k5 2
      simp [Pos.cells] at m0 m1 m2
      have HB5 := Lib.hid (HBW.out.trans (b5.mono HBW.out.size))
      have HW5 := Lib.hid (HB.out.trans (b5.mono HB.out.size))
      have HK5 := Lib.hid k5
      clear b5 k5 hcell hget hp3 hpc hown
      go_wp2_with fail
      refine (HLO1.out _ HB5.out).mono ?_
      rintro e w6 ⟨A', c', rfl, hc', _, hrd, b6⟩
      have HP6 : Hid (LP w w2.heap.size wr.heap.size ⟨s, I Q, I Cc⟩ w6.heap.size A' own w6) := ⟨HB5.out.trans (b6.mono HB5.out.size), Nat.le_trans HW5.out.size b6.size, HK5.out.below b6, hrd, Nat.le_refl _⟩
      have HW6 := Lib.hid (HW5.out.trans (b6.mono HW5.out.size))
      generalize w6.heap.size = n2 at HP6
      clear b6 hrd hc' HB5 HK5 HW5 m0 m1 m2 hW5 c0 c1 c2
      have k6 := HP6.out.pb
      have m0 := Lib.cell_of_heap k6 0
      have m1 := Lib.cell_of_heap k6 1
      have m2 := Lib.cell_of_heap k6 2
      simp [Pos.cells] at m0 m1 m2
      clear k6
      go_wp2_with fail
      refine (HLT.out n2 A' c' w6 HP6.out.rd HP6.out.n2 (HT.out.below HP6.out.be)).mono ?_
      rintro e w7 ⟨rfl, b7⟩
      have HP7 := Lib.hid (HP6.out.below b7)
      have HW7 := Lib.hid (HW6.out.trans (b7.mono HW6.out.size))
      clear b7 HP6 HW6 m0 m1 m2
      have k7 := HP7.out.pb
      have m0 := Lib.cell_of_heap k7 0
      have m1 := Lib.cell_of_heap k7 1
      have m2 := Lib.cell_of_heap k7 2
      simp [Pos.cells] at m0 m1 m2
      clear k7
      have t0 : decide ((own.length : Int) = 0) = false := decide_eq_false (by have := HOH.out; omega)
      have t0' : ((own.length : Int) == 0) = false := beq_eq_false_iff_ne.2 (by have := HOH.out; omega)
      have HT0 : Hid (decide ((own.length : Int) = 0) = false ∧ ((own.length : Int) == 0) = false) := ⟨t0, t0'⟩
      clear t0 t0'
      have HSAME : Hid (∀ W A2 c2 n3, RdB n2 W A' own → RdB n3 W A2 own → Calls Tryz.prog 19 #[.slice A' own.length c', .slice A2 own.length c2] W fun e wn => e = .returned (.bool true) ∧ Below W.heap.size W wn) := fun W A2 c2 n3 hr1 hr2 => by
        have hS := lSame_any A' A2 (own.map Subtype.val) (own.map Subtype.val) c' c2 (by rw [List.length_map]; omega) (by rw [List.length_map]; omega) n2 n3 W hr1.rdb' hr2.rdb'
        rw [List.length_map, sameB_yes rfl] at hS
        refine hS.mono ?_
        rintro e wn ⟨rfl, m, rfl⟩
        exact ⟨rfl, below_drewN (Below.refl _ _) m⟩
      clear HLO1 HLT HOH
      rcases Nat.eq_zero_or_pos k with hk0 | hk0
      · subst hk0
        clear m0 m1 m2
        go_upto_region 10 with fail
        have hg : LP w w2.heap.size wr.heap.size ⟨s, I Q, I Cc⟩ n2 A' own w7.drew := HP7.out.below (Below.refl _ _).drew
        have hd : Below w2.heap.size w2 w7.drew := HW7.out.trans ((Below.refl _ _).drew.mono HW7.out.size)
        have mixed : Tryz.prog.follows .mixedOrders = true := by kernel_rfl
        refine wp_region_any mixed (wpAny_inv (LAJ w w2 wr.heap.size s Q Cc n2 A' c' own ad N cP _ _ _ _ _ _ _ _ _ _ _ _ _ _ _ _ _ _ _ _ _ _ _ _ _ _ _ _ _ _ _ _ _ _ _ _ _ _ _ _ _ _ _ _ _ _ _ _ _ _ _ _) ?stLA ?dnLA _ _ _ _ ⟨by simp, ⟨_, _, _, _, _, _, _, _, _, _, _, _, _, _, _, _, _, _, _, _, _, _, _, _, _, _, _, _, _, _, _, _, _, _, _, _, _, _, _, rfl, fun h => by simp at h, fun h => by simp at h, fun h => by simp at h, fun h => by simp at h, fun h => by simp at h, fun h => by simp at h, fun h => by simp at h, fun h => by simp at h, fun h => by simp at h, fun h => by simp at h, fun h => by simp at h, fun h => by simp at h, fun h => by simp at h, fun h => by simp at h, fun h => by simp at h, fun h => by simp at h, fun h => by simp at h, fun h => by simp at h, fun h => by simp at h, fun h => by simp at h, fun h => by simp at h, fun h => by simp at h, fun h => by simp at h, fun h => by simp at h, fun h => by simp at h, fun h => by simp at h, fun h => by simp at h, fun h => by simp at h, fun h => by simp at h, fun h => by simp at h, fun h => by simp at h, fun h => by simp at h, fun h => by simp at h, fun h => by simp at h, fun h => by simp at h, fun h => by simp at h, fun h => by simp at h, fun h => by simp at h, fun h => by simp at h, hg, hd, hg.cells⟩⟩ (by decide))
        case dnLA =>
          intro L a w' hj hr
          have all : ∀ i, i < 39 → L.getD i false = true := by
            intro i
            induction i using Nat.strongRecOn with
            | ind i ih =>
              intro hi
              refine (off_or_on L i).resolve_left fun h => ?_
              refine List.eq_nil_iff_forall_not_mem.1 hr i (ready_of (by rw [hj.sz]; exact hi) h (Array.getElem?_eq_getElem (by simpa using hi)) (fun e he hbd => ih e.on ?_ ?_))
              · rcases (show i = 0 ∨ i = 1 ∨ i = 2 ∨ i = 3 ∨ i = 4 ∨ i = 5 ∨ i = 6 ∨ i = 7 ∨ i = 8 ∨ i = 9 ∨ i = 10 ∨ i = 11 ∨ i = 12 ∨ i = 13 ∨ i = 14 ∨ i = 15 ∨ i = 16 ∨ i = 17 ∨ i = 18 ∨ i = 19 ∨ i = 20 ∨ i = 21 ∨ i = 22 ∨ i = 23 ∨ i = 24 ∨ i = 25 ∨ i = 26 ∨ i = 27 ∨ i = 28 ∨ i = 29 ∨ i = 30 ∨ i = 31 ∨ i = 32 ∨ i = 33 ∨ i = 34 ∨ i = 35 ∨ i = 36 ∨ i = 37 ∨ i = 38 from by omega) with rfl | rfl | rfl | rfl | rfl | rfl | rfl | rfl | rfl | rfl | rfl | rfl | rfl | rfl | rfl | rfl | rfl | rfl | rfl | rfl | rfl | rfl | rfl | rfl | rfl | rfl | rfl | rfl | rfl | rfl | rfl | rfl | rfl | rfl | rfl | rfl | rfl | rfl | rfl
                · simp at he
                · simp at he
                  subst he
                  first | decide | (exact absurd hbd (by decide))
                · simp at he
                  subst he
                  first | decide | (exact absurd hbd (by decide))
                · simp at he
                  subst he
                  first | decide | (exact absurd hbd (by decide))
                · simp at he
                  subst he
                  first | decide | (exact absurd hbd (by decide))
                · simp at he
                  rcases he with rfl | rfl
                  all_goals first | decide | (exact absurd hbd (by decide))
                · simp at he
                  rcases he with rfl | rfl | rfl
                  all_goals first | decide | (exact absurd hbd (by decide))
                · simp at he
                  rcases he with rfl | rfl
                  all_goals first | decide | (exact absurd hbd (by decide))
                · simp at he
                  rcases he with rfl | rfl
                  all_goals first | decide | (exact absurd hbd (by decide))
                · simp at he
                  subst he
                  first | decide | (exact absurd hbd (by decide))
                · simp at he
                  rcases he with rfl | rfl
                  all_goals first | decide | (exact absurd hbd (by decide))
                · simp at he
                  rcases he with rfl | rfl | rfl
                  all_goals first | decide | (exact absurd hbd (by decide))
                · simp at he
                  rcases he with rfl | rfl
                  all_goals first | decide | (exact absurd hbd (by decide))
                · simp at he
                  rcases he with rfl | rfl
                  all_goals first | decide | (exact absurd hbd (by decide))
                · simp at he
                  subst he
                  first | decide | (exact absurd hbd (by decide))
                · simp at he
                  rcases he with rfl | rfl
                  all_goals first | decide | (exact absurd hbd (by decide))
                · simp at he
                  rcases he with rfl | rfl
                  all_goals first | decide | (exact absurd hbd (by decide))
                · simp at he
                  rcases he with rfl | rfl
                  all_goals first | decide | (exact absurd hbd (by decide))
                · simp at he
                  rcases he with rfl | rfl
                  all_goals first | decide | (exact absurd hbd (by decide))
                · simp at he
                  subst he
                  first | decide | (exact absurd hbd (by decide))
                · simp at he
                  subst he
                  first | decide | (exact absurd hbd (by decide))
                · simp at he
                  rcases he with rfl | rfl
                  all_goals first | decide | (exact absurd hbd (by decide))
                · simp at he
                  rcases he with rfl | rfl | rfl
                  all_goals first | decide | (exact absurd hbd (by decide))
                · simp at he
                  rcases he with rfl | rfl
                  all_goals first | decide | (exact absurd hbd (by decide))
                · simp at he
                  rcases he with rfl | rfl
                  all_goals first | decide | (exact absurd hbd (by decide))
                · simp at he
                  subst he
                  first | decide | (exact absurd hbd (by decide))
                · simp at he
                  subst he
                  first | decide | (exact absurd hbd (by decide))
                · simp at he
                  rcases he with rfl | rfl
                  all_goals first | decide | (exact absurd hbd (by decide))
                · simp at he
                  rcases he with rfl | rfl | rfl
                  all_goals first | decide | (exact absurd hbd (by decide))
                · simp at he
                  rcases he with rfl | rfl
                  all_goals first | decide | (exact absurd hbd (by decide))
                · simp at he
                  rcases he with rfl | rfl
                  all_goals first | decide | (exact absurd hbd (by decide))
                · simp at he
                  subst he
                  first | decide | (exact absurd hbd (by decide))
                · simp at he
                  subst he
                  first | decide | (exact absurd hbd (by decide))
                · simp at he
                  subst he
                  first | decide | (exact absurd hbd (by decide))
                · simp at he
                  rcases he with rfl | rfl
                  all_goals first | decide | (exact absurd hbd (by decide))
                · simp at he
                  rcases he with rfl | rfl | rfl | rfl
                  all_goals first | decide | (exact absurd hbd (by decide))
                · simp at he
                  rcases he with rfl | rfl | rfl | rfl
                  all_goals first | decide | (exact absurd hbd (by decide))
                · simp at he
                  rcases he with rfl | rfl
                  all_goals first | decide | (exact absurd hbd (by decide))
                · simp at he
                  rcases he with rfl | rfl
                  all_goals first | decide | (exact absurd hbd (by decide))
              · rcases (show i = 0 ∨ i = 1 ∨ i = 2 ∨ i = 3 ∨ i = 4 ∨ i = 5 ∨ i = 6 ∨ i = 7 ∨ i = 8 ∨ i = 9 ∨ i = 10 ∨ i = 11 ∨ i = 12 ∨ i = 13 ∨ i = 14 ∨ i = 15 ∨ i = 16 ∨ i = 17 ∨ i = 18 ∨ i = 19 ∨ i = 20 ∨ i = 21 ∨ i = 22 ∨ i = 23 ∨ i = 24 ∨ i = 25 ∨ i = 26 ∨ i = 27 ∨ i = 28 ∨ i = 29 ∨ i = 30 ∨ i = 31 ∨ i = 32 ∨ i = 33 ∨ i = 34 ∨ i = 35 ∨ i = 36 ∨ i = 37 ∨ i = 38 from by omega) with rfl | rfl | rfl | rfl | rfl | rfl | rfl | rfl | rfl | rfl | rfl | rfl | rfl | rfl | rfl | rfl | rfl | rfl | rfl | rfl | rfl | rfl | rfl | rfl | rfl | rfl | rfl | rfl | rfl | rfl | rfl | rfl | rfl | rfl | rfl | rfl | rfl | rfl | rfl
                · simp at he
                · simp at he
                  subst he
                  first | decide | (exact absurd hbd (by decide))
                · simp at he
                  subst he
                  first | decide | (exact absurd hbd (by decide))
                · simp at he
                  subst he
                  first | decide | (exact absurd hbd (by decide))
                · simp at he
                  subst he
                  first | decide | (exact absurd hbd (by decide))
                · simp at he
                  rcases he with rfl | rfl
                  all_goals first | decide | (exact absurd hbd (by decide))
                · simp at he
                  rcases he with rfl | rfl | rfl
                  all_goals first | decide | (exact absurd hbd (by decide))
                · simp at he
                  rcases he with rfl | rfl
                  all_goals first | decide | (exact absurd hbd (by decide))
                · simp at he
                  rcases he with rfl | rfl
                  all_goals first | decide | (exact absurd hbd (by decide))
                · simp at he
                  subst he
                  first | decide | (exact absurd hbd (by decide))
                · simp at he
                  rcases he with rfl | rfl
                  all_goals first | decide | (exact absurd hbd (by decide))
                · simp at he
                  rcases he with rfl | rfl | rfl
                  all_goals first | decide | (exact absurd hbd (by decide))
                · simp at he
                  rcases he with rfl | rfl
                  all_goals first | decide | (exact absurd hbd (by decide))
                · simp at he
                  rcases he with rfl | rfl
                  all_goals first | decide | (exact absurd hbd (by decide))
                · simp at he
                  subst he
                  first | decide | (exact absurd hbd (by decide))
                · simp at he
                  rcases he with rfl | rfl
                  all_goals first | decide | (exact absurd hbd (by decide))
                · simp at he
                  rcases he with rfl | rfl
                  all_goals first | decide | (exact absurd hbd (by decide))
                · simp at he
                  rcases he with rfl | rfl
                  all_goals first | decide | (exact absurd hbd (by decide))
                · simp at he
                  rcases he with rfl | rfl
                  all_goals first | decide | (exact absurd hbd (by decide))
                · simp at he
                  subst he
                  first | decide | (exact absurd hbd (by decide))
                · simp at he
                  subst he
                  first | decide | (exact absurd hbd (by decide))
                · simp at he
                  rcases he with rfl | rfl
                  all_goals first | decide | (exact absurd hbd (by decide))
                · simp at he
                  rcases he with rfl | rfl | rfl
                  all_goals first | decide | (exact absurd hbd (by decide))
                · simp at he
                  rcases he with rfl | rfl
                  all_goals first | decide | (exact absurd hbd (by decide))
                · simp at he
                  rcases he with rfl | rfl
                  all_goals first | decide | (exact absurd hbd (by decide))
                · simp at he
                  subst he
                  first | decide | (exact absurd hbd (by decide))
                · simp at he
                  subst he
                  first | decide | (exact absurd hbd (by decide))
                · simp at he
                  rcases he with rfl | rfl
                  all_goals first | decide | (exact absurd hbd (by decide))
                · simp at he
                  rcases he with rfl | rfl | rfl
                  all_goals first | decide | (exact absurd hbd (by decide))
                · simp at he
                  rcases he with rfl | rfl
                  all_goals first | decide | (exact absurd hbd (by decide))
                · simp at he
                  rcases he with rfl | rfl
                  all_goals first | decide | (exact absurd hbd (by decide))
                · simp at he
                  subst he
                  first | decide | (exact absurd hbd (by decide))
                · simp at he
                  subst he
                  first | decide | (exact absurd hbd (by decide))
                · simp at he
                  subst he
                  first | decide | (exact absurd hbd (by decide))
                · simp at he
                  rcases he with rfl | rfl
                  all_goals first | decide | (exact absurd hbd (by decide))
                · simp at he
                  rcases he with rfl | rfl | rfl | rfl
                  all_goals first | decide | (exact absurd hbd (by decide))
                · simp at he
                  rcases he with rfl | rfl | rfl | rfl
                  all_goals first | decide | (exact absurd hbd (by decide))
                · simp at he
                  rcases he with rfl | rfl
                  all_goals first | decide | (exact absurd hbd (by decide))
                · simp at he
                  rcases he with rfl | rfl
                  all_goals first | decide | (exact absurd hbd (by decide))
          obtain ⟨s35, s36, s37, s38, s39, s40, s41, s42, s43, s44, s45, s46, s47, s48, s49, s50, s51, s52, s53, s54, s55, s56, s57, s58, s59, s60, s61, s62, s63, s64, s65, s66, s67, s68, s69, s70, s71, s72, s73, rfl, hv⟩ := hj.fr
          have e0 := hv.k38 (all 38 (by omega))
          subst e0
          have HF := Lib.hid hv.d
          clear all hv hj hr
          dsimp only
          go_wp2_with fail
          go_roundw
          case rel => exact ⟨1, by rw [HCS.out]; go_num, by go_num, by omega, HF.out⟩
          case measure => simp [intOf]; omega
        case stLA =>
          intro L a w' hj i hi
          obtain ⟨hun, o, ho, hall⟩ := mem_ready.1 hi
          have hoff := getD_off hun
          have hlt := (Array.getElem?_eq_some_iff.1 ho).1
          simp at hlt
          obtain ⟨s35, s36, s37, s38, s39, s40, s41, s42, s43, s44, s45, s46, s47, s48, s49, s50, s51, s52, s53, s54, s55, s56, s57, s58, s59, s60, s61, s62, s63, s64, s65, s66, s67, s68, s69, s70, s71, s72, s73, rfl, hv⟩ := hj.fr
          have HV := Lib.hid hv
          have HJ := Lib.hid hj
          clear hv hj
          rcases (show i = 0 ∨ i = 1 ∨ i = 2 ∨ i = 3 ∨ i = 4 ∨ i = 5 ∨ i = 6 ∨ i = 7 ∨ i = 8 ∨ i = 9 ∨ i = 10 ∨ i = 11 ∨ i = 12 ∨ i = 13 ∨ i = 14 ∨ i = 15 ∨ i = 16 ∨ i = 17 ∨ i = 18 ∨ i = 19 ∨ i = 20 ∨ i = 21 ∨ i = 22 ∨ i = 23 ∨ i = 24 ∨ i = 25 ∨ i = 26 ∨ i = 27 ∨ i = 28 ∨ i = 29 ∨ i = 30 ∨ i = 31 ∨ i = 32 ∨ i = 33 ∨ i = 34 ∨ i = 35 ∨ i = 36 ∨ i = 37 ∨ i = 38 from by omega) with rfl | rfl | rfl | rfl | rfl | rfl | rfl | rfl | rfl | rfl | rfl | rfl | rfl | rfl | rfl | rfl | rfl | rfl | rfl | rfl | rfl | rfl | rfl | rfl | rfl | rfl | rfl | rfl | rfl | rfl | rfl | rfl | rfl | rfl | rfl | rfl | rfl | rfl | rfl
          · simp at ho
            subst ho
            clear hall hi
            refine wpOp_step rfl (fun K' hK' => ?_)
            have HK := Lib.hid hK'
            clear hK'
            go_simp
            exact HK.out _ _ ⟨by simp [HJ.out.sz], ⟨_, _, _, _, _, _, _, _, _, _, _, _, _, _, _, _, _, _, _, _, _, _, _, _, _, _, _, _, _, _, _, _, _, _, _, _, _, _, _, rfl, fun _ => rfl, fun h0 => HV.out.k1 (getD_dn (by decide) h0), fun h0 => HV.out.k2 (getD_dn (by decide) h0), fun h0 => HV.out.k3 (getD_dn (by decide) h0), fun h0 => HV.out.k4 (getD_dn (by decide) h0), fun h0 => HV.out.k5 (getD_dn (by decide) h0), fun h0 => HV.out.k6 (getD_dn (by decide) h0), fun h0 => HV.out.k7 (getD_dn (by decide) h0), fun h0 => HV.out.k8 (getD_dn (by decide) h0), fun h0 => HV.out.k9 (getD_dn (by decide) h0), fun h0 => HV.out.k10 (getD_dn (by decide) h0), fun h0 => HV.out.k11 (getD_dn (by decide) h0), fun h0 => HV.out.k12 (getD_dn (by decide) h0), fun h0 => HV.out.k13 (getD_dn (by decide) h0), fun h0 => HV.out.k14 (getD_dn (by decide) h0), fun h0 => HV.out.k15 (getD_dn (by decide) h0), fun h0 => HV.out.k16 (getD_dn (by decide) h0), fun h0 => HV.out.k17 (getD_dn (by decide) h0), fun h0 => HV.out.k18 (getD_dn (by decide) h0), fun h0 => HV.out.k19 (getD_dn (by decide) h0), fun h0 => HV.out.k20 (getD_dn (by decide) h0), fun h0 => HV.out.k21 (getD_dn (by decide) h0), fun h0 => HV.out.k22 (getD_dn (by decide) h0), fun h0 => HV.out.k23 (getD_dn (by decide) h0), fun h0 => HV.out.k24 (getD_dn (by decide) h0), fun h0 => HV.out.k25 (getD_dn (by decide) h0), fun h0 => HV.out.k26 (getD_dn (by decide) h0), fun h0 => HV.out.k27 (getD_dn (by decide) h0), fun h0 => HV.out.k28 (getD_dn (by decide) h0), fun h0 => HV.out.k29 (getD_dn (by decide) h0), fun h0 => HV.out.k30 (getD_dn (by decide) h0), fun h0 => HV.out.k31 (getD_dn (by decide) h0), fun h0 => HV.out.k32 (getD_dn (by decide) h0), fun h0 => HV.out.k33 (getD_dn (by decide) h0), fun h0 => HV.out.k34 (getD_dn (by decide) h0), fun h0 => HV.out.k36 (getD_dn (by decide) h0), fun h0 => HV.out.k37 (getD_dn (by decide) h0), fun h0 => HV.out.k38 (getD_dn (by decide) h0), fun h0 => HV.out.r35 (getD_dn (by decide) h0), HV.out.g, HV.out.d, HV.out.c⟩⟩
          · simp at ho
            subst ho
            have h0x : L.getD 0 false = true := hall { on := 0, ground := Ground.data } (by simp) (by decide)
            have H0 := Lib.hid h0x
            clear hall hi h0x
            have e0 := HV.out.k0 H0.out
            subst e0
            refine wpOp_step rfl (fun K' hK' => ?_)
            have HK := Lib.hid hK'
            clear hK'
            go_simp
            exact HK.out _ _ ⟨by simp [HJ.out.sz], ⟨_, _, _, _, _, _, _, _, _, _, _, _, _, _, _, _, _, _, _, _, _, _, _, _, _, _, _, _, _, _, _, _, _, _, _, _, _, _, _, rfl, fun h0 => HV.out.k0 (getD_dn (by decide) h0), fun _ => rfl, fun h0 => HV.out.k2 (getD_dn (by decide) h0), fun h0 => HV.out.k3 (getD_dn (by decide) h0), fun h0 => HV.out.k4 (getD_dn (by decide) h0), fun h0 => HV.out.k5 (getD_dn (by decide) h0), fun h0 => HV.out.k6 (getD_dn (by decide) h0), fun h0 => HV.out.k7 (getD_dn (by decide) h0), fun h0 => HV.out.k8 (getD_dn (by decide) h0), fun h0 => HV.out.k9 (getD_dn (by decide) h0), fun h0 => HV.out.k10 (getD_dn (by decide) h0), fun h0 => HV.out.k11 (getD_dn (by decide) h0), fun h0 => HV.out.k12 (getD_dn (by decide) h0), fun h0 => HV.out.k13 (getD_dn (by decide) h0), fun h0 => HV.out.k14 (getD_dn (by decide) h0), fun h0 => HV.out.k15 (getD_dn (by decide) h0), fun h0 => HV.out.k16 (getD_dn (by decide) h0), fun h0 => HV.out.k17 (getD_dn (by decide) h0), fun h0 => HV.out.k18 (getD_dn (by decide) h0), fun h0 => HV.out.k19 (getD_dn (by decide) h0), fun h0 => HV.out.k20 (getD_dn (by decide) h0), fun h0 => HV.out.k21 (getD_dn (by decide) h0), fun h0 => HV.out.k22 (getD_dn (by decide) h0), fun h0 => HV.out.k23 (getD_dn (by decide) h0), fun h0 => HV.out.k24 (getD_dn (by decide) h0), fun h0 => HV.out.k25 (getD_dn (by decide) h0), fun h0 => HV.out.k26 (getD_dn (by decide) h0), fun h0 => HV.out.k27 (getD_dn (by decide) h0), fun h0 => HV.out.k28 (getD_dn (by decide) h0), fun h0 => HV.out.k29 (getD_dn (by decide) h0), fun h0 => HV.out.k30 (getD_dn (by decide) h0), fun h0 => HV.out.k31 (getD_dn (by decide) h0), fun h0 => HV.out.k32 (getD_dn (by decide) h0), fun h0 => HV.out.k33 (getD_dn (by decide) h0), fun h0 => HV.out.k34 (getD_dn (by decide) h0), fun h0 => HV.out.k36 (getD_dn (by decide) h0), fun h0 => HV.out.k37 (getD_dn (by decide) h0), fun h0 => HV.out.k38 (getD_dn (by decide) h0), fun h0 => HV.out.r35 (getD_dn (by decide) h0), HV.out.g, HV.out.d, HV.out.c⟩⟩
          · simp at ho
            subst ho
            have h1x : L.getD 1 false = true := hall { on := 1, ground := Ground.data } (by simp) (by decide)
            have H1 := Lib.hid h1x
            clear hall hi h1x
            have e0 := HV.out.k1 H1.out
            subst e0
            refine wpOp_step rfl (fun K' hK' => ?_)
            have HK := Lib.hid hK'
            clear hK'
            go_simp
            exact HK.out _ _ ⟨by simp [HJ.out.sz], ⟨_, _, _, _, _, _, _, _, _, _, _, _, _, _, _, _, _, _, _, _, _, _, _, _, _, _, _, _, _, _, _, _, _, _, _, _, _, _, _, rfl, fun h0 => HV.out.k0 (getD_dn (by decide) h0), fun h0 => HV.out.k1 (getD_dn (by decide) h0), fun _ => rfl, fun h0 => HV.out.k3 (getD_dn (by decide) h0), fun h0 => HV.out.k4 (getD_dn (by decide) h0), fun h0 => HV.out.k5 (getD_dn (by decide) h0), fun h0 => HV.out.k6 (getD_dn (by decide) h0), fun h0 => HV.out.k7 (getD_dn (by decide) h0), fun h0 => HV.out.k8 (getD_dn (by decide) h0), fun h0 => HV.out.k9 (getD_dn (by decide) h0), fun h0 => HV.out.k10 (getD_dn (by decide) h0), fun h0 => HV.out.k11 (getD_dn (by decide) h0), fun h0 => HV.out.k12 (getD_dn (by decide) h0), fun h0 => HV.out.k13 (getD_dn (by decide) h0), fun h0 => HV.out.k14 (getD_dn (by decide) h0), fun h0 => HV.out.k15 (getD_dn (by decide) h0), fun h0 => HV.out.k16 (getD_dn (by decide) h0), fun h0 => HV.out.k17 (getD_dn (by decide) h0), fun h0 => HV.out.k18 (getD_dn (by decide) h0), fun h0 => HV.out.k19 (getD_dn (by decide) h0), fun h0 => HV.out.k20 (getD_dn (by decide) h0), fun h0 => HV.out.k21 (getD_dn (by decide) h0), fun h0 => HV.out.k22 (getD_dn (by decide) h0), fun h0 => HV.out.k23 (getD_dn (by decide) h0), fun h0 => HV.out.k24 (getD_dn (by decide) h0), fun h0 => HV.out.k25 (getD_dn (by decide) h0), fun h0 => HV.out.k26 (getD_dn (by decide) h0), fun h0 => HV.out.k27 (getD_dn (by decide) h0), fun h0 => HV.out.k28 (getD_dn (by decide) h0), fun h0 => HV.out.k29 (getD_dn (by decide) h0), fun h0 => HV.out.k30 (getD_dn (by decide) h0), fun h0 => HV.out.k31 (getD_dn (by decide) h0), fun h0 => HV.out.k32 (getD_dn (by decide) h0), fun h0 => HV.out.k33 (getD_dn (by decide) h0), fun h0 => HV.out.k34 (getD_dn (by decide) h0), fun h0 => HV.out.k36 (getD_dn (by decide) h0), fun h0 => HV.out.k37 (getD_dn (by decide) h0), fun h0 => HV.out.k38 (getD_dn (by decide) h0), fun h0 => HV.out.r35 (getD_dn (by decide) h0), HV.out.g, HV.out.d, HV.out.c⟩⟩
          · simp at ho
            subst ho
            have h2x : L.getD 2 false = true := hall { on := 2, ground := Ground.guard } (by simp) (by decide)
            have H2 := Lib.hid h2x
            clear hall hi h2x
            have e0 := HV.out.k2 H2.out
            subst e0
            refine wpOp_step rfl (fun K' hK' => ?_)
            have HK := Lib.hid hK'
            clear hK'
            go_simp
            exact HK.out _ _ ⟨by simp [HJ.out.sz], ⟨_, _, _, _, _, _, _, _, _, _, _, _, _, _, _, _, _, _, _, _, _, _, _, _, _, _, _, _, _, _, _, _, _, _, _, _, _, _, _, rfl, fun h0 => HV.out.k0 (getD_dn (by decide) h0), fun h0 => HV.out.k1 (getD_dn (by decide) h0), fun h0 => HV.out.k2 (getD_dn (by decide) h0), fun _ => rfl, fun h0 => HV.out.k4 (getD_dn (by decide) h0), fun h0 => HV.out.k5 (getD_dn (by decide) h0), fun h0 => HV.out.k6 (getD_dn (by decide) h0), fun h0 => HV.out.k7 (getD_dn (by decide) h0), fun h0 => HV.out.k8 (getD_dn (by decide) h0), fun h0 => HV.out.k9 (getD_dn (by decide) h0), fun h0 => HV.out.k10 (getD_dn (by decide) h0), fun h0 => HV.out.k11 (getD_dn (by decide) h0), fun h0 => HV.out.k12 (getD_dn (by decide) h0), fun h0 => HV.out.k13 (getD_dn (by decide) h0), fun h0 => HV.out.k14 (getD_dn (by decide) h0), fun h0 => HV.out.k15 (getD_dn (by decide) h0), fun h0 => HV.out.k16 (getD_dn (by decide) h0), fun h0 => HV.out.k17 (getD_dn (by decide) h0), fun h0 => HV.out.k18 (getD_dn (by decide) h0), fun h0 => HV.out.k19 (getD_dn (by decide) h0), fun h0 => HV.out.k20 (getD_dn (by decide) h0), fun h0 => HV.out.k21 (getD_dn (by decide) h0), fun h0 => HV.out.k22 (getD_dn (by decide) h0), fun h0 => HV.out.k23 (getD_dn (by decide) h0), fun h0 => HV.out.k24 (getD_dn (by decide) h0), fun h0 => HV.out.k25 (getD_dn (by decide) h0), fun h0 => HV.out.k26 (getD_dn (by decide) h0), fun h0 => HV.out.k27 (getD_dn (by decide) h0), fun h0 => HV.out.k28 (getD_dn (by decide) h0), fun h0 => HV.out.k29 (getD_dn (by decide) h0), fun h0 => HV.out.k30 (getD_dn (by decide) h0), fun h0 => HV.out.k31 (getD_dn (by decide) h0), fun h0 => HV.out.k32 (getD_dn (by decide) h0), fun h0 => HV.out.k33 (getD_dn (by decide) h0), fun h0 => HV.out.k34 (getD_dn (by decide) h0), fun h0 => HV.out.k36 (getD_dn (by decide) h0), fun h0 => HV.out.k37 (getD_dn (by decide) h0), fun h0 => HV.out.k38 (getD_dn (by decide) h0), fun h0 => HV.out.r35 (getD_dn (by decide) h0), HV.out.g, HV.out.d, HV.out.c⟩⟩
          · simp at ho
            subst ho
            have h2x : L.getD 2 false = true := hall { on := 2, ground := Ground.guard } (by simp) (by decide)
            have H2 := Lib.hid h2x
            clear hall hi h2x
            have e0 := HV.out.k2 H2.out
            subst e0
            refine wpOp_step rfl (fun K' hK' => ?_)
            have HK := Lib.hid hK'
            clear hK'
            go_simp
            exact HK.out _ _ ⟨by simp [HJ.out.sz], ⟨_, _, _, _, _, _, _, _, _, _, _, _, _, _, _, _, _, _, _, _, _, _, _, _, _, _, _, _, _, _, _, _, _, _, _, _, _, _, _, rfl, fun h0 => HV.out.k0 (getD_dn (by decide) h0), fun h0 => HV.out.k1 (getD_dn (by decide) h0), fun h0 => HV.out.k2 (getD_dn (by decide) h0), fun h0 => HV.out.k3 (getD_dn (by decide) h0), fun _ => rfl, fun h0 => HV.out.k5 (getD_dn (by decide) h0), fun h0 => HV.out.k6 (getD_dn (by decide) h0), fun h0 => HV.out.k7 (getD_dn (by decide) h0), fun h0 => HV.out.k8 (getD_dn (by decide) h0), fun h0 => HV.out.k9 (getD_dn (by decide) h0), fun h0 => HV.out.k10 (getD_dn (by decide) h0), fun h0 => HV.out.k11 (getD_dn (by decide) h0), fun h0 => HV.out.k12 (getD_dn (by decide) h0), fun h0 => HV.out.k13 (getD_dn (by decide) h0), fun h0 => HV.out.k14 (getD_dn (by decide) h0), fun h0 => HV.out.k15 (getD_dn (by decide) h0), fun h0 => HV.out.k16 (getD_dn (by decide) h0), fun h0 => HV.out.k17 (getD_dn (by decide) h0), fun h0 => HV.out.k18 (getD_dn (by decide) h0), fun h0 => HV.out.k19 (getD_dn (by decide) h0), fun h0 => HV.out.k20 (getD_dn (by decide) h0), fun h0 => HV.out.k21 (getD_dn (by decide) h0), fun h0 => HV.out.k22 (getD_dn (by decide) h0), fun h0 => HV.out.k23 (getD_dn (by decide) h0), fun h0 => HV.out.k24 (getD_dn (by decide) h0), fun h0 => HV.out.k25 (getD_dn (by decide) h0), fun h0 => HV.out.k26 (getD_dn (by decide) h0), fun h0 => HV.out.k27 (getD_dn (by decide) h0), fun h0 => HV.out.k28 (getD_dn (by decide) h0), fun h0 => HV.out.k29 (getD_dn (by decide) h0), fun h0 => HV.out.k30 (getD_dn (by decide) h0), fun h0 => HV.out.k31 (getD_dn (by decide) h0), fun h0 => HV.out.k32 (getD_dn (by decide) h0), fun h0 => HV.out.k33 (getD_dn (by decide) h0), fun h0 => HV.out.k34 (getD_dn (by decide) h0), fun h0 => HV.out.k36 (getD_dn (by decide) h0), fun h0 => HV.out.k37 (getD_dn (by decide) h0), fun h0 => HV.out.k38 (getD_dn (by decide) h0), fun h0 => HV.out.r35 (getD_dn (by decide) h0), HV.out.g, HV.out.d, HV.out.c⟩⟩
          · simp at ho
            subst ho
            have h4x : L.getD 4 false = true := hall { on := 4, ground := Ground.data } (by simp) (by decide)
            have h2x : L.getD 2 false = true := hall { on := 2, ground := Ground.guard } (by simp) (by decide)
            have H4 := Lib.hid h4x
            have H2 := Lib.hid h2x
            clear hall hi h4x h2x
            have e0 := HV.out.k4 H4.out
            subst e0
            have e1 := HV.out.k2 H2.out
            subst e1
            refine wpOp_step rfl (fun K' hK' => ?_)
            have HK := Lib.hid hK'
            clear hK'
            go_simp
            exact HK.out _ _ ⟨by simp [HJ.out.sz], ⟨_, _, _, _, _, _, _, _, _, _, _, _, _, _, _, _, _, _, _, _, _, _, _, _, _, _, _, _, _, _, _, _, _, _, _, _, _, _, _, rfl, fun h0 => HV.out.k0 (getD_dn (by decide) h0), fun h0 => HV.out.k1 (getD_dn (by decide) h0), fun h0 => HV.out.k2 (getD_dn (by decide) h0), fun h0 => HV.out.k3 (getD_dn (by decide) h0), fun h0 => HV.out.k4 (getD_dn (by decide) h0), fun _ => rfl, fun h0 => HV.out.k6 (getD_dn (by decide) h0), fun h0 => HV.out.k7 (getD_dn (by decide) h0), fun h0 => HV.out.k8 (getD_dn (by decide) h0), fun h0 => HV.out.k9 (getD_dn (by decide) h0), fun h0 => HV.out.k10 (getD_dn (by decide) h0), fun h0 => HV.out.k11 (getD_dn (by decide) h0), fun h0 => HV.out.k12 (getD_dn (by decide) h0), fun h0 => HV.out.k13 (getD_dn (by decide) h0), fun h0 => HV.out.k14 (getD_dn (by decide) h0), fun h0 => HV.out.k15 (getD_dn (by decide) h0), fun h0 => HV.out.k16 (getD_dn (by decide) h0), fun h0 => HV.out.k17 (getD_dn (by decide) h0), fun h0 => HV.out.k18 (getD_dn (by decide) h0), fun h0 => HV.out.k19 (getD_dn (by decide) h0), fun h0 => HV.out.k20 (getD_dn (by decide) h0), fun h0 => HV.out.k21 (getD_dn (by decide) h0), fun h0 => HV.out.k22 (getD_dn (by decide) h0), fun h0 => HV.out.k23 (getD_dn (by decide) h0), fun h0 => HV.out.k24 (getD_dn (by decide) h0), fun h0 => HV.out.k25 (getD_dn (by decide) h0), fun h0 => HV.out.k26 (getD_dn (by decide) h0), fun h0 => HV.out.k27 (getD_dn (by decide) h0), fun h0 => HV.out.k28 (getD_dn (by decide) h0), fun h0 => HV.out.k29 (getD_dn (by decide) h0), fun h0 => HV.out.k30 (getD_dn (by decide) h0), fun h0 => HV.out.k31 (getD_dn (by decide) h0), fun h0 => HV.out.k32 (getD_dn (by decide) h0), fun h0 => HV.out.k33 (getD_dn (by decide) h0), fun h0 => HV.out.k34 (getD_dn (by decide) h0), fun h0 => HV.out.k36 (getD_dn (by decide) h0), fun h0 => HV.out.k37 (getD_dn (by decide) h0), fun h0 => HV.out.k38 (getD_dn (by decide) h0), fun h0 => HV.out.r35 (getD_dn (by decide) h0), HV.out.g, HV.out.d, HV.out.c⟩⟩
          · simp at ho
            subst ho
            have h3x : L.getD 3 false = true := hall { on := 3, ground := Ground.data } (by simp) (by decide)
            have h5x : L.getD 5 false = true := hall { on := 5, ground := Ground.data } (by simp) (by decide)
            have h2x : L.getD 2 false = true := hall { on := 2, ground := Ground.guard } (by simp) (by decide)
            have H3 := Lib.hid h3x
            have H5 := Lib.hid h5x
            have H2 := Lib.hid h2x
            clear hall hi h3x h5x h2x
            have e0 := HV.out.k3 H3.out
            subst e0
            have e1 := HV.out.k5 H5.out
            subst e1
            have e2 := HV.out.k2 H2.out
            subst e2
            refine wpOp_step rfl (fun K' hK' => ?_)
            have HK := Lib.hid hK'
            clear hK'
            go_simp
            exact HK.out _ _ ⟨by simp [HJ.out.sz], ⟨_, _, _, _, _, _, _, _, _, _, _, _, _, _, _, _, _, _, _, _, _, _, _, _, _, _, _, _, _, _, _, _, _, _, _, _, _, _, _, rfl, fun h0 => HV.out.k0 (getD_dn (by decide) h0), fun h0 => HV.out.k1 (getD_dn (by decide) h0), fun h0 => HV.out.k2 (getD_dn (by decide) h0), fun h0 => HV.out.k3 (getD_dn (by decide) h0), fun h0 => HV.out.k4 (getD_dn (by decide) h0), fun h0 => HV.out.k5 (getD_dn (by decide) h0), fun _ => rfl, fun h0 => HV.out.k7 (getD_dn (by decide) h0), fun h0 => HV.out.k8 (getD_dn (by decide) h0), fun h0 => HV.out.k9 (getD_dn (by decide) h0), fun h0 => HV.out.k10 (getD_dn (by decide) h0), fun h0 => HV.out.k11 (getD_dn (by decide) h0), fun h0 => HV.out.k12 (getD_dn (by decide) h0), fun h0 => HV.out.k13 (getD_dn (by decide) h0), fun h0 => HV.out.k14 (getD_dn (by decide) h0), fun h0 => HV.out.k15 (getD_dn (by decide) h0), fun h0 => HV.out.k16 (getD_dn (by decide) h0), fun h0 => HV.out.k17 (getD_dn (by decide) h0), fun h0 => HV.out.k18 (getD_dn (by decide) h0), fun h0 => HV.out.k19 (getD_dn (by decide) h0), fun h0 => HV.out.k20 (getD_dn (by decide) h0), fun h0 => HV.out.k21 (getD_dn (by decide) h0), fun h0 => HV.out.k22 (getD_dn (by decide) h0), fun h0 => HV.out.k23 (getD_dn (by decide) h0), fun h0 => HV.out.k24 (getD_dn (by decide) h0), fun h0 => HV.out.k25 (getD_dn (by decide) h0), fun h0 => HV.out.k26 (getD_dn (by decide) h0), fun h0 => HV.out.k27 (getD_dn (by decide) h0), fun h0 => HV.out.k28 (getD_dn (by decide) h0), fun h0 => HV.out.k29 (getD_dn (by decide) h0), fun h0 => HV.out.k30 (getD_dn (by decide) h0), fun h0 => HV.out.k31 (getD_dn (by decide) h0), fun h0 => HV.out.k32 (getD_dn (by decide) h0), fun h0 => HV.out.k33 (getD_dn (by decide) h0), fun h0 => HV.out.k34 (getD_dn (by decide) h0), fun h0 => HV.out.k36 (getD_dn (by decide) h0), fun h0 => HV.out.k37 (getD_dn (by decide) h0), fun h0 => HV.out.k38 (getD_dn (by decide) h0), fun h0 => HV.out.r35 (getD_dn (by decide) h0), HV.out.g, HV.out.d, HV.out.c⟩⟩
          · simp at ho
            subst ho
            have h6x : L.getD 6 false = true := hall { on := 6, ground := Ground.data } (by simp) (by decide)
            have h2x : L.getD 2 false = true := hall { on := 2, ground := Ground.guard } (by simp) (by decide)
            have H6 := Lib.hid h6x
            have H2 := Lib.hid h2x
            clear hall hi h6x h2x
            have e0 := HV.out.k6 H6.out
            subst e0
            have e1 := HV.out.k2 H2.out
            subst e1
            refine wpOp_step rfl (fun K' hK' => ?_)
            have HK := Lib.hid hK'
            clear hK'
            go_simp
            exact HK.out _ _ ⟨by simp [HJ.out.sz], ⟨_, _, _, _, _, _, _, _, _, _, _, _, _, _, _, _, _, _, _, _, _, _, _, _, _, _, _, _, _, _, _, _, _, _, _, _, _, _, _, rfl, fun h0 => HV.out.k0 (getD_dn (by decide) h0), fun h0 => HV.out.k1 (getD_dn (by decide) h0), fun h0 => HV.out.k2 (getD_dn (by decide) h0), fun h0 => HV.out.k3 (getD_dn (by decide) h0), fun h0 => HV.out.k4 (getD_dn (by decide) h0), fun h0 => HV.out.k5 (getD_dn (by decide) h0), fun h0 => HV.out.k6 (getD_dn (by decide) h0), fun _ => rfl, fun h0 => HV.out.k8 (getD_dn (by decide) h0), fun h0 => HV.out.k9 (getD_dn (by decide) h0), fun h0 => HV.out.k10 (getD_dn (by decide) h0), fun h0 => HV.out.k11 (getD_dn (by decide) h0), fun h0 => HV.out.k12 (getD_dn (by decide) h0), fun h0 => HV.out.k13 (getD_dn (by decide) h0), fun h0 => HV.out.k14 (getD_dn (by decide) h0), fun h0 => HV.out.k15 (getD_dn (by decide) h0), fun h0 => HV.out.k16 (getD_dn (by decide) h0), fun h0 => HV.out.k17 (getD_dn (by decide) h0), fun h0 => HV.out.k18 (getD_dn (by decide) h0), fun h0 => HV.out.k19 (getD_dn (by decide) h0), fun h0 => HV.out.k20 (getD_dn (by decide) h0), fun h0 => HV.out.k21 (getD_dn (by decide) h0), fun h0 => HV.out.k22 (getD_dn (by decide) h0), fun h0 => HV.out.k23 (getD_dn (by decide) h0), fun h0 => HV.out.k24 (getD_dn (by decide) h0), fun h0 => HV.out.k25 (getD_dn (by decide) h0), fun h0 => HV.out.k26 (getD_dn (by decide) h0), fun h0 => HV.out.k27 (getD_dn (by decide) h0), fun h0 => HV.out.k28 (getD_dn (by decide) h0), fun h0 => HV.out.k29 (getD_dn (by decide) h0), fun h0 => HV.out.k30 (getD_dn (by decide) h0), fun h0 => HV.out.k31 (getD_dn (by decide) h0), fun h0 => HV.out.k32 (getD_dn (by decide) h0), fun h0 => HV.out.k33 (getD_dn (by decide) h0), fun h0 => HV.out.k34 (getD_dn (by decide) h0), fun h0 => HV.out.k36 (getD_dn (by decide) h0), fun h0 => HV.out.k37 (getD_dn (by decide) h0), fun h0 => HV.out.k38 (getD_dn (by decide) h0), fun h0 => HV.out.r35 (getD_dn (by decide) h0), HV.out.g, HV.out.d, HV.out.c⟩⟩
          · simp at ho
            subst ho
            have h7x : L.getD 7 false = true := hall { on := 7, ground := Ground.data } (by simp) (by decide)
            have h2x : L.getD 2 false = true := hall { on := 2, ground := Ground.guard } (by simp) (by decide)
            have H7 := Lib.hid h7x
            have H2 := Lib.hid h2x
            clear hall hi h7x h2x
            have e0 := HV.out.k7 H7.out
            subst e0
            have e1 := HV.out.k2 H2.out
            subst e1
            obtain ⟨m0, m1, m2⟩ := HV.out.c
            refine wpOp_step rfl (fun K' hK' => ?_)
            have HK := Lib.hid hK'
            clear hK'
            go_simp
            exact HK.out _ _ ⟨by simp [HJ.out.sz], ⟨_, _, _, _, _, _, _, _, _, _, _, _, _, _, _, _, _, _, _, _, _, _, _, _, _, _, _, _, _, _, _, _, _, _, _, _, _, _, _, rfl, fun h0 => HV.out.k0 (getD_dn (by decide) h0), fun h0 => HV.out.k1 (getD_dn (by decide) h0), fun h0 => HV.out.k2 (getD_dn (by decide) h0), fun h0 => HV.out.k3 (getD_dn (by decide) h0), fun h0 => HV.out.k4 (getD_dn (by decide) h0), fun h0 => HV.out.k5 (getD_dn (by decide) h0), fun h0 => HV.out.k6 (getD_dn (by decide) h0), fun h0 => HV.out.k7 (getD_dn (by decide) h0), fun _ => rfl, fun h0 => HV.out.k9 (getD_dn (by decide) h0), fun h0 => HV.out.k10 (getD_dn (by decide) h0), fun h0 => HV.out.k11 (getD_dn (by decide) h0), fun h0 => HV.out.k12 (getD_dn (by decide) h0), fun h0 => HV.out.k13 (getD_dn (by decide) h0), fun h0 => HV.out.k14 (getD_dn (by decide) h0), fun h0 => HV.out.k15 (getD_dn (by decide) h0), fun h0 => HV.out.k16 (getD_dn (by decide) h0), fun h0 => HV.out.k17 (getD_dn (by decide) h0), fun h0 => HV.out.k18 (getD_dn (by decide) h0), fun h0 => HV.out.k19 (getD_dn (by decide) h0), fun h0 => HV.out.k20 (getD_dn (by decide) h0), fun h0 => HV.out.k21 (getD_dn (by decide) h0), fun h0 => HV.out.k22 (getD_dn (by decide) h0), fun h0 => HV.out.k23 (getD_dn (by decide) h0), fun h0 => HV.out.k24 (getD_dn (by decide) h0), fun h0 => HV.out.k25 (getD_dn (by decide) h0), fun h0 => HV.out.k26 (getD_dn (by decide) h0), fun h0 => HV.out.k27 (getD_dn (by decide) h0), fun h0 => HV.out.k28 (getD_dn (by decide) h0), fun h0 => HV.out.k29 (getD_dn (by decide) h0), fun h0 => HV.out.k30 (getD_dn (by decide) h0), fun h0 => HV.out.k31 (getD_dn (by decide) h0), fun h0 => HV.out.k32 (getD_dn (by decide) h0), fun h0 => HV.out.k33 (getD_dn (by decide) h0), fun h0 => HV.out.k34 (getD_dn (by decide) h0), fun h0 => HV.out.k36 (getD_dn (by decide) h0), fun h0 => HV.out.k37 (getD_dn (by decide) h0), fun h0 => HV.out.k38 (getD_dn (by decide) h0), fun h0 => HV.out.r35 (getD_dn (by decide) h0), HV.out.g, HV.out.d, HV.out.c⟩⟩
          · simp at ho
            subst ho
            have h2x : L.getD 2 false = true := hall { on := 2, ground := Ground.guard } (by simp) (by decide)
            have H2 := Lib.hid h2x
            clear hall hi h2x
            have e0 := HV.out.k2 H2.out
            subst e0
            refine wpOp_step rfl (fun K' hK' => ?_)
            have HK := Lib.hid hK'
            clear hK'
            go_simp
            exact HK.out _ _ ⟨by simp [HJ.out.sz], ⟨_, _, _, _, _, _, _, _, _, _, _, _, _, _, _, _, _, _, _, _, _, _, _, _, _, _, _, _, _, _, _, _, _, _, _, _, _, _, _, rfl, fun h0 => HV.out.k0 (getD_dn (by decide) h0), fun h0 => HV.out.k1 (getD_dn (by decide) h0), fun h0 => HV.out.k2 (getD_dn (by decide) h0), fun h0 => HV.out.k3 (getD_dn (by decide) h0), fun h0 => HV.out.k4 (getD_dn (by decide) h0), fun h0 => HV.out.k5 (getD_dn (by decide) h0), fun h0 => HV.out.k6 (getD_dn (by decide) h0), fun h0 => HV.out.k7 (getD_dn (by decide) h0), fun h0 => HV.out.k8 (getD_dn (by decide) h0), fun _ => rfl, fun h0 => HV.out.k10 (getD_dn (by decide) h0), fun h0 => HV.out.k11 (getD_dn (by decide) h0), fun h0 => HV.out.k12 (getD_dn (by decide) h0), fun h0 => HV.out.k13 (getD_dn (by decide) h0), fun h0 => HV.out.k14 (getD_dn (by decide) h0), fun h0 => HV.out.k15 (getD_dn (by decide) h0), fun h0 => HV.out.k16 (getD_dn (by decide) h0), fun h0 => HV.out.k17 (getD_dn (by decide) h0), fun h0 => HV.out.k18 (getD_dn (by decide) h0), fun h0 => HV.out.k19 (getD_dn (by decide) h0), fun h0 => HV.out.k20 (getD_dn (by decide) h0), fun h0 => HV.out.k21 (getD_dn (by decide) h0), fun h0 => HV.out.k22 (getD_dn (by decide) h0), fun h0 => HV.out.k23 (getD_dn (by decide) h0), fun h0 => HV.out.k24 (getD_dn (by decide) h0), fun h0 => HV.out.k25 (getD_dn (by decide) h0), fun h0 => HV.out.k26 (getD_dn (by decide) h0), fun h0 => HV.out.k27 (getD_dn (by decide) h0), fun h0 => HV.out.k28 (getD_dn (by decide) h0), fun h0 => HV.out.k29 (getD_dn (by decide) h0), fun h0 => HV.out.k30 (getD_dn (by decide) h0), fun h0 => HV.out.k31 (getD_dn (by decide) h0), fun h0 => HV.out.k32 (getD_dn (by decide) h0), fun h0 => HV.out.k33 (getD_dn (by decide) h0), fun h0 => HV.out.k34 (getD_dn (by decide) h0), fun h0 => HV.out.k36 (getD_dn (by decide) h0), fun h0 => HV.out.k37 (getD_dn (by decide) h0), fun h0 => HV.out.k38 (getD_dn (by decide) h0), fun h0 => HV.out.r35 (getD_dn (by decide) h0), HV.out.g, HV.out.d, HV.out.c⟩⟩
          · simp at ho
            subst ho
            have h9x : L.getD 9 false = true := hall { on := 9, ground := Ground.data } (by simp) (by decide)
            have h2x : L.getD 2 false = true := hall { on := 2, ground := Ground.guard } (by simp) (by decide)
            have H9 := Lib.hid h9x
            have H2 := Lib.hid h2x
            clear hall hi h9x h2x
            have e0 := HV.out.k9 H9.out
            subst e0
            have e1 := HV.out.k2 H2.out
            subst e1
            obtain ⟨m0, m1, m2⟩ := HV.out.c
            refine wpOp_step rfl (fun K' hK' => ?_)
            have HK := Lib.hid hK'
            clear hK'
            go_simp
            exact HK.out _ _ ⟨by simp [HJ.out.sz], ⟨_, _, _, _, _, _, _, _, _, _, _, _, _, _, _, _, _, _, _, _, _, _, _, _, _, _, _, _, _, _, _, _, _, _, _, _, _, _, _, rfl, fun h0 => HV.out.k0 (getD_dn (by decide) h0), fun h0 => HV.out.k1 (getD_dn (by decide) h0), fun h0 => HV.out.k2 (getD_dn (by decide) h0), fun h0 => HV.out.k3 (getD_dn (by decide) h0), fun h0 => HV.out.k4 (getD_dn (by decide) h0), fun h0 => HV.out.k5 (getD_dn (by decide) h0), fun h0 => HV.out.k6 (getD_dn (by decide) h0), fun h0 => HV.out.k7 (getD_dn (by decide) h0), fun h0 => HV.out.k8 (getD_dn (by decide) h0), fun h0 => HV.out.k9 (getD_dn (by decide) h0), fun _ => rfl, fun h0 => HV.out.k11 (getD_dn (by decide) h0), fun h0 => HV.out.k12 (getD_dn (by decide) h0), fun h0 => HV.out.k13 (getD_dn (by decide) h0), fun h0 => HV.out.k14 (getD_dn (by decide) h0), fun h0 => HV.out.k15 (getD_dn (by decide) h0), fun h0 => HV.out.k16 (getD_dn (by decide) h0), fun h0 => HV.out.k17 (getD_dn (by decide) h0), fun h0 => HV.out.k18 (getD_dn (by decide) h0), fun h0 => HV.out.k19 (getD_dn (by decide) h0), fun h0 => HV.out.k20 (getD_dn (by decide) h0), fun h0 => HV.out.k21 (getD_dn (by decide) h0), fun h0 => HV.out.k22 (getD_dn (by decide) h0), fun h0 => HV.out.k23 (getD_dn (by decide) h0), fun h0 => HV.out.k24 (getD_dn (by decide) h0), fun h0 => HV.out.k25 (getD_dn (by decide) h0), fun h0 => HV.out.k26 (getD_dn (by decide) h0), fun h0 => HV.out.k27 (getD_dn (by decide) h0), fun h0 => HV.out.k28 (getD_dn (by decide) h0), fun h0 => HV.out.k29 (getD_dn (by decide) h0), fun h0 => HV.out.k30 (getD_dn (by decide) h0), fun h0 => HV.out.k31 (getD_dn (by decide) h0), fun h0 => HV.out.k32 (getD_dn (by decide) h0), fun h0 => HV.out.k33 (getD_dn (by decide) h0), fun h0 => HV.out.k34 (getD_dn (by decide) h0), fun h0 => HV.out.k36 (getD_dn (by decide) h0), fun h0 => HV.out.k37 (getD_dn (by decide) h0), fun h0 => HV.out.k38 (getD_dn (by decide) h0), fun h0 => HV.out.r35 (getD_dn (by decide) h0), HV.out.g, HV.out.d, HV.out.c⟩⟩
          · simp at ho
            subst ho
            have h8x : L.getD 8 false = true := hall { on := 8, ground := Ground.data } (by simp) (by decide)
            have h10x : L.getD 10 false = true := hall { on := 10, ground := Ground.data } (by simp) (by decide)
            have h2x : L.getD 2 false = true := hall { on := 2, ground := Ground.guard } (by simp) (by decide)
            have H8 := Lib.hid h8x
            have H10 := Lib.hid h10x
            have H2 := Lib.hid h2x
            clear hall hi h8x h10x h2x
            have e0 := HV.out.k8 H8.out
            subst e0
            have e1 := HV.out.k10 H10.out
            subst e1
            have e2 := HV.out.k2 H2.out
            subst e2
            refine wpOp_step rfl (fun K' hK' => ?_)
            have HK := Lib.hid hK'
            clear hK'
            go_simp
            exact HK.out _ _ ⟨by simp [HJ.out.sz], ⟨_, _, _, _, _, _, _, _, _, _, _, _, _, _, _, _, _, _, _, _, _, _, _, _, _, _, _, _, _, _, _, _, _, _, _, _, _, _, _, rfl, fun h0 => HV.out.k0 (getD_dn (by decide) h0), fun h0 => HV.out.k1 (getD_dn (by decide) h0), fun h0 => HV.out.k2 (getD_dn (by decide) h0), fun h0 => HV.out.k3 (getD_dn (by decide) h0), fun h0 => HV.out.k4 (getD_dn (by decide) h0), fun h0 => HV.out.k5 (getD_dn (by decide) h0), fun h0 => HV.out.k6 (getD_dn (by decide) h0), fun h0 => HV.out.k7 (getD_dn (by decide) h0), fun h0 => HV.out.k8 (getD_dn (by decide) h0), fun h0 => HV.out.k9 (getD_dn (by decide) h0), fun h0 => HV.out.k10 (getD_dn (by decide) h0), fun _ => rfl, fun h0 => HV.out.k12 (getD_dn (by decide) h0), fun h0 => HV.out.k13 (getD_dn (by decide) h0), fun h0 => HV.out.k14 (getD_dn (by decide) h0), fun h0 => HV.out.k15 (getD_dn (by decide) h0), fun h0 => HV.out.k16 (getD_dn (by decide) h0), fun h0 => HV.out.k17 (getD_dn (by decide) h0), fun h0 => HV.out.k18 (getD_dn (by decide) h0), fun h0 => HV.out.k19 (getD_dn (by decide) h0), fun h0 => HV.out.k20 (getD_dn (by decide) h0), fun h0 => HV.out.k21 (getD_dn (by decide) h0), fun h0 => HV.out.k22 (getD_dn (by decide) h0), fun h0 => HV.out.k23 (getD_dn (by decide) h0), fun h0 => HV.out.k24 (getD_dn (by decide) h0), fun h0 => HV.out.k25 (getD_dn (by decide) h0), fun h0 => HV.out.k26 (getD_dn (by decide) h0), fun h0 => HV.out.k27 (getD_dn (by decide) h0), fun h0 => HV.out.k28 (getD_dn (by decide) h0), fun h0 => HV.out.k29 (getD_dn (by decide) h0), fun h0 => HV.out.k30 (getD_dn (by decide) h0), fun h0 => HV.out.k31 (getD_dn (by decide) h0), fun h0 => HV.out.k32 (getD_dn (by decide) h0), fun h0 => HV.out.k33 (getD_dn (by decide) h0), fun h0 => HV.out.k34 (getD_dn (by decide) h0), fun h0 => HV.out.k36 (getD_dn (by decide) h0), fun h0 => HV.out.k37 (getD_dn (by decide) h0), fun h0 => HV.out.k38 (getD_dn (by decide) h0), fun h0 => HV.out.r35 (getD_dn (by decide) h0), HV.out.g, HV.out.d, HV.out.c⟩⟩
          · simp at ho
            subst ho
            have h2x : L.getD 2 false = true := hall { on := 2, ground := Ground.data } (by simp) (by decide)
            have h11x : L.getD 11 false = true := hall { on := 11, ground := Ground.data } (by simp) (by decide)
            have H2 := Lib.hid h2x
            have H11 := Lib.hid h11x
            clear hall hi h2x h11x
            have e0 := HV.out.k2 H2.out
            subst e0
            have e1 := HV.out.k11 H11.out
            subst e1
            refine wpOp_step rfl (fun K' hK' => ?_)
            have HK := Lib.hid hK'
            clear hK'
            go_simp
            exact HK.out _ _ ⟨by simp [HJ.out.sz], ⟨_, _, _, _, _, _, _, _, _, _, _, _, _, _, _, _, _, _, _, _, _, _, _, _, _, _, _, _, _, _, _, _, _, _, _, _, _, _, _, rfl, fun h0 => HV.out.k0 (getD_dn (by decide) h0), fun h0 => HV.out.k1 (getD_dn (by decide) h0), fun h0 => HV.out.k2 (getD_dn (by decide) h0), fun h0 => HV.out.k3 (getD_dn (by decide) h0), fun h0 => HV.out.k4 (getD_dn (by decide) h0), fun h0 => HV.out.k5 (getD_dn (by decide) h0), fun h0 => HV.out.k6 (getD_dn (by decide) h0), fun h0 => HV.out.k7 (getD_dn (by decide) h0), fun h0 => HV.out.k8 (getD_dn (by decide) h0), fun h0 => HV.out.k9 (getD_dn (by decide) h0), fun h0 => HV.out.k10 (getD_dn (by decide) h0), fun h0 => HV.out.k11 (getD_dn (by decide) h0), fun _ => rfl, fun h0 => HV.out.k13 (getD_dn (by decide) h0), fun h0 => HV.out.k14 (getD_dn (by decide) h0), fun h0 => HV.out.k15 (getD_dn (by decide) h0), fun h0 => HV.out.k16 (getD_dn (by decide) h0), fun h0 => HV.out.k17 (getD_dn (by decide) h0), fun h0 => HV.out.k18 (getD_dn (by decide) h0), fun h0 => HV.out.k19 (getD_dn (by decide) h0), fun h0 => HV.out.k20 (getD_dn (by decide) h0), fun h0 => HV.out.k21 (getD_dn (by decide) h0), fun h0 => HV.out.k22 (getD_dn (by decide) h0), fun h0 => HV.out.k23 (getD_dn (by decide) h0), fun h0 => HV.out.k24 (getD_dn (by decide) h0), fun h0 => HV.out.k25 (getD_dn (by decide) h0), fun h0 => HV.out.k26 (getD_dn (by decide) h0), fun h0 => HV.out.k27 (getD_dn (by decide) h0), fun h0 => HV.out.k28 (getD_dn (by decide) h0), fun h0 => HV.out.k29 (getD_dn (by decide) h0), fun h0 => HV.out.k30 (getD_dn (by decide) h0), fun h0 => HV.out.k31 (getD_dn (by decide) h0), fun h0 => HV.out.k32 (getD_dn (by decide) h0), fun h0 => HV.out.k33 (getD_dn (by decide) h0), fun h0 => HV.out.k34 (getD_dn (by decide) h0), fun h0 => HV.out.k36 (getD_dn (by decide) h0), fun h0 => HV.out.k37 (getD_dn (by decide) h0), fun h0 => HV.out.k38 (getD_dn (by decide) h0), fun h0 => HV.out.r35 (getD_dn (by decide) h0), HV.out.g, HV.out.d, HV.out.c⟩⟩
          · simp at ho
            subst ho
            have h12x : L.getD 12 false = true := hall { on := 12, ground := Ground.data } (by simp) (by decide)
            have H12 := Lib.hid h12x
            clear hall hi h12x
            have e0 := HV.out.k12 H12.out
            subst e0
            refine wpOp_step rfl (fun K' hK' => ?_)
            have HK := Lib.hid hK'
            clear hK'
            go_simp
            exact HK.out _ _ ⟨by simp [HJ.out.sz], ⟨_, _, _, _, _, _, _, _, _, _, _, _, _, _, _, _, _, _, _, _, _, _, _, _, _, _, _, _, _, _, _, _, _, _, _, _, _, _, _, rfl, fun h0 => HV.out.k0 (getD_dn (by decide) h0), fun h0 => HV.out.k1 (getD_dn (by decide) h0), fun h0 => HV.out.k2 (getD_dn (by decide) h0), fun h0 => HV.out.k3 (getD_dn (by decide) h0), fun h0 => HV.out.k4 (getD_dn (by decide) h0), fun h0 => HV.out.k5 (getD_dn (by decide) h0), fun h0 => HV.out.k6 (getD_dn (by decide) h0), fun h0 => HV.out.k7 (getD_dn (by decide) h0), fun h0 => HV.out.k8 (getD_dn (by decide) h0), fun h0 => HV.out.k9 (getD_dn (by decide) h0), fun h0 => HV.out.k10 (getD_dn (by decide) h0), fun h0 => HV.out.k11 (getD_dn (by decide) h0), fun h0 => HV.out.k12 (getD_dn (by decide) h0), fun _ => rfl, fun h0 => HV.out.k14 (getD_dn (by decide) h0), fun h0 => HV.out.k15 (getD_dn (by decide) h0), fun h0 => HV.out.k16 (getD_dn (by decide) h0), fun h0 => HV.out.k17 (getD_dn (by decide) h0), fun h0 => HV.out.k18 (getD_dn (by decide) h0), fun h0 => HV.out.k19 (getD_dn (by decide) h0), fun h0 => HV.out.k20 (getD_dn (by decide) h0), fun h0 => HV.out.k21 (getD_dn (by decide) h0), fun h0 => HV.out.k22 (getD_dn (by decide) h0), fun h0 => HV.out.k23 (getD_dn (by decide) h0), fun h0 => HV.out.k24 (getD_dn (by decide) h0), fun h0 => HV.out.k25 (getD_dn (by decide) h0), fun h0 => HV.out.k26 (getD_dn (by decide) h0), fun h0 => HV.out.k27 (getD_dn (by decide) h0), fun h0 => HV.out.k28 (getD_dn (by decide) h0), fun h0 => HV.out.k29 (getD_dn (by decide) h0), fun h0 => HV.out.k30 (getD_dn (by decide) h0), fun h0 => HV.out.k31 (getD_dn (by decide) h0), fun h0 => HV.out.k32 (getD_dn (by decide) h0), fun h0 => HV.out.k33 (getD_dn (by decide) h0), fun h0 => HV.out.k34 (getD_dn (by decide) h0), fun h0 => HV.out.k36 (getD_dn (by decide) h0), fun h0 => HV.out.k37 (getD_dn (by decide) h0), fun h0 => HV.out.k38 (getD_dn (by decide) h0), fun h0 => HV.out.r35 (getD_dn (by decide) h0), HV.out.g, HV.out.d, HV.out.c⟩⟩
          · simp at ho
            subst ho
            have h13x : L.getD 13 false = true := hall { on := 13, ground := Ground.guard } (by simp) (by decide)
            have H13 := Lib.hid h13x
            clear hall hi h13x
            have e0 := HV.out.k13 H13.out
            subst e0
            refine wpOp_step rfl (fun K' hK' => ?_)
            have HK := Lib.hid hK'
            clear hK'
            go_simp
            exact HK.out _ _ ⟨by simp [HJ.out.sz], ⟨_, _, _, _, _, _, _, _, _, _, _, _, _, _, _, _, _, _, _, _, _, _, _, _, _, _, _, _, _, _, _, _, _, _, _, _, _, _, _, rfl, fun h0 => HV.out.k0 (getD_dn (by decide) h0), fun h0 => HV.out.k1 (getD_dn (by decide) h0), fun h0 => HV.out.k2 (getD_dn (by decide) h0), fun h0 => HV.out.k3 (getD_dn (by decide) h0), fun h0 => HV.out.k4 (getD_dn (by decide) h0), fun h0 => HV.out.k5 (getD_dn (by decide) h0), fun h0 => HV.out.k6 (getD_dn (by decide) h0), fun h0 => HV.out.k7 (getD_dn (by decide) h0), fun h0 => HV.out.k8 (getD_dn (by decide) h0), fun h0 => HV.out.k9 (getD_dn (by decide) h0), fun h0 => HV.out.k10 (getD_dn (by decide) h0), fun h0 => HV.out.k11 (getD_dn (by decide) h0), fun h0 => HV.out.k12 (getD_dn (by decide) h0), fun h0 => HV.out.k13 (getD_dn (by decide) h0), fun _ => rfl, fun h0 => HV.out.k15 (getD_dn (by decide) h0), fun h0 => HV.out.k16 (getD_dn (by decide) h0), fun h0 => HV.out.k17 (getD_dn (by decide) h0), fun h0 => HV.out.k18 (getD_dn (by decide) h0), fun h0 => HV.out.k19 (getD_dn (by decide) h0), fun h0 => HV.out.k20 (getD_dn (by decide) h0), fun h0 => HV.out.k21 (getD_dn (by decide) h0), fun h0 => HV.out.k22 (getD_dn (by decide) h0), fun h0 => HV.out.k23 (getD_dn (by decide) h0), fun h0 => HV.out.k24 (getD_dn (by decide) h0), fun h0 => HV.out.k25 (getD_dn (by decide) h0), fun h0 => HV.out.k26 (getD_dn (by decide) h0), fun h0 => HV.out.k27 (getD_dn (by decide) h0), fun h0 => HV.out.k28 (getD_dn (by decide) h0), fun h0 => HV.out.k29 (getD_dn (by decide) h0), fun h0 => HV.out.k30 (getD_dn (by decide) h0), fun h0 => HV.out.k31 (getD_dn (by decide) h0), fun h0 => HV.out.k32 (getD_dn (by decide) h0), fun h0 => HV.out.k33 (getD_dn (by decide) h0), fun h0 => HV.out.k34 (getD_dn (by decide) h0), fun h0 => HV.out.k36 (getD_dn (by decide) h0), fun h0 => HV.out.k37 (getD_dn (by decide) h0), fun h0 => HV.out.k38 (getD_dn (by decide) h0), fun h0 => HV.out.r35 (getD_dn (by decide) h0), HV.out.g, HV.out.d, HV.out.c⟩⟩
          · simp at ho
            subst ho
            have h14x : L.getD 14 false = true := hall { on := 14, ground := Ground.data } (by simp) (by decide)
            have h13x : L.getD 13 false = true := hall { on := 13, ground := Ground.guard } (by simp) (by decide)
            have H14 := Lib.hid h14x
            have H13 := Lib.hid h13x
            clear hall hi h14x h13x
            have e0 := HV.out.k14 H14.out
            subst e0
            have e1 := HV.out.k13 H13.out
            subst e1
            refine wpOp_step rfl (fun K' hK' => ?_)
            have HK := Lib.hid hK'
            clear hK'
            go_simp
            exact HK.out _ _ ⟨by simp [HJ.out.sz], ⟨_, _, _, _, _, _, _, _, _, _, _, _, _, _, _, _, _, _, _, _, _, _, _, _, _, _, _, _, _, _, _, _, _, _, _, _, _, _, _, rfl, fun h0 => HV.out.k0 (getD_dn (by decide) h0), fun h0 => HV.out.k1 (getD_dn (by decide) h0), fun h0 => HV.out.k2 (getD_dn (by decide) h0), fun h0 => HV.out.k3 (getD_dn (by decide) h0), fun h0 => HV.out.k4 (getD_dn (by decide) h0), fun h0 => HV.out.k5 (getD_dn (by decide) h0), fun h0 => HV.out.k6 (getD_dn (by decide) h0), fun h0 => HV.out.k7 (getD_dn (by decide) h0), fun h0 => HV.out.k8 (getD_dn (by decide) h0), fun h0 => HV.out.k9 (getD_dn (by decide) h0), fun h0 => HV.out.k10 (getD_dn (by decide) h0), fun h0 => HV.out.k11 (getD_dn (by decide) h0), fun h0 => HV.out.k12 (getD_dn (by decide) h0), fun h0 => HV.out.k13 (getD_dn (by decide) h0), fun h0 => HV.out.k14 (getD_dn (by decide) h0), fun _ => rfl, fun h0 => HV.out.k16 (getD_dn (by decide) h0), fun h0 => HV.out.k17 (getD_dn (by decide) h0), fun h0 => HV.out.k18 (getD_dn (by decide) h0), fun h0 => HV.out.k19 (getD_dn (by decide) h0), fun h0 => HV.out.k20 (getD_dn (by decide) h0), fun h0 => HV.out.k21 (getD_dn (by decide) h0), fun h0 => HV.out.k22 (getD_dn (by decide) h0), fun h0 => HV.out.k23 (getD_dn (by decide) h0), fun h0 => HV.out.k24 (getD_dn (by decide) h0), fun h0 => HV.out.k25 (getD_dn (by decide) h0), fun h0 => HV.out.k26 (getD_dn (by decide) h0), fun h0 => HV.out.k27 (getD_dn (by decide) h0), fun h0 => HV.out.k28 (getD_dn (by decide) h0), fun h0 => HV.out.k29 (getD_dn (by decide) h0), fun h0 => HV.out.k30 (getD_dn (by decide) h0), fun h0 => HV.out.k31 (getD_dn (by decide) h0), fun h0 => HV.out.k32 (getD_dn (by decide) h0), fun h0 => HV.out.k33 (getD_dn (by decide) h0), fun h0 => HV.out.k34 (getD_dn (by decide) h0), fun h0 => HV.out.k36 (getD_dn (by decide) h0), fun h0 => HV.out.k37 (getD_dn (by decide) h0), fun h0 => HV.out.k38 (getD_dn (by decide) h0), fun h0 => HV.out.r35 (getD_dn (by decide) h0), HV.out.g, HV.out.d, HV.out.c⟩⟩
          · simp at ho
            subst ho
            have h15x : L.getD 15 false = true := hall { on := 15, ground := Ground.data } (by simp) (by decide)
            have h13x : L.getD 13 false = true := hall { on := 13, ground := Ground.guard } (by simp) (by decide)
            have H15 := Lib.hid h15x
            have H13 := Lib.hid h13x
            clear hall hi h15x h13x
            have e0 := HV.out.k15 H15.out
            subst e0
            have e1 := HV.out.k13 H13.out
            subst e1
            have t0 := HT0.out.1; have t0' := HT0.out.2
            refine wpOp_step rfl (fun K' hK' => ?_)
            have HK := Lib.hid hK'
            clear hK'
            go_simp
            exact HK.out _ _ ⟨by simp [HJ.out.sz], ⟨_, _, _, _, _, _, _, _, _, _, _, _, _, _, _, _, _, _, _, _, _, _, _, _, _, _, _, _, _, _, _, _, _, _, _, _, _, _, _, rfl, fun h0 => HV.out.k0 (getD_dn (by decide) h0), fun h0 => HV.out.k1 (getD_dn (by decide) h0), fun h0 => HV.out.k2 (getD_dn (by decide) h0), fun h0 => HV.out.k3 (getD_dn (by decide) h0), fun h0 => HV.out.k4 (getD_dn (by decide) h0), fun h0 => HV.out.k5 (getD_dn (by decide) h0), fun h0 => HV.out.k6 (getD_dn (by decide) h0), fun h0 => HV.out.k7 (getD_dn (by decide) h0), fun h0 => HV.out.k8 (getD_dn (by decide) h0), fun h0 => HV.out.k9 (getD_dn (by decide) h0), fun h0 => HV.out.k10 (getD_dn (by decide) h0), fun h0 => HV.out.k11 (getD_dn (by decide) h0), fun h0 => HV.out.k12 (getD_dn (by decide) h0), fun h0 => HV.out.k13 (getD_dn (by decide) h0), fun h0 => HV.out.k14 (getD_dn (by decide) h0), fun h0 => HV.out.k15 (getD_dn (by decide) h0), fun _ => rfl, fun h0 => HV.out.k17 (getD_dn (by decide) h0), fun h0 => HV.out.k18 (getD_dn (by decide) h0), fun h0 => HV.out.k19 (getD_dn (by decide) h0), fun h0 => HV.out.k20 (getD_dn (by decide) h0), fun h0 => HV.out.k21 (getD_dn (by decide) h0), fun h0 => HV.out.k22 (getD_dn (by decide) h0), fun h0 => HV.out.k23 (getD_dn (by decide) h0), fun h0 => HV.out.k24 (getD_dn (by decide) h0), fun h0 => HV.out.k25 (getD_dn (by decide) h0), fun h0 => HV.out.k26 (getD_dn (by decide) h0), fun h0 => HV.out.k27 (getD_dn (by decide) h0), fun h0 => HV.out.k28 (getD_dn (by decide) h0), fun h0 => HV.out.k29 (getD_dn (by decide) h0), fun h0 => HV.out.k30 (getD_dn (by decide) h0), fun h0 => HV.out.k31 (getD_dn (by decide) h0), fun h0 => HV.out.k32 (getD_dn (by decide) h0), fun h0 => HV.out.k33 (getD_dn (by decide) h0), fun h0 => HV.out.k34 (getD_dn (by decide) h0), fun h0 => HV.out.k36 (getD_dn (by decide) h0), fun h0 => HV.out.k37 (getD_dn (by decide) h0), fun h0 => HV.out.k38 (getD_dn (by decide) h0), fun h0 => HV.out.r35 (getD_dn (by decide) h0), HV.out.g, HV.out.d, HV.out.c⟩⟩
          · simp at ho
            subst ho
            have h13x : L.getD 13 false = true := hall { on := 13, ground := Ground.data } (by simp) (by decide)
            have h16x : L.getD 16 false = true := hall { on := 16, ground := Ground.data } (by simp) (by decide)
            have H13 := Lib.hid h13x
            have H16 := Lib.hid h16x
            clear hall hi h13x h16x
            have e0 := HV.out.k13 H13.out
            subst e0
            have e1 := HV.out.k16 H16.out
            subst e1
            refine wpOp_step rfl (fun K' hK' => ?_)
            have HK := Lib.hid hK'
            clear hK'
            go_simp
            exact HK.out _ _ ⟨by simp [HJ.out.sz], ⟨_, _, _, _, _, _, _, _, _, _, _, _, _, _, _, _, _, _, _, _, _, _, _, _, _, _, _, _, _, _, _, _, _, _, _, _, _, _, _, rfl, fun h0 => HV.out.k0 (getD_dn (by decide) h0), fun h0 => HV.out.k1 (getD_dn (by decide) h0), fun h0 => HV.out.k2 (getD_dn (by decide) h0), fun h0 => HV.out.k3 (getD_dn (by decide) h0), fun h0 => HV.out.k4 (getD_dn (by decide) h0), fun h0 => HV.out.k5 (getD_dn (by decide) h0), fun h0 => HV.out.k6 (getD_dn (by decide) h0), fun h0 => HV.out.k7 (getD_dn (by decide) h0), fun h0 => HV.out.k8 (getD_dn (by decide) h0), fun h0 => HV.out.k9 (getD_dn (by decide) h0), fun h0 => HV.out.k10 (getD_dn (by decide) h0), fun h0 => HV.out.k11 (getD_dn (by decide) h0), fun h0 => HV.out.k12 (getD_dn (by decide) h0), fun h0 => HV.out.k13 (getD_dn (by decide) h0), fun h0 => HV.out.k14 (getD_dn (by decide) h0), fun h0 => HV.out.k15 (getD_dn (by decide) h0), fun h0 => HV.out.k16 (getD_dn (by decide) h0), fun _ => rfl, fun h0 => HV.out.k18 (getD_dn (by decide) h0), fun h0 => HV.out.k19 (getD_dn (by decide) h0), fun h0 => HV.out.k20 (getD_dn (by decide) h0), fun h0 => HV.out.k21 (getD_dn (by decide) h0), fun h0 => HV.out.k22 (getD_dn (by decide) h0), fun h0 => HV.out.k23 (getD_dn (by decide) h0), fun h0 => HV.out.k24 (getD_dn (by decide) h0), fun h0 => HV.out.k25 (getD_dn (by decide) h0), fun h0 => HV.out.k26 (getD_dn (by decide) h0), fun h0 => HV.out.k27 (getD_dn (by decide) h0), fun h0 => HV.out.k28 (getD_dn (by decide) h0), fun h0 => HV.out.k29 (getD_dn (by decide) h0), fun h0 => HV.out.k30 (getD_dn (by decide) h0), fun h0 => HV.out.k31 (getD_dn (by decide) h0), fun h0 => HV.out.k32 (getD_dn (by decide) h0), fun h0 => HV.out.k33 (getD_dn (by decide) h0), fun h0 => HV.out.k34 (getD_dn (by decide) h0), fun h0 => HV.out.k36 (getD_dn (by decide) h0), fun h0 => HV.out.k37 (getD_dn (by decide) h0), fun h0 => HV.out.k38 (getD_dn (by decide) h0), fun h0 => HV.out.r35 (getD_dn (by decide) h0), HV.out.g, HV.out.d, HV.out.c⟩⟩
          · simp at ho
            subst ho
            have h17x : L.getD 17 false = true := hall { on := 17, ground := Ground.data } (by simp) (by decide)
            have H17 := Lib.hid h17x
            clear hall hi h17x
            have e0 := HV.out.k17 H17.out
            subst e0
            refine wpOp_step rfl (fun K' hK' => ?_)
            have HK := Lib.hid hK'
            clear hK'
            go_simp
            exact HK.out _ _ ⟨by simp [HJ.out.sz], ⟨_, _, _, _, _, _, _, _, _, _, _, _, _, _, _, _, _, _, _, _, _, _, _, _, _, _, _, _, _, _, _, _, _, _, _, _, _, _, _, rfl, fun h0 => HV.out.k0 (getD_dn (by decide) h0), fun h0 => HV.out.k1 (getD_dn (by decide) h0), fun h0 => HV.out.k2 (getD_dn (by decide) h0), fun h0 => HV.out.k3 (getD_dn (by decide) h0), fun h0 => HV.out.k4 (getD_dn (by decide) h0), fun h0 => HV.out.k5 (getD_dn (by decide) h0), fun h0 => HV.out.k6 (getD_dn (by decide) h0), fun h0 => HV.out.k7 (getD_dn (by decide) h0), fun h0 => HV.out.k8 (getD_dn (by decide) h0), fun h0 => HV.out.k9 (getD_dn (by decide) h0), fun h0 => HV.out.k10 (getD_dn (by decide) h0), fun h0 => HV.out.k11 (getD_dn (by decide) h0), fun h0 => HV.out.k12 (getD_dn (by decide) h0), fun h0 => HV.out.k13 (getD_dn (by decide) h0), fun h0 => HV.out.k14 (getD_dn (by decide) h0), fun h0 => HV.out.k15 (getD_dn (by decide) h0), fun h0 => HV.out.k16 (getD_dn (by decide) h0), fun h0 => HV.out.k17 (getD_dn (by decide) h0), fun _ => rfl, fun h0 => HV.out.k19 (getD_dn (by decide) h0), fun h0 => HV.out.k20 (getD_dn (by decide) h0), fun h0 => HV.out.k21 (getD_dn (by decide) h0), fun h0 => HV.out.k22 (getD_dn (by decide) h0), fun h0 => HV.out.k23 (getD_dn (by decide) h0), fun h0 => HV.out.k24 (getD_dn (by decide) h0), fun h0 => HV.out.k25 (getD_dn (by decide) h0), fun h0 => HV.out.k26 (getD_dn (by decide) h0), fun h0 => HV.out.k27 (getD_dn (by decide) h0), fun h0 => HV.out.k28 (getD_dn (by decide) h0), fun h0 => HV.out.k29 (getD_dn (by decide) h0), fun h0 => HV.out.k30 (getD_dn (by decide) h0), fun h0 => HV.out.k31 (getD_dn (by decide) h0), fun h0 => HV.out.k32 (getD_dn (by decide) h0), fun h0 => HV.out.k33 (getD_dn (by decide) h0), fun h0 => HV.out.k34 (getD_dn (by decide) h0), fun h0 => HV.out.k36 (getD_dn (by decide) h0), fun h0 => HV.out.k37 (getD_dn (by decide) h0), fun h0 => HV.out.k38 (getD_dn (by decide) h0), fun h0 => HV.out.r35 (getD_dn (by decide) h0), HV.out.g, HV.out.d, HV.out.c⟩⟩
          · simp at ho
            subst ho
            have h18x : L.getD 18 false = true := hall { on := 18, ground := Ground.guard } (by simp) (by decide)
            have H18 := Lib.hid h18x
            clear hall hi h18x
            have e0 := HV.out.k18 H18.out
            subst e0
            refine wpOp_step rfl (fun K' hK' => ?_)
            have HK := Lib.hid hK'
            clear hK'
            go_simp
            exact HK.out _ _ ⟨by simp [HJ.out.sz], ⟨_, _, _, _, _, _, _, _, _, _, _, _, _, _, _, _, _, _, _, _, _, _, _, _, _, _, _, _, _, _, _, _, _, _, _, _, _, _, _, rfl, fun h0 => HV.out.k0 (getD_dn (by decide) h0), fun h0 => HV.out.k1 (getD_dn (by decide) h0), fun h0 => HV.out.k2 (getD_dn (by decide) h0), fun h0 => HV.out.k3 (getD_dn (by decide) h0), fun h0 => HV.out.k4 (getD_dn (by decide) h0), fun h0 => HV.out.k5 (getD_dn (by decide) h0), fun h0 => HV.out.k6 (getD_dn (by decide) h0), fun h0 => HV.out.k7 (getD_dn (by decide) h0), fun h0 => HV.out.k8 (getD_dn (by decide) h0), fun h0 => HV.out.k9 (getD_dn (by decide) h0), fun h0 => HV.out.k10 (getD_dn (by decide) h0), fun h0 => HV.out.k11 (getD_dn (by decide) h0), fun h0 => HV.out.k12 (getD_dn (by decide) h0), fun h0 => HV.out.k13 (getD_dn (by decide) h0), fun h0 => HV.out.k14 (getD_dn (by decide) h0), fun h0 => HV.out.k15 (getD_dn (by decide) h0), fun h0 => HV.out.k16 (getD_dn (by decide) h0), fun h0 => HV.out.k17 (getD_dn (by decide) h0), fun h0 => HV.out.k18 (getD_dn (by decide) h0), fun _ => rfl, fun h0 => HV.out.k20 (getD_dn (by decide) h0), fun h0 => HV.out.k21 (getD_dn (by decide) h0), fun h0 => HV.out.k22 (getD_dn (by decide) h0), fun h0 => HV.out.k23 (getD_dn (by decide) h0), fun h0 => HV.out.k24 (getD_dn (by decide) h0), fun h0 => HV.out.k25 (getD_dn (by decide) h0), fun h0 => HV.out.k26 (getD_dn (by decide) h0), fun h0 => HV.out.k27 (getD_dn (by decide) h0), fun h0 => HV.out.k28 (getD_dn (by decide) h0), fun h0 => HV.out.k29 (getD_dn (by decide) h0), fun h0 => HV.out.k30 (getD_dn (by decide) h0), fun h0 => HV.out.k31 (getD_dn (by decide) h0), fun h0 => HV.out.k32 (getD_dn (by decide) h0), fun h0 => HV.out.k33 (getD_dn (by decide) h0), fun h0 => HV.out.k34 (getD_dn (by decide) h0), fun h0 => HV.out.k36 (getD_dn (by decide) h0), fun h0 => HV.out.k37 (getD_dn (by decide) h0), fun h0 => HV.out.k38 (getD_dn (by decide) h0), fun h0 => HV.out.r35 (getD_dn (by decide) h0), HV.out.g, HV.out.d, HV.out.c⟩⟩
          · simp at ho
            subst ho
            have h18x : L.getD 18 false = true := hall { on := 18, ground := Ground.guard } (by simp) (by decide)
            have H18 := Lib.hid h18x
            clear hall hi h18x
            have e0 := HV.out.k18 H18.out
            subst e0
            refine wpOp_step rfl (fun K' hK' => ?_)
            have HK := Lib.hid hK'
            clear hK'
            go_simp
            exact HK.out _ _ ⟨by simp [HJ.out.sz], ⟨_, _, _, _, _, _, _, _, _, _, _, _, _, _, _, _, _, _, _, _, _, _, _, _, _, _, _, _, _, _, _, _, _, _, _, _, _, _, _, rfl, fun h0 => HV.out.k0 (getD_dn (by decide) h0), fun h0 => HV.out.k1 (getD_dn (by decide) h0), fun h0 => HV.out.k2 (getD_dn (by decide) h0), fun h0 => HV.out.k3 (getD_dn (by decide) h0), fun h0 => HV.out.k4 (getD_dn (by decide) h0), fun h0 => HV.out.k5 (getD_dn (by decide) h0), fun h0 => HV.out.k6 (getD_dn (by decide) h0), fun h0 => HV.out.k7 (getD_dn (by decide) h0), fun h0 => HV.out.k8 (getD_dn (by decide) h0), fun h0 => HV.out.k9 (getD_dn (by decide) h0), fun h0 => HV.out.k10 (getD_dn (by decide) h0), fun h0 => HV.out.k11 (getD_dn (by decide) h0), fun h0 => HV.out.k12 (getD_dn (by decide) h0), fun h0 => HV.out.k13 (getD_dn (by decide) h0), fun h0 => HV.out.k14 (getD_dn (by decide) h0), fun h0 => HV.out.k15 (getD_dn (by decide) h0), fun h0 => HV.out.k16 (getD_dn (by decide) h0), fun h0 => HV.out.k17 (getD_dn (by decide) h0), fun h0 => HV.out.k18 (getD_dn (by decide) h0), fun h0 => HV.out.k19 (getD_dn (by decide) h0), fun _ => rfl, fun h0 => HV.out.k21 (getD_dn (by decide) h0), fun h0 => HV.out.k22 (getD_dn (by decide) h0), fun h0 => HV.out.k23 (getD_dn (by decide) h0), fun h0 => HV.out.k24 (getD_dn (by decide) h0), fun h0 => HV.out.k25 (getD_dn (by decide) h0), fun h0 => HV.out.k26 (getD_dn (by decide) h0), fun h0 => HV.out.k27 (getD_dn (by decide) h0), fun h0 => HV.out.k28 (getD_dn (by decide) h0), fun h0 => HV.out.k29 (getD_dn (by decide) h0), fun h0 => HV.out.k30 (getD_dn (by decide) h0), fun h0 => HV.out.k31 (getD_dn (by decide) h0), fun h0 => HV.out.k32 (getD_dn (by decide) h0), fun h0 => HV.out.k33 (getD_dn (by decide) h0), fun h0 => HV.out.k34 (getD_dn (by decide) h0), fun h0 => HV.out.k36 (getD_dn (by decide) h0), fun h0 => HV.out.k37 (getD_dn (by decide) h0), fun h0 => HV.out.k38 (getD_dn (by decide) h0), fun h0 => HV.out.r35 (getD_dn (by decide) h0), HV.out.g, HV.out.d, HV.out.c⟩⟩
          · simp at ho
            subst ho
            have h20x : L.getD 20 false = true := hall { on := 20, ground := Ground.data } (by simp) (by decide)
            have h18x : L.getD 18 false = true := hall { on := 18, ground := Ground.guard } (by simp) (by decide)
            have H20 := Lib.hid h20x
            have H18 := Lib.hid h18x
            clear hall hi h20x h18x
            have e0 := HV.out.k20 H20.out
            subst e0
            have e1 := HV.out.k18 H18.out
            subst e1
            obtain ⟨m0, m1, m2⟩ := HV.out.c
            refine wpOp_step rfl (fun K' hK' => ?_)
            have HK := Lib.hid hK'
            clear hK'
            go_simp
            exact HK.out _ _ ⟨by simp [HJ.out.sz], ⟨_, _, _, _, _, _, _, _, _, _, _, _, _, _, _, _, _, _, _, _, _, _, _, _, _, _, _, _, _, _, _, _, _, _, _, _, _, _, _, rfl, fun h0 => HV.out.k0 (getD_dn (by decide) h0), fun h0 => HV.out.k1 (getD_dn (by decide) h0), fun h0 => HV.out.k2 (getD_dn (by decide) h0), fun h0 => HV.out.k3 (getD_dn (by decide) h0), fun h0 => HV.out.k4 (getD_dn (by decide) h0), fun h0 => HV.out.k5 (getD_dn (by decide) h0), fun h0 => HV.out.k6 (getD_dn (by decide) h0), fun h0 => HV.out.k7 (getD_dn (by decide) h0), fun h0 => HV.out.k8 (getD_dn (by decide) h0), fun h0 => HV.out.k9 (getD_dn (by decide) h0), fun h0 => HV.out.k10 (getD_dn (by decide) h0), fun h0 => HV.out.k11 (getD_dn (by decide) h0), fun h0 => HV.out.k12 (getD_dn (by decide) h0), fun h0 => HV.out.k13 (getD_dn (by decide) h0), fun h0 => HV.out.k14 (getD_dn (by decide) h0), fun h0 => HV.out.k15 (getD_dn (by decide) h0), fun h0 => HV.out.k16 (getD_dn (by decide) h0), fun h0 => HV.out.k17 (getD_dn (by decide) h0), fun h0 => HV.out.k18 (getD_dn (by decide) h0), fun h0 => HV.out.k19 (getD_dn (by decide) h0), fun h0 => HV.out.k20 (getD_dn (by decide) h0), fun _ => rfl, fun h0 => HV.out.k22 (getD_dn (by decide) h0), fun h0 => HV.out.k23 (getD_dn (by decide) h0), fun h0 => HV.out.k24 (getD_dn (by decide) h0), fun h0 => HV.out.k25 (getD_dn (by decide) h0), fun h0 => HV.out.k26 (getD_dn (by decide) h0), fun h0 => HV.out.k27 (getD_dn (by decide) h0), fun h0 => HV.out.k28 (getD_dn (by decide) h0), fun h0 => HV.out.k29 (getD_dn (by decide) h0), fun h0 => HV.out.k30 (getD_dn (by decide) h0), fun h0 => HV.out.k31 (getD_dn (by decide) h0), fun h0 => HV.out.k32 (getD_dn (by decide) h0), fun h0 => HV.out.k33 (getD_dn (by decide) h0), fun h0 => HV.out.k34 (getD_dn (by decide) h0), fun h0 => HV.out.k36 (getD_dn (by decide) h0), fun h0 => HV.out.k37 (getD_dn (by decide) h0), fun h0 => HV.out.k38 (getD_dn (by decide) h0), fun h0 => HV.out.r35 (getD_dn (by decide) h0), HV.out.g, HV.out.d, HV.out.c⟩⟩
          · simp at ho
            subst ho
            have h19x : L.getD 19 false = true := hall { on := 19, ground := Ground.data } (by simp) (by decide)
            have h21x : L.getD 21 false = true := hall { on := 21, ground := Ground.data } (by simp) (by decide)
            have h18x : L.getD 18 false = true := hall { on := 18, ground := Ground.guard } (by simp) (by decide)
            have H19 := Lib.hid h19x
            have H21 := Lib.hid h21x
            have H18 := Lib.hid h18x
            clear hall hi h19x h21x h18x
            have e0 := HV.out.k19 H19.out
            subst e0
            have e1 := HV.out.k21 H21.out
            subst e1
            have e2 := HV.out.k18 H18.out
            subst e2
            refine wpOp_step rfl (fun K' hK' => ?_)
            have HK := Lib.hid hK'
            clear hK'
            go_simp
            exact HK.out _ _ ⟨by simp [HJ.out.sz], ⟨_, _, _, _, _, _, _, _, _, _, _, _, _, _, _, _, _, _, _, _, _, _, _, _, _, _, _, _, _, _, _, _, _, _, _, _, _, _, _, rfl, fun h0 => HV.out.k0 (getD_dn (by decide) h0), fun h0 => HV.out.k1 (getD_dn (by decide) h0), fun h0 => HV.out.k2 (getD_dn (by decide) h0), fun h0 => HV.out.k3 (getD_dn (by decide) h0), fun h0 => HV.out.k4 (getD_dn (by decide) h0), fun h0 => HV.out.k5 (getD_dn (by decide) h0), fun h0 => HV.out.k6 (getD_dn (by decide) h0), fun h0 => HV.out.k7 (getD_dn (by decide) h0), fun h0 => HV.out.k8 (getD_dn (by decide) h0), fun h0 => HV.out.k9 (getD_dn (by decide) h0), fun h0 => HV.out.k10 (getD_dn (by decide) h0), fun h0 => HV.out.k11 (getD_dn (by decide) h0), fun h0 => HV.out.k12 (getD_dn (by decide) h0), fun h0 => HV.out.k13 (getD_dn (by decide) h0), fun h0 => HV.out.k14 (getD_dn (by decide) h0), fun h0 => HV.out.k15 (getD_dn (by decide) h0), fun h0 => HV.out.k16 (getD_dn (by decide) h0), fun h0 => HV.out.k17 (getD_dn (by decide) h0), fun h0 => HV.out.k18 (getD_dn (by decide) h0), fun h0 => HV.out.k19 (getD_dn (by decide) h0), fun h0 => HV.out.k20 (getD_dn (by decide) h0), fun h0 => HV.out.k21 (getD_dn (by decide) h0), fun _ => rfl, fun h0 => HV.out.k23 (getD_dn (by decide) h0), fun h0 => HV.out.k24 (getD_dn (by decide) h0), fun h0 => HV.out.k25 (getD_dn (by decide) h0), fun h0 => HV.out.k26 (getD_dn (by decide) h0), fun h0 => HV.out.k27 (getD_dn (by decide) h0), fun h0 => HV.out.k28 (getD_dn (by decide) h0), fun h0 => HV.out.k29 (getD_dn (by decide) h0), fun h0 => HV.out.k30 (getD_dn (by decide) h0), fun h0 => HV.out.k31 (getD_dn (by decide) h0), fun h0 => HV.out.k32 (getD_dn (by decide) h0), fun h0 => HV.out.k33 (getD_dn (by decide) h0), fun h0 => HV.out.k34 (getD_dn (by decide) h0), fun h0 => HV.out.k36 (getD_dn (by decide) h0), fun h0 => HV.out.k37 (getD_dn (by decide) h0), fun h0 => HV.out.k38 (getD_dn (by decide) h0), fun h0 => HV.out.r35 (getD_dn (by decide) h0), HV.out.g, HV.out.d, HV.out.c⟩⟩
          · simp at ho
            subst ho
            have h18x : L.getD 18 false = true := hall { on := 18, ground := Ground.data } (by simp) (by decide)
            have h22x : L.getD 22 false = true := hall { on := 22, ground := Ground.data } (by simp) (by decide)
            have H18 := Lib.hid h18x
            have H22 := Lib.hid h22x
            clear hall hi h18x h22x
            have e0 := HV.out.k18 H18.out
            subst e0
            have e1 := HV.out.k22 H22.out
            subst e1
            refine wpOp_step rfl (fun K' hK' => ?_)
            have HK := Lib.hid hK'
            clear hK'
            go_simp
            exact HK.out _ _ ⟨by simp [HJ.out.sz], ⟨_, _, _, _, _, _, _, _, _, _, _, _, _, _, _, _, _, _, _, _, _, _, _, _, _, _, _, _, _, _, _, _, _, _, _, _, _, _, _, rfl, fun h0 => HV.out.k0 (getD_dn (by decide) h0), fun h0 => HV.out.k1 (getD_dn (by decide) h0), fun h0 => HV.out.k2 (getD_dn (by decide) h0), fun h0 => HV.out.k3 (getD_dn (by decide) h0), fun h0 => HV.out.k4 (getD_dn (by decide) h0), fun h0 => HV.out.k5 (getD_dn (by decide) h0), fun h0 => HV.out.k6 (getD_dn (by decide) h0), fun h0 => HV.out.k7 (getD_dn (by decide) h0), fun h0 => HV.out.k8 (getD_dn (by decide) h0), fun h0 => HV.out.k9 (getD_dn (by decide) h0), fun h0 => HV.out.k10 (getD_dn (by decide) h0), fun h0 => HV.out.k11 (getD_dn (by decide) h0), fun h0 => HV.out.k12 (getD_dn (by decide) h0), fun h0 => HV.out.k13 (getD_dn (by decide) h0), fun h0 => HV.out.k14 (getD_dn (by decide) h0), fun h0 => HV.out.k15 (getD_dn (by decide) h0), fun h0 => HV.out.k16 (getD_dn (by decide) h0), fun h0 => HV.out.k17 (getD_dn (by decide) h0), fun h0 => HV.out.k18 (getD_dn (by decide) h0), fun h0 => HV.out.k19 (getD_dn (by decide) h0), fun h0 => HV.out.k20 (getD_dn (by decide) h0), fun h0 => HV.out.k21 (getD_dn (by decide) h0), fun h0 => HV.out.k22 (getD_dn (by decide) h0), fun _ => rfl, fun h0 => HV.out.k24 (getD_dn (by decide) h0), fun h0 => HV.out.k25 (getD_dn (by decide) h0), fun h0 => HV.out.k26 (getD_dn (by decide) h0), fun h0 => HV.out.k27 (getD_dn (by decide) h0), fun h0 => HV.out.k28 (getD_dn (by decide) h0), fun h0 => HV.out.k29 (getD_dn (by decide) h0), fun h0 => HV.out.k30 (getD_dn (by decide) h0), fun h0 => HV.out.k31 (getD_dn (by decide) h0), fun h0 => HV.out.k32 (getD_dn (by decide) h0), fun h0 => HV.out.k33 (getD_dn (by decide) h0), fun h0 => HV.out.k34 (getD_dn (by decide) h0), fun h0 => HV.out.k36 (getD_dn (by decide) h0), fun h0 => HV.out.k37 (getD_dn (by decide) h0), fun h0 => HV.out.k38 (getD_dn (by decide) h0), fun h0 => HV.out.r35 (getD_dn (by decide) h0), HV.out.g, HV.out.d, HV.out.c⟩⟩
          · simp at ho
            subst ho
            have h23x : L.getD 23 false = true := hall { on := 23, ground := Ground.data } (by simp) (by decide)
            have H23 := Lib.hid h23x
            clear hall hi h23x
            have e0 := HV.out.k23 H23.out
            subst e0
            refine wpOp_step rfl (fun K' hK' => ?_)
            have HK := Lib.hid hK'
            clear hK'
            go_simp
            exact HK.out _ _ ⟨by simp [HJ.out.sz], ⟨_, _, _, _, _, _, _, _, _, _, _, _, _, _, _, _, _, _, _, _, _, _, _, _, _, _, _, _, _, _, _, _, _, _, _, _, _, _, _, rfl, fun h0 => HV.out.k0 (getD_dn (by decide) h0), fun h0 => HV.out.k1 (getD_dn (by decide) h0), fun h0 => HV.out.k2 (getD_dn (by decide) h0), fun h0 => HV.out.k3 (getD_dn (by decide) h0), fun h0 => HV.out.k4 (getD_dn (by decide) h0), fun h0 => HV.out.k5 (getD_dn (by decide) h0), fun h0 => HV.out.k6 (getD_dn (by decide) h0), fun h0 => HV.out.k7 (getD_dn (by decide) h0), fun h0 => HV.out.k8 (getD_dn (by decide) h0), fun h0 => HV.out.k9 (getD_dn (by decide) h0), fun h0 => HV.out.k10 (getD_dn (by decide) h0), fun h0 => HV.out.k11 (getD_dn (by decide) h0), fun h0 => HV.out.k12 (getD_dn (by decide) h0), fun h0 => HV.out.k13 (getD_dn (by decide) h0), fun h0 => HV.out.k14 (getD_dn (by decide) h0), fun h0 => HV.out.k15 (getD_dn (by decide) h0), fun h0 => HV.out.k16 (getD_dn (by decide) h0), fun h0 => HV.out.k17 (getD_dn (by decide) h0), fun h0 => HV.out.k18 (getD_dn (by decide) h0), fun h0 => HV.out.k19 (getD_dn (by decide) h0), fun h0 => HV.out.k20 (getD_dn (by decide) h0), fun h0 => HV.out.k21 (getD_dn (by decide) h0), fun h0 => HV.out.k22 (getD_dn (by decide) h0), fun h0 => HV.out.k23 (getD_dn (by decide) h0), fun _ => rfl, fun h0 => HV.out.k25 (getD_dn (by decide) h0), fun h0 => HV.out.k26 (getD_dn (by decide) h0), fun h0 => HV.out.k27 (getD_dn (by decide) h0), fun h0 => HV.out.k28 (getD_dn (by decide) h0), fun h0 => HV.out.k29 (getD_dn (by decide) h0), fun h0 => HV.out.k30 (getD_dn (by decide) h0), fun h0 => HV.out.k31 (getD_dn (by decide) h0), fun h0 => HV.out.k32 (getD_dn (by decide) h0), fun h0 => HV.out.k33 (getD_dn (by decide) h0), fun h0 => HV.out.k34 (getD_dn (by decide) h0), fun h0 => HV.out.k36 (getD_dn (by decide) h0), fun h0 => HV.out.k37 (getD_dn (by decide) h0), fun h0 => HV.out.k38 (getD_dn (by decide) h0), fun h0 => HV.out.r35 (getD_dn (by decide) h0), HV.out.g, HV.out.d, HV.out.c⟩⟩
          · simp at ho
            subst ho
            have h24x : L.getD 24 false = true := hall { on := 24, ground := Ground.guard } (by simp) (by decide)
            have H24 := Lib.hid h24x
            clear hall hi h24x
            have e0 := HV.out.k24 H24.out
            subst e0
            refine wpOp_step rfl (fun K' hK' => ?_)
            have HK := Lib.hid hK'
            clear hK'
            go_simp
            exact HK.out _ _ ⟨by simp [HJ.out.sz], ⟨_, _, _, _, _, _, _, _, _, _, _, _, _, _, _, _, _, _, _, _, _, _, _, _, _, _, _, _, _, _, _, _, _, _, _, _, _, _, _, rfl, fun h0 => HV.out.k0 (getD_dn (by decide) h0), fun h0 => HV.out.k1 (getD_dn (by decide) h0), fun h0 => HV.out.k2 (getD_dn (by decide) h0), fun h0 => HV.out.k3 (getD_dn (by decide) h0), fun h0 => HV.out.k4 (getD_dn (by decide) h0), fun h0 => HV.out.k5 (getD_dn (by decide) h0), fun h0 => HV.out.k6 (getD_dn (by decide) h0), fun h0 => HV.out.k7 (getD_dn (by decide) h0), fun h0 => HV.out.k8 (getD_dn (by decide) h0), fun h0 => HV.out.k9 (getD_dn (by decide) h0), fun h0 => HV.out.k10 (getD_dn (by decide) h0), fun h0 => HV.out.k11 (getD_dn (by decide) h0), fun h0 => HV.out.k12 (getD_dn (by decide) h0), fun h0 => HV.out.k13 (getD_dn (by decide) h0), fun h0 => HV.out.k14 (getD_dn (by decide) h0), fun h0 => HV.out.k15 (getD_dn (by decide) h0), fun h0 => HV.out.k16 (getD_dn (by decide) h0), fun h0 => HV.out.k17 (getD_dn (by decide) h0), fun h0 => HV.out.k18 (getD_dn (by decide) h0), fun h0 => HV.out.k19 (getD_dn (by decide) h0), fun h0 => HV.out.k20 (getD_dn (by decide) h0), fun h0 => HV.out.k21 (getD_dn (by decide) h0), fun h0 => HV.out.k22 (getD_dn (by decide) h0), fun h0 => HV.out.k23 (getD_dn (by decide) h0), fun h0 => HV.out.k24 (getD_dn (by decide) h0), fun _ => rfl, fun h0 => HV.out.k26 (getD_dn (by decide) h0), fun h0 => HV.out.k27 (getD_dn (by decide) h0), fun h0 => HV.out.k28 (getD_dn (by decide) h0), fun h0 => HV.out.k29 (getD_dn (by decide) h0), fun h0 => HV.out.k30 (getD_dn (by decide) h0), fun h0 => HV.out.k31 (getD_dn (by decide) h0), fun h0 => HV.out.k32 (getD_dn (by decide) h0), fun h0 => HV.out.k33 (getD_dn (by decide) h0), fun h0 => HV.out.k34 (getD_dn (by decide) h0), fun h0 => HV.out.k36 (getD_dn (by decide) h0), fun h0 => HV.out.k37 (getD_dn (by decide) h0), fun h0 => HV.out.k38 (getD_dn (by decide) h0), fun h0 => HV.out.r35 (getD_dn (by decide) h0), HV.out.g, HV.out.d, HV.out.c⟩⟩
          · simp at ho
            subst ho
            have h24x : L.getD 24 false = true := hall { on := 24, ground := Ground.guard } (by simp) (by decide)
            have H24 := Lib.hid h24x
            clear hall hi h24x
            have e0 := HV.out.k24 H24.out
            subst e0
            refine wpOp_step rfl (fun K' hK' => ?_)
            have HK := Lib.hid hK'
            clear hK'
            go_simp
            exact HK.out _ _ ⟨by simp [HJ.out.sz], ⟨_, _, _, _, _, _, _, _, _, _, _, _, _, _, _, _, _, _, _, _, _, _, _, _, _, _, _, _, _, _, _, _, _, _, _, _, _, _, _, rfl, fun h0 => HV.out.k0 (getD_dn (by decide) h0), fun h0 => HV.out.k1 (getD_dn (by decide) h0), fun h0 => HV.out.k2 (getD_dn (by decide) h0), fun h0 => HV.out.k3 (getD_dn (by decide) h0), fun h0 => HV.out.k4 (getD_dn (by decide) h0), fun h0 => HV.out.k5 (getD_dn (by decide) h0), fun h0 => HV.out.k6 (getD_dn (by decide) h0), fun h0 => HV.out.k7 (getD_dn (by decide) h0), fun h0 => HV.out.k8 (getD_dn (by decide) h0), fun h0 => HV.out.k9 (getD_dn (by decide) h0), fun h0 => HV.out.k10 (getD_dn (by decide) h0), fun h0 => HV.out.k11 (getD_dn (by decide) h0), fun h0 => HV.out.k12 (getD_dn (by decide) h0), fun h0 => HV.out.k13 (getD_dn (by decide) h0), fun h0 => HV.out.k14 (getD_dn (by decide) h0), fun h0 => HV.out.k15 (getD_dn (by decide) h0), fun h0 => HV.out.k16 (getD_dn (by decide) h0), fun h0 => HV.out.k17 (getD_dn (by decide) h0), fun h0 => HV.out.k18 (getD_dn (by decide) h0), fun h0 => HV.out.k19 (getD_dn (by decide) h0), fun h0 => HV.out.k20 (getD_dn (by decide) h0), fun h0 => HV.out.k21 (getD_dn (by decide) h0), fun h0 => HV.out.k22 (getD_dn (by decide) h0), fun h0 => HV.out.k23 (getD_dn (by decide) h0), fun h0 => HV.out.k24 (getD_dn (by decide) h0), fun h0 => HV.out.k25 (getD_dn (by decide) h0), fun _ => rfl, fun h0 => HV.out.k27 (getD_dn (by decide) h0), fun h0 => HV.out.k28 (getD_dn (by decide) h0), fun h0 => HV.out.k29 (getD_dn (by decide) h0), fun h0 => HV.out.k30 (getD_dn (by decide) h0), fun h0 => HV.out.k31 (getD_dn (by decide) h0), fun h0 => HV.out.k32 (getD_dn (by decide) h0), fun h0 => HV.out.k33 (getD_dn (by decide) h0), fun h0 => HV.out.k34 (getD_dn (by decide) h0), fun h0 => HV.out.k36 (getD_dn (by decide) h0), fun h0 => HV.out.k37 (getD_dn (by decide) h0), fun h0 => HV.out.k38 (getD_dn (by decide) h0), fun h0 => HV.out.r35 (getD_dn (by decide) h0), HV.out.g, HV.out.d, HV.out.c⟩⟩
          · simp at ho
            subst ho
            have h26x : L.getD 26 false = true := hall { on := 26, ground := Ground.data } (by simp) (by decide)
            have h24x : L.getD 24 false = true := hall { on := 24, ground := Ground.guard } (by simp) (by decide)
            have H26 := Lib.hid h26x
            have H24 := Lib.hid h24x
            clear hall hi h26x h24x
            have e0 := HV.out.k26 H26.out
            subst e0
            have e1 := HV.out.k24 H24.out
            subst e1
            obtain ⟨m0, m1, m2⟩ := HV.out.c
            refine wpOp_step rfl (fun K' hK' => ?_)
            have HK := Lib.hid hK'
            clear hK'
            go_simp
            exact HK.out _ _ ⟨by simp [HJ.out.sz], ⟨_, _, _, _, _, _, _, _, _, _, _, _, _, _, _, _, _, _, _, _, _, _, _, _, _, _, _, _, _, _, _, _, _, _, _, _, _, _, _, rfl, fun h0 => HV.out.k0 (getD_dn (by decide) h0), fun h0 => HV.out.k1 (getD_dn (by decide) h0), fun h0 => HV.out.k2 (getD_dn (by decide) h0), fun h0 => HV.out.k3 (getD_dn (by decide) h0), fun h0 => HV.out.k4 (getD_dn (by decide) h0), fun h0 => HV.out.k5 (getD_dn (by decide) h0), fun h0 => HV.out.k6 (getD_dn (by decide) h0), fun h0 => HV.out.k7 (getD_dn (by decide) h0), fun h0 => HV.out.k8 (getD_dn (by decide) h0), fun h0 => HV.out.k9 (getD_dn (by decide) h0), fun h0 => HV.out.k10 (getD_dn (by decide) h0), fun h0 => HV.out.k11 (getD_dn (by decide) h0), fun h0 => HV.out.k12 (getD_dn (by decide) h0), fun h0 => HV.out.k13 (getD_dn (by decide) h0), fun h0 => HV.out.k14 (getD_dn (by decide) h0), fun h0 => HV.out.k15 (getD_dn (by decide) h0), fun h0 => HV.out.k16 (getD_dn (by decide) h0), fun h0 => HV.out.k17 (getD_dn (by decide) h0), fun h0 => HV.out.k18 (getD_dn (by decide) h0), fun h0 => HV.out.k19 (getD_dn (by decide) h0), fun h0 => HV.out.k20 (getD_dn (by decide) h0), fun h0 => HV.out.k21 (getD_dn (by decide) h0), fun h0 => HV.out.k22 (getD_dn (by decide) h0), fun h0 => HV.out.k23 (getD_dn (by decide) h0), fun h0 => HV.out.k24 (getD_dn (by decide) h0), fun h0 => HV.out.k25 (getD_dn (by decide) h0), fun h0 => HV.out.k26 (getD_dn (by decide) h0), fun _ => rfl, fun h0 => HV.out.k28 (getD_dn (by decide) h0), fun h0 => HV.out.k29 (getD_dn (by decide) h0), fun h0 => HV.out.k30 (getD_dn (by decide) h0), fun h0 => HV.out.k31 (getD_dn (by decide) h0), fun h0 => HV.out.k32 (getD_dn (by decide) h0), fun h0 => HV.out.k33 (getD_dn (by decide) h0), fun h0 => HV.out.k34 (getD_dn (by decide) h0), fun h0 => HV.out.k36 (getD_dn (by decide) h0), fun h0 => HV.out.k37 (getD_dn (by decide) h0), fun h0 => HV.out.k38 (getD_dn (by decide) h0), fun h0 => HV.out.r35 (getD_dn (by decide) h0), HV.out.g, HV.out.d, HV.out.c⟩⟩
          · simp at ho
            subst ho
            have h25x : L.getD 25 false = true := hall { on := 25, ground := Ground.data } (by simp) (by decide)
            have h27x : L.getD 27 false = true := hall { on := 27, ground := Ground.data } (by simp) (by decide)
            have h24x : L.getD 24 false = true := hall { on := 24, ground := Ground.guard } (by simp) (by decide)
            have H25 := Lib.hid h25x
            have H27 := Lib.hid h27x
            have H24 := Lib.hid h24x
            clear hall hi h25x h27x h24x
            have e0 := HV.out.k25 H25.out
            subst e0
            have e1 := HV.out.k27 H27.out
            subst e1
            have e2 := HV.out.k24 H24.out
            subst e2
            refine wpOp_step rfl (fun K' hK' => ?_)
            have HK := Lib.hid hK'
            clear hK'
            go_simp
            exact HK.out _ _ ⟨by simp [HJ.out.sz], ⟨_, _, _, _, _, _, _, _, _, _, _, _, _, _, _, _, _, _, _, _, _, _, _, _, _, _, _, _, _, _, _, _, _, _, _, _, _, _, _, rfl, fun h0 => HV.out.k0 (getD_dn (by decide) h0), fun h0 => HV.out.k1 (getD_dn (by decide) h0), fun h0 => HV.out.k2 (getD_dn (by decide) h0), fun h0 => HV.out.k3 (getD_dn (by decide) h0), fun h0 => HV.out.k4 (getD_dn (by decide) h0), fun h0 => HV.out.k5 (getD_dn (by decide) h0), fun h0 => HV.out.k6 (getD_dn (by decide) h0), fun h0 => HV.out.k7 (getD_dn (by decide) h0), fun h0 => HV.out.k8 (getD_dn (by decide) h0), fun h0 => HV.out.k9 (getD_dn (by decide) h0), fun h0 => HV.out.k10 (getD_dn (by decide) h0), fun h0 => HV.out.k11 (getD_dn (by decide) h0), fun h0 => HV.out.k12 (getD_dn (by decide) h0), fun h0 => HV.out.k13 (getD_dn (by decide) h0), fun h0 => HV.out.k14 (getD_dn (by decide) h0), fun h0 => HV.out.k15 (getD_dn (by decide) h0), fun h0 => HV.out.k16 (getD_dn (by decide) h0), fun h0 => HV.out.k17 (getD_dn (by decide) h0), fun h0 => HV.out.k18 (getD_dn (by decide) h0), fun h0 => HV.out.k19 (getD_dn (by decide) h0), fun h0 => HV.out.k20 (getD_dn (by decide) h0), fun h0 => HV.out.k21 (getD_dn (by decide) h0), fun h0 => HV.out.k22 (getD_dn (by decide) h0), fun h0 => HV.out.k23 (getD_dn (by decide) h0), fun h0 => HV.out.k24 (getD_dn (by decide) h0), fun h0 => HV.out.k25 (getD_dn (by decide) h0), fun h0 => HV.out.k26 (getD_dn (by decide) h0), fun h0 => HV.out.k27 (getD_dn (by decide) h0), fun _ => rfl, fun h0 => HV.out.k29 (getD_dn (by decide) h0), fun h0 => HV.out.k30 (getD_dn (by decide) h0), fun h0 => HV.out.k31 (getD_dn (by decide) h0), fun h0 => HV.out.k32 (getD_dn (by decide) h0), fun h0 => HV.out.k33 (getD_dn (by decide) h0), fun h0 => HV.out.k34 (getD_dn (by decide) h0), fun h0 => HV.out.k36 (getD_dn (by decide) h0), fun h0 => HV.out.k37 (getD_dn (by decide) h0), fun h0 => HV.out.k38 (getD_dn (by decide) h0), fun h0 => HV.out.r35 (getD_dn (by decide) h0), HV.out.g, HV.out.d, HV.out.c⟩⟩
          · simp at ho
            subst ho
            have h24x : L.getD 24 false = true := hall { on := 24, ground := Ground.data } (by simp) (by decide)
            have h28x : L.getD 28 false = true := hall { on := 28, ground := Ground.data } (by simp) (by decide)
            have H24 := Lib.hid h24x
            have H28 := Lib.hid h28x
            clear hall hi h24x h28x
            have e0 := HV.out.k24 H24.out
            subst e0
            have e1 := HV.out.k28 H28.out
            subst e1
            refine wpOp_step rfl (fun K' hK' => ?_)
            have HK := Lib.hid hK'
            clear hK'
            go_simp
            exact HK.out _ _ ⟨by simp [HJ.out.sz], ⟨_, _, _, _, _, _, _, _, _, _, _, _, _, _, _, _, _, _, _, _, _, _, _, _, _, _, _, _, _, _, _, _, _, _, _, _, _, _, _, rfl, fun h0 => HV.out.k0 (getD_dn (by decide) h0), fun h0 => HV.out.k1 (getD_dn (by decide) h0), fun h0 => HV.out.k2 (getD_dn (by decide) h0), fun h0 => HV.out.k3 (getD_dn (by decide) h0), fun h0 => HV.out.k4 (getD_dn (by decide) h0), fun h0 => HV.out.k5 (getD_dn (by decide) h0), fun h0 => HV.out.k6 (getD_dn (by decide) h0), fun h0 => HV.out.k7 (getD_dn (by decide) h0), fun h0 => HV.out.k8 (getD_dn (by decide) h0), fun h0 => HV.out.k9 (getD_dn (by decide) h0), fun h0 => HV.out.k10 (getD_dn (by decide) h0), fun h0 => HV.out.k11 (getD_dn (by decide) h0), fun h0 => HV.out.k12 (getD_dn (by decide) h0), fun h0 => HV.out.k13 (getD_dn (by decide) h0), fun h0 => HV.out.k14 (getD_dn (by decide) h0), fun h0 => HV.out.k15 (getD_dn (by decide) h0), fun h0 => HV.out.k16 (getD_dn (by decide) h0), fun h0 => HV.out.k17 (getD_dn (by decide) h0), fun h0 => HV.out.k18 (getD_dn (by decide) h0), fun h0 => HV.out.k19 (getD_dn (by decide) h0), fun h0 => HV.out.k20 (getD_dn (by decide) h0), fun h0 => HV.out.k21 (getD_dn (by decide) h0), fun h0 => HV.out.k22 (getD_dn (by decide) h0), fun h0 => HV.out.k23 (getD_dn (by decide) h0), fun h0 => HV.out.k24 (getD_dn (by decide) h0), fun h0 => HV.out.k25 (getD_dn (by decide) h0), fun h0 => HV.out.k26 (getD_dn (by decide) h0), fun h0 => HV.out.k27 (getD_dn (by decide) h0), fun h0 => HV.out.k28 (getD_dn (by decide) h0), fun _ => rfl, fun h0 => HV.out.k30 (getD_dn (by decide) h0), fun h0 => HV.out.k31 (getD_dn (by decide) h0), fun h0 => HV.out.k32 (getD_dn (by decide) h0), fun h0 => HV.out.k33 (getD_dn (by decide) h0), fun h0 => HV.out.k34 (getD_dn (by decide) h0), fun h0 => HV.out.k36 (getD_dn (by decide) h0), fun h0 => HV.out.k37 (getD_dn (by decide) h0), fun h0 => HV.out.k38 (getD_dn (by decide) h0), fun h0 => HV.out.r35 (getD_dn (by decide) h0), HV.out.g, HV.out.d, HV.out.c⟩⟩
          · simp at ho
            subst ho
            have h29x : L.getD 29 false = true := hall { on := 29, ground := Ground.data } (by simp) (by decide)
            have H29 := Lib.hid h29x
            clear hall hi h29x
            have e0 := HV.out.k29 H29.out
            subst e0
            refine wpOp_step rfl (fun K' hK' => ?_)
            have HK := Lib.hid hK'
            clear hK'
            go_simp
            exact HK.out _ _ ⟨by simp [HJ.out.sz], ⟨_, _, _, _, _, _, _, _, _, _, _, _, _, _, _, _, _, _, _, _, _, _, _, _, _, _, _, _, _, _, _, _, _, _, _, _, _, _, _, rfl, fun h0 => HV.out.k0 (getD_dn (by decide) h0), fun h0 => HV.out.k1 (getD_dn (by decide) h0), fun h0 => HV.out.k2 (getD_dn (by decide) h0), fun h0 => HV.out.k3 (getD_dn (by decide) h0), fun h0 => HV.out.k4 (getD_dn (by decide) h0), fun h0 => HV.out.k5 (getD_dn (by decide) h0), fun h0 => HV.out.k6 (getD_dn (by decide) h0), fun h0 => HV.out.k7 (getD_dn (by decide) h0), fun h0 => HV.out.k8 (getD_dn (by decide) h0), fun h0 => HV.out.k9 (getD_dn (by decide) h0), fun h0 => HV.out.k10 (getD_dn (by decide) h0), fun h0 => HV.out.k11 (getD_dn (by decide) h0), fun h0 => HV.out.k12 (getD_dn (by decide) h0), fun h0 => HV.out.k13 (getD_dn (by decide) h0), fun h0 => HV.out.k14 (getD_dn (by decide) h0), fun h0 => HV.out.k15 (getD_dn (by decide) h0), fun h0 => HV.out.k16 (getD_dn (by decide) h0), fun h0 => HV.out.k17 (getD_dn (by decide) h0), fun h0 => HV.out.k18 (getD_dn (by decide) h0), fun h0 => HV.out.k19 (getD_dn (by decide) h0), fun h0 => HV.out.k20 (getD_dn (by decide) h0), fun h0 => HV.out.k21 (getD_dn (by decide) h0), fun h0 => HV.out.k22 (getD_dn (by decide) h0), fun h0 => HV.out.k23 (getD_dn (by decide) h0), fun h0 => HV.out.k24 (getD_dn (by decide) h0), fun h0 => HV.out.k25 (getD_dn (by decide) h0), fun h0 => HV.out.k26 (getD_dn (by decide) h0), fun h0 => HV.out.k27 (getD_dn (by decide) h0), fun h0 => HV.out.k28 (getD_dn (by decide) h0), fun h0 => HV.out.k29 (getD_dn (by decide) h0), fun _ => rfl, fun h0 => HV.out.k31 (getD_dn (by decide) h0), fun h0 => HV.out.k32 (getD_dn (by decide) h0), fun h0 => HV.out.k33 (getD_dn (by decide) h0), fun h0 => HV.out.k34 (getD_dn (by decide) h0), fun h0 => HV.out.k36 (getD_dn (by decide) h0), fun h0 => HV.out.k37 (getD_dn (by decide) h0), fun h0 => HV.out.k38 (getD_dn (by decide) h0), fun h0 => HV.out.r35 (getD_dn (by decide) h0), HV.out.g, HV.out.d, HV.out.c⟩⟩
          · simp at ho
            subst ho
            have h30x : L.getD 30 false = true := hall { on := 30, ground := Ground.guard } (by simp) (by decide)
            have H30 := Lib.hid h30x
            clear hall hi h30x
            have e0 := HV.out.k30 H30.out
            subst e0
            refine wpOp_step rfl (fun K' hK' => ?_)
            have HK := Lib.hid hK'
            clear hK'
            go_simp
            exact HK.out _ _ ⟨by simp [HJ.out.sz], ⟨_, _, _, _, _, _, _, _, _, _, _, _, _, _, _, _, _, _, _, _, _, _, _, _, _, _, _, _, _, _, _, _, _, _, _, _, _, _, _, rfl, fun h0 => HV.out.k0 (getD_dn (by decide) h0), fun h0 => HV.out.k1 (getD_dn (by decide) h0), fun h0 => HV.out.k2 (getD_dn (by decide) h0), fun h0 => HV.out.k3 (getD_dn (by decide) h0), fun h0 => HV.out.k4 (getD_dn (by decide) h0), fun h0 => HV.out.k5 (getD_dn (by decide) h0), fun h0 => HV.out.k6 (getD_dn (by decide) h0), fun h0 => HV.out.k7 (getD_dn (by decide) h0), fun h0 => HV.out.k8 (getD_dn (by decide) h0), fun h0 => HV.out.k9 (getD_dn (by decide) h0), fun h0 => HV.out.k10 (getD_dn (by decide) h0), fun h0 => HV.out.k11 (getD_dn (by decide) h0), fun h0 => HV.out.k12 (getD_dn (by decide) h0), fun h0 => HV.out.k13 (getD_dn (by decide) h0), fun h0 => HV.out.k14 (getD_dn (by decide) h0), fun h0 => HV.out.k15 (getD_dn (by decide) h0), fun h0 => HV.out.k16 (getD_dn (by decide) h0), fun h0 => HV.out.k17 (getD_dn (by decide) h0), fun h0 => HV.out.k18 (getD_dn (by decide) h0), fun h0 => HV.out.k19 (getD_dn (by decide) h0), fun h0 => HV.out.k20 (getD_dn (by decide) h0), fun h0 => HV.out.k21 (getD_dn (by decide) h0), fun h0 => HV.out.k22 (getD_dn (by decide) h0), fun h0 => HV.out.k23 (getD_dn (by decide) h0), fun h0 => HV.out.k24 (getD_dn (by decide) h0), fun h0 => HV.out.k25 (getD_dn (by decide) h0), fun h0 => HV.out.k26 (getD_dn (by decide) h0), fun h0 => HV.out.k27 (getD_dn (by decide) h0), fun h0 => HV.out.k28 (getD_dn (by decide) h0), fun h0 => HV.out.k29 (getD_dn (by decide) h0), fun h0 => HV.out.k30 (getD_dn (by decide) h0), fun _ => rfl, fun h0 => HV.out.k32 (getD_dn (by decide) h0), fun h0 => HV.out.k33 (getD_dn (by decide) h0), fun h0 => HV.out.k34 (getD_dn (by decide) h0), fun h0 => HV.out.k36 (getD_dn (by decide) h0), fun h0 => HV.out.k37 (getD_dn (by decide) h0), fun h0 => HV.out.k38 (getD_dn (by decide) h0), fun h0 => HV.out.r35 (getD_dn (by decide) h0), HV.out.g, HV.out.d, HV.out.c⟩⟩
          · simp at ho
            subst ho
            have h30x : L.getD 30 false = true := hall { on := 30, ground := Ground.guard } (by simp) (by decide)
            have H30 := Lib.hid h30x
            clear hall hi h30x
            have e0 := HV.out.k30 H30.out
            subst e0
            refine wpOp_step rfl (fun K' hK' => ?_)
            have HK := Lib.hid hK'
            clear hK'
            go_simp
            exact HK.out _ _ ⟨by simp [HJ.out.sz], ⟨_, _, _, _, _, _, _, _, _, _, _, _, _, _, _, _, _, _, _, _, _, _, _, _, _, _, _, _, _, _, _, _, _, _, _, _, _, _, _, rfl, fun h0 => HV.out.k0 (getD_dn (by decide) h0), fun h0 => HV.out.k1 (getD_dn (by decide) h0), fun h0 => HV.out.k2 (getD_dn (by decide) h0), fun h0 => HV.out.k3 (getD_dn (by decide) h0), fun h0 => HV.out.k4 (getD_dn (by decide) h0), fun h0 => HV.out.k5 (getD_dn (by decide) h0), fun h0 => HV.out.k6 (getD_dn (by decide) h0), fun h0 => HV.out.k7 (getD_dn (by decide) h0), fun h0 => HV.out.k8 (getD_dn (by decide) h0), fun h0 => HV.out.k9 (getD_dn (by decide) h0), fun h0 => HV.out.k10 (getD_dn (by decide) h0), fun h0 => HV.out.k11 (getD_dn (by decide) h0), fun h0 => HV.out.k12 (getD_dn (by decide) h0), fun h0 => HV.out.k13 (getD_dn (by decide) h0), fun h0 => HV.out.k14 (getD_dn (by decide) h0), fun h0 => HV.out.k15 (getD_dn (by decide) h0), fun h0 => HV.out.k16 (getD_dn (by decide) h0), fun h0 => HV.out.k17 (getD_dn (by decide) h0), fun h0 => HV.out.k18 (getD_dn (by decide) h0), fun h0 => HV.out.k19 (getD_dn (by decide) h0), fun h0 => HV.out.k20 (getD_dn (by decide) h0), fun h0 => HV.out.k21 (getD_dn (by decide) h0), fun h0 => HV.out.k22 (getD_dn (by decide) h0), fun h0 => HV.out.k23 (getD_dn (by decide) h0), fun h0 => HV.out.k24 (getD_dn (by decide) h0), fun h0 => HV.out.k25 (getD_dn (by decide) h0), fun h0 => HV.out.k26 (getD_dn (by decide) h0), fun h0 => HV.out.k27 (getD_dn (by decide) h0), fun h0 => HV.out.k28 (getD_dn (by decide) h0), fun h0 => HV.out.k29 (getD_dn (by decide) h0), fun h0 => HV.out.k30 (getD_dn (by decide) h0), fun h0 => HV.out.k31 (getD_dn (by decide) h0), fun _ => rfl, fun h0 => HV.out.k33 (getD_dn (by decide) h0), fun h0 => HV.out.k34 (getD_dn (by decide) h0), fun h0 => HV.out.k36 (getD_dn (by decide) h0), fun h0 => HV.out.k37 (getD_dn (by decide) h0), fun h0 => HV.out.k38 (getD_dn (by decide) h0), fun h0 => HV.out.r35 (getD_dn (by decide) h0), HV.out.g, HV.out.d, HV.out.c⟩⟩
          · simp at ho
            subst ho
            have h30x : L.getD 30 false = true := hall { on := 30, ground := Ground.guard } (by simp) (by decide)
            have H30 := Lib.hid h30x
            clear hall hi h30x
            have e0 := HV.out.k30 H30.out
            subst e0
            refine wpOp_step rfl (fun K' hK' => ?_)
            have HK := Lib.hid hK'
            clear hK'
            go_simp
            exact HK.out _ _ ⟨by simp [HJ.out.sz], ⟨_, _, _, _, _, _, _, _, _, _, _, _, _, _, _, _, _, _, _, _, _, _, _, _, _, _, _, _, _, _, _, _, _, _, _, _, _, _, _, rfl, fun h0 => HV.out.k0 (getD_dn (by decide) h0), fun h0 => HV.out.k1 (getD_dn (by decide) h0), fun h0 => HV.out.k2 (getD_dn (by decide) h0), fun h0 => HV.out.k3 (getD_dn (by decide) h0), fun h0 => HV.out.k4 (getD_dn (by decide) h0), fun h0 => HV.out.k5 (getD_dn (by decide) h0), fun h0 => HV.out.k6 (getD_dn (by decide) h0), fun h0 => HV.out.k7 (getD_dn (by decide) h0), fun h0 => HV.out.k8 (getD_dn (by decide) h0), fun h0 => HV.out.k9 (getD_dn (by decide) h0), fun h0 => HV.out.k10 (getD_dn (by decide) h0), fun h0 => HV.out.k11 (getD_dn (by decide) h0), fun h0 => HV.out.k12 (getD_dn (by decide) h0), fun h0 => HV.out.k13 (getD_dn (by decide) h0), fun h0 => HV.out.k14 (getD_dn (by decide) h0), fun h0 => HV.out.k15 (getD_dn (by decide) h0), fun h0 => HV.out.k16 (getD_dn (by decide) h0), fun h0 => HV.out.k17 (getD_dn (by decide) h0), fun h0 => HV.out.k18 (getD_dn (by decide) h0), fun h0 => HV.out.k19 (getD_dn (by decide) h0), fun h0 => HV.out.k20 (getD_dn (by decide) h0), fun h0 => HV.out.k21 (getD_dn (by decide) h0), fun h0 => HV.out.k22 (getD_dn (by decide) h0), fun h0 => HV.out.k23 (getD_dn (by decide) h0), fun h0 => HV.out.k24 (getD_dn (by decide) h0), fun h0 => HV.out.k25 (getD_dn (by decide) h0), fun h0 => HV.out.k26 (getD_dn (by decide) h0), fun h0 => HV.out.k27 (getD_dn (by decide) h0), fun h0 => HV.out.k28 (getD_dn (by decide) h0), fun h0 => HV.out.k29 (getD_dn (by decide) h0), fun h0 => HV.out.k30 (getD_dn (by decide) h0), fun h0 => HV.out.k31 (getD_dn (by decide) h0), fun h0 => HV.out.k32 (getD_dn (by decide) h0), fun _ => rfl, fun h0 => HV.out.k34 (getD_dn (by decide) h0), fun h0 => HV.out.k36 (getD_dn (by decide) h0), fun h0 => HV.out.k37 (getD_dn (by decide) h0), fun h0 => HV.out.k38 (getD_dn (by decide) h0), fun h0 => HV.out.r35 (getD_dn (by decide) h0), HV.out.g, HV.out.d, HV.out.c⟩⟩
          · simp at ho
            subst ho
            have h33x : L.getD 33 false = true := hall { on := 33, ground := Ground.data } (by simp) (by decide)
            have h30x : L.getD 30 false = true := hall { on := 30, ground := Ground.guard } (by simp) (by decide)
            have H33 := Lib.hid h33x
            have H30 := Lib.hid h30x
            clear hall hi h33x h30x
            have e0 := HV.out.k33 H33.out
            subst e0
            have e1 := HV.out.k30 H30.out
            subst e1
            obtain ⟨m0, m1, m2⟩ := HV.out.c
            refine wpOp_step rfl (fun K' hK' => ?_)
            have HK := Lib.hid hK'
            clear hK'
            go_simp
            exact HK.out _ _ ⟨by simp [HJ.out.sz], ⟨_, _, _, _, _, _, _, _, _, _, _, _, _, _, _, _, _, _, _, _, _, _, _, _, _, _, _, _, _, _, _, _, _, _, _, _, _, _, _, rfl, fun h0 => HV.out.k0 (getD_dn (by decide) h0), fun h0 => HV.out.k1 (getD_dn (by decide) h0), fun h0 => HV.out.k2 (getD_dn (by decide) h0), fun h0 => HV.out.k3 (getD_dn (by decide) h0), fun h0 => HV.out.k4 (getD_dn (by decide) h0), fun h0 => HV.out.k5 (getD_dn (by decide) h0), fun h0 => HV.out.k6 (getD_dn (by decide) h0), fun h0 => HV.out.k7 (getD_dn (by decide) h0), fun h0 => HV.out.k8 (getD_dn (by decide) h0), fun h0 => HV.out.k9 (getD_dn (by decide) h0), fun h0 => HV.out.k10 (getD_dn (by decide) h0), fun h0 => HV.out.k11 (getD_dn (by decide) h0), fun h0 => HV.out.k12 (getD_dn (by decide) h0), fun h0 => HV.out.k13 (getD_dn (by decide) h0), fun h0 => HV.out.k14 (getD_dn (by decide) h0), fun h0 => HV.out.k15 (getD_dn (by decide) h0), fun h0 => HV.out.k16 (getD_dn (by decide) h0), fun h0 => HV.out.k17 (getD_dn (by decide) h0), fun h0 => HV.out.k18 (getD_dn (by decide) h0), fun h0 => HV.out.k19 (getD_dn (by decide) h0), fun h0 => HV.out.k20 (getD_dn (by decide) h0), fun h0 => HV.out.k21 (getD_dn (by decide) h0), fun h0 => HV.out.k22 (getD_dn (by decide) h0), fun h0 => HV.out.k23 (getD_dn (by decide) h0), fun h0 => HV.out.k24 (getD_dn (by decide) h0), fun h0 => HV.out.k25 (getD_dn (by decide) h0), fun h0 => HV.out.k26 (getD_dn (by decide) h0), fun h0 => HV.out.k27 (getD_dn (by decide) h0), fun h0 => HV.out.k28 (getD_dn (by decide) h0), fun h0 => HV.out.k29 (getD_dn (by decide) h0), fun h0 => HV.out.k30 (getD_dn (by decide) h0), fun h0 => HV.out.k31 (getD_dn (by decide) h0), fun h0 => HV.out.k32 (getD_dn (by decide) h0), fun h0 => HV.out.k33 (getD_dn (by decide) h0), fun _ => rfl, fun h0 => HV.out.k36 (getD_dn (by decide) h0), fun h0 => HV.out.k37 (getD_dn (by decide) h0), fun h0 => HV.out.k38 (getD_dn (by decide) h0), fun h0 => HV.out.r35 (getD_dn (by decide) h0), HV.out.g, HV.out.d, HV.out.c⟩⟩
          · simp at ho
            subst ho
            have h32x : L.getD 32 false = true := hall { on := 32, ground := Ground.data } (by simp) (by decide)
            have h34x : L.getD 34 false = true := hall { on := 34, ground := Ground.data } (by simp) (by decide)
            have h30x : L.getD 30 false = true := hall { on := 30, ground := Ground.chain } (by simp) (by decide)
            have H32 := Lib.hid h32x
            have H34 := Lib.hid h34x
            have H30 := Lib.hid h30x
            clear hall hi h32x h34x h30x
            have e0 := HV.out.k32 H32.out
            subst e0
            have e1 := HV.out.k34 H34.out
            subst e1
            have e2 := HV.out.k30 H30.out
            subst e2
            refine wpOp_step rfl (fun K' hK' => ?_)
            have HK := Lib.hid hK'
            clear hK'
            go_simp
            refine (HLO2.out n2 A' c' _ HV.out.g.rd HV.out.g.n2).mono ?_
            rintro e wn ⟨A2, c2, rfl, _, _, hr2, bn⟩
            have hg := HV.out.g.below bn
            exact HK.out _ _ ⟨by simp [HJ.out.sz], ⟨_, _, _, _, _, _, _, _, _, _, _, _, _, _, _, _, _, _, _, _, _, _, _, _, _, _, _, _, _, _, _, _, _, _, _, _, _, _, _, rfl, fun h0 => HV.out.k0 (getD_dn (by decide) h0), fun h0 => HV.out.k1 (getD_dn (by decide) h0), fun h0 => HV.out.k2 (getD_dn (by decide) h0), fun h0 => HV.out.k3 (getD_dn (by decide) h0), fun h0 => HV.out.k4 (getD_dn (by decide) h0), fun h0 => HV.out.k5 (getD_dn (by decide) h0), fun h0 => HV.out.k6 (getD_dn (by decide) h0), fun h0 => HV.out.k7 (getD_dn (by decide) h0), fun h0 => HV.out.k8 (getD_dn (by decide) h0), fun h0 => HV.out.k9 (getD_dn (by decide) h0), fun h0 => HV.out.k10 (getD_dn (by decide) h0), fun h0 => HV.out.k11 (getD_dn (by decide) h0), fun h0 => HV.out.k12 (getD_dn (by decide) h0), fun h0 => HV.out.k13 (getD_dn (by decide) h0), fun h0 => HV.out.k14 (getD_dn (by decide) h0), fun h0 => HV.out.k15 (getD_dn (by decide) h0), fun h0 => HV.out.k16 (getD_dn (by decide) h0), fun h0 => HV.out.k17 (getD_dn (by decide) h0), fun h0 => HV.out.k18 (getD_dn (by decide) h0), fun h0 => HV.out.k19 (getD_dn (by decide) h0), fun h0 => HV.out.k20 (getD_dn (by decide) h0), fun h0 => HV.out.k21 (getD_dn (by decide) h0), fun h0 => HV.out.k22 (getD_dn (by decide) h0), fun h0 => HV.out.k23 (getD_dn (by decide) h0), fun h0 => HV.out.k24 (getD_dn (by decide) h0), fun h0 => HV.out.k25 (getD_dn (by decide) h0), fun h0 => HV.out.k26 (getD_dn (by decide) h0), fun h0 => HV.out.k27 (getD_dn (by decide) h0), fun h0 => HV.out.k28 (getD_dn (by decide) h0), fun h0 => HV.out.k29 (getD_dn (by decide) h0), fun h0 => HV.out.k30 (getD_dn (by decide) h0), fun h0 => HV.out.k31 (getD_dn (by decide) h0), fun h0 => HV.out.k32 (getD_dn (by decide) h0), fun h0 => HV.out.k33 (getD_dn (by decide) h0), fun h0 => HV.out.k34 (getD_dn (by decide) h0), fun h0 => HV.out.k36 (getD_dn (by decide) h0), fun h0 => HV.out.k37 (getD_dn (by decide) h0), fun h0 => HV.out.k38 (getD_dn (by decide) h0), fun _ => ⟨A2, c2, _, rfl, hr2, Nat.le_refl _⟩, hg, HV.out.d.trans (bn.mono HV.out.d.size), hg.cells⟩⟩
          · simp at ho
            subst ho
            have h31x : L.getD 31 false = true := hall { on := 31, ground := Ground.data } (by simp) (by decide)
            have h35x : L.getD 35 false = true := hall { on := 35, ground := Ground.data } (by simp) (by decide)
            have h30x : L.getD 30 false = true := hall { on := 30, ground := Ground.guard } (by simp) (by decide)
            have H31 := Lib.hid h31x
            have H35 := Lib.hid h35x
            have H30 := Lib.hid h30x
            clear hall hi h31x h35x h30x
            have e0 := HV.out.k31 H31.out
            subst e0
            have e1 := HV.out.k30 H30.out
            subst e1
            obtain ⟨A2, c2, n3, e2, hr2, hn3⟩ := HV.out.r35 H35.out
            subst e2
            refine wpOp_step rfl (fun K' hK' => ?_)
            have HK := Lib.hid hK'
            clear hK'
            go_simp
            refine (HSAME.out w' A2 c2 n3 HV.out.g.rd hr2).mono ?_
            rintro e wn ⟨rfl, bn⟩
            have hg := HV.out.g.below bn
            exact HK.out _ _ ⟨by simp [HJ.out.sz], ⟨_, _, _, _, _, _, _, _, _, _, _, _, _, _, _, _, _, _, _, _, _, _, _, _, _, _, _, _, _, _, _, _, _, _, _, _, _, _, _, rfl, fun h0 => HV.out.k0 (getD_dn (by decide) h0), fun h0 => HV.out.k1 (getD_dn (by decide) h0), fun h0 => HV.out.k2 (getD_dn (by decide) h0), fun h0 => HV.out.k3 (getD_dn (by decide) h0), fun h0 => HV.out.k4 (getD_dn (by decide) h0), fun h0 => HV.out.k5 (getD_dn (by decide) h0), fun h0 => HV.out.k6 (getD_dn (by decide) h0), fun h0 => HV.out.k7 (getD_dn (by decide) h0), fun h0 => HV.out.k8 (getD_dn (by decide) h0), fun h0 => HV.out.k9 (getD_dn (by decide) h0), fun h0 => HV.out.k10 (getD_dn (by decide) h0), fun h0 => HV.out.k11 (getD_dn (by decide) h0), fun h0 => HV.out.k12 (getD_dn (by decide) h0), fun h0 => HV.out.k13 (getD_dn (by decide) h0), fun h0 => HV.out.k14 (getD_dn (by decide) h0), fun h0 => HV.out.k15 (getD_dn (by decide) h0), fun h0 => HV.out.k16 (getD_dn (by decide) h0), fun h0 => HV.out.k17 (getD_dn (by decide) h0), fun h0 => HV.out.k18 (getD_dn (by decide) h0), fun h0 => HV.out.k19 (getD_dn (by decide) h0), fun h0 => HV.out.k20 (getD_dn (by decide) h0), fun h0 => HV.out.k21 (getD_dn (by decide) h0), fun h0 => HV.out.k22 (getD_dn (by decide) h0), fun h0 => HV.out.k23 (getD_dn (by decide) h0), fun h0 => HV.out.k24 (getD_dn (by decide) h0), fun h0 => HV.out.k25 (getD_dn (by decide) h0), fun h0 => HV.out.k26 (getD_dn (by decide) h0), fun h0 => HV.out.k27 (getD_dn (by decide) h0), fun h0 => HV.out.k28 (getD_dn (by decide) h0), fun h0 => HV.out.k29 (getD_dn (by decide) h0), fun h0 => HV.out.k30 (getD_dn (by decide) h0), fun h0 => HV.out.k31 (getD_dn (by decide) h0), fun h0 => HV.out.k32 (getD_dn (by decide) h0), fun h0 => HV.out.k33 (getD_dn (by decide) h0), fun h0 => HV.out.k34 (getD_dn (by decide) h0), fun _ => rfl, fun h0 => HV.out.k37 (getD_dn (by decide) h0), fun h0 => HV.out.k38 (getD_dn (by decide) h0), fun _ => ⟨A2, c2, n3, rfl, hr2.below (bn.mono hn3), Nat.le_trans hn3 bn.size⟩, hg, HV.out.d.trans (bn.mono HV.out.d.size), hg.cells⟩⟩
          · simp at ho
            subst ho
            have h36x : L.getD 36 false = true := hall { on := 36, ground := Ground.data } (by simp) (by decide)
            have h30x : L.getD 30 false = true := hall { on := 30, ground := Ground.guard } (by simp) (by decide)
            have H36 := Lib.hid h36x
            have H30 := Lib.hid h30x
            clear hall hi h36x h30x
            have e0 := HV.out.k36 H36.out
            subst e0
            have e1 := HV.out.k30 H30.out
            subst e1
            refine wpOp_step rfl (fun K' hK' => ?_)
            have HK := Lib.hid hK'
            clear hK'
            go_simp
            exact HK.out _ _ ⟨by simp [HJ.out.sz], ⟨_, _, _, _, _, _, _, _, _, _, _, _, _, _, _, _, _, _, _, _, _, _, _, _, _, _, _, _, _, _, _, _, _, _, _, _, _, _, _, rfl, fun h0 => HV.out.k0 (getD_dn (by decide) h0), fun h0 => HV.out.k1 (getD_dn (by decide) h0), fun h0 => HV.out.k2 (getD_dn (by decide) h0), fun h0 => HV.out.k3 (getD_dn (by decide) h0), fun h0 => HV.out.k4 (getD_dn (by decide) h0), fun h0 => HV.out.k5 (getD_dn (by decide) h0), fun h0 => HV.out.k6 (getD_dn (by decide) h0), fun h0 => HV.out.k7 (getD_dn (by decide) h0), fun h0 => HV.out.k8 (getD_dn (by decide) h0), fun h0 => HV.out.k9 (getD_dn (by decide) h0), fun h0 => HV.out.k10 (getD_dn (by decide) h0), fun h0 => HV.out.k11 (getD_dn (by decide) h0), fun h0 => HV.out.k12 (getD_dn (by decide) h0), fun h0 => HV.out.k13 (getD_dn (by decide) h0), fun h0 => HV.out.k14 (getD_dn (by decide) h0), fun h0 => HV.out.k15 (getD_dn (by decide) h0), fun h0 => HV.out.k16 (getD_dn (by decide) h0), fun h0 => HV.out.k17 (getD_dn (by decide) h0), fun h0 => HV.out.k18 (getD_dn (by decide) h0), fun h0 => HV.out.k19 (getD_dn (by decide) h0), fun h0 => HV.out.k20 (getD_dn (by decide) h0), fun h0 => HV.out.k21 (getD_dn (by decide) h0), fun h0 => HV.out.k22 (getD_dn (by decide) h0), fun h0 => HV.out.k23 (getD_dn (by decide) h0), fun h0 => HV.out.k24 (getD_dn (by decide) h0), fun h0 => HV.out.k25 (getD_dn (by decide) h0), fun h0 => HV.out.k26 (getD_dn (by decide) h0), fun h0 => HV.out.k27 (getD_dn (by decide) h0), fun h0 => HV.out.k28 (getD_dn (by decide) h0), fun h0 => HV.out.k29 (getD_dn (by decide) h0), fun h0 => HV.out.k30 (getD_dn (by decide) h0), fun h0 => HV.out.k31 (getD_dn (by decide) h0), fun h0 => HV.out.k32 (getD_dn (by decide) h0), fun h0 => HV.out.k33 (getD_dn (by decide) h0), fun h0 => HV.out.k34 (getD_dn (by decide) h0), fun h0 => HV.out.k36 (getD_dn (by decide) h0), fun _ => rfl, fun h0 => HV.out.k38 (getD_dn (by decide) h0), fun h0 => HV.out.r35 (getD_dn (by decide) h0), HV.out.g, HV.out.d, HV.out.c⟩⟩
          · simp at ho
            subst ho
            have h30x : L.getD 30 false = true := hall { on := 30, ground := Ground.data } (by simp) (by decide)
            have h37x : L.getD 37 false = true := hall { on := 37, ground := Ground.data } (by simp) (by decide)
            have H30 := Lib.hid h30x
            have H37 := Lib.hid h37x
            clear hall hi h30x h37x
            have e0 := HV.out.k30 H30.out
            subst e0
            have e1 := HV.out.k37 H37.out
            subst e1
            refine wpOp_step rfl (fun K' hK' => ?_)
            have HK := Lib.hid hK'
            clear hK'
            go_simp
            exact HK.out _ _ ⟨by simp [HJ.out.sz], ⟨_, _, _, _, _, _, _, _, _, _, _, _, _, _, _, _, _, _, _, _, _, _, _, _, _, _, _, _, _, _, _, _, _, _, _, _, _, _, _, rfl, fun h0 => HV.out.k0 (getD_dn (by decide) h0), fun h0 => HV.out.k1 (getD_dn (by decide) h0), fun h0 => HV.out.k2 (getD_dn (by decide) h0), fun h0 => HV.out.k3 (getD_dn (by decide) h0), fun h0 => HV.out.k4 (getD_dn (by decide) h0), fun h0 => HV.out.k5 (getD_dn (by decide) h0), fun h0 => HV.out.k6 (getD_dn (by decide) h0), fun h0 => HV.out.k7 (getD_dn (by decide) h0), fun h0 => HV.out.k8 (getD_dn (by decide) h0), fun h0 => HV.out.k9 (getD_dn (by decide) h0), fun h0 => HV.out.k10 (getD_dn (by decide) h0), fun h0 => HV.out.k11 (getD_dn (by decide) h0), fun h0 => HV.out.k12 (getD_dn (by decide) h0), fun h0 => HV.out.k13 (getD_dn (by decide) h0), fun h0 => HV.out.k14 (getD_dn (by decide) h0), fun h0 => HV.out.k15 (getD_dn (by decide) h0), fun h0 => HV.out.k16 (getD_dn (by decide) h0), fun h0 => HV.out.k17 (getD_dn (by decide) h0), fun h0 => HV.out.k18 (getD_dn (by decide) h0), fun h0 => HV.out.k19 (getD_dn (by decide) h0), fun h0 => HV.out.k20 (getD_dn (by decide) h0), fun h0 => HV.out.k21 (getD_dn (by decide) h0), fun h0 => HV.out.k22 (getD_dn (by decide) h0), fun h0 => HV.out.k23 (getD_dn (by decide) h0), fun h0 => HV.out.k24 (getD_dn (by decide) h0), fun h0 => HV.out.k25 (getD_dn (by decide) h0), fun h0 => HV.out.k26 (getD_dn (by decide) h0), fun h0 => HV.out.k27 (getD_dn (by decide) h0), fun h0 => HV.out.k28 (getD_dn (by decide) h0), fun h0 => HV.out.k29 (getD_dn (by decide) h0), fun h0 => HV.out.k30 (getD_dn (by decide) h0), fun h0 => HV.out.k31 (getD_dn (by decide) h0), fun h0 => HV.out.k32 (getD_dn (by decide) h0), fun h0 => HV.out.k33 (getD_dn (by decide) h0), fun h0 => HV.out.k34 (getD_dn (by decide) h0), fun h0 => HV.out.k36 (getD_dn (by decide) h0), fun h0 => HV.out.k37 (getD_dn (by decide) h0), fun _ => rfl, fun h0 => HV.out.r35 (getD_dn (by decide) h0), HV.out.g, HV.out.d, HV.out.c⟩⟩
      · obtain ⟨k', rfl⟩ : ∃ k', k = k' + 1 := ⟨k - 1, by omega⟩
        obtain ⟨a, hga⟩ : ∃ a, (names sls)[k']? = some a := ⟨_, List.getElem?_eq_getElem (by have := (List.getElem?_eq_some_iff.1 HGET.out).1; omega)⟩
        have hab : Op.bytesLess (bs a).toList s.toList = true := by
          rw [bytesLess_eq, Lib.toList_data, Lib.toList_data, ← HS.out, bs_data, bs_data]
          exact decide_eq_true (names_lt hga HGET.out)
        obtain ⟨d0, _, _⟩ := (HCL.out k' _ (posL_get hga)).below HW7.out (by rw [add_block]; exact had)
        rw [posOf_inst] at d0
        generalize bs a = sa at hab d0
        have HAB := Lib.hid hab
        have HAD := Lib.hid had
        have HKB : Hid ((k' : Int) < (N : Int)) := by show (k' : Int) < _; omega
        obtain ⟨i, hi⟩ : ∃ i : Int, ((k' + 1 : Nat) : Int) = i := ⟨_, rfl⟩
        have HIK : Hid (i - 1 = (k' : Int)) := by show i - 1 = _; omega
        have HWR : Hid (IntKind.i64.wrap (k' : Int) = (k' : Int)) := by rw [Hid, IntKind.wrap_i64]; omega
        have HIP : Hid (decide (0 < i) = true ∧ decide (i > 0) = true) := ⟨decide_eq_true (by omega), decide_eq_true (by omega)⟩
        clear hga hk0 hab m0 m1 m2
        rw [hi]
        have HI := Lib.hid hi
        clear hi
        go_upto_region 10 with fail
        have hg : LP w w2.heap.size wr.heap.size ⟨s, I Q, I Cc⟩ n2 A' own w7.drew := HP7.out.below (Below.refl _ _).drew
        have hd : Below w2.heap.size w2 w7.drew := HW7.out.trans ((Below.refl _ _).drew.mono HW7.out.size)
        have mixed : Tryz.prog.follows .mixedOrders = true := by kernel_rfl
        refine wp_region_any mixed (wpAny_inv (LBJ w w2 wr.heap.size s Q Cc n2 A' c' own ad N cP i k' sa _ _ _ _ _ _ _ _ _ _ _ _ _ _ _ _ _ _ _ _ _ _ _ _ _ _ _ _ _ _ _ _ _ _ _ _ _ _ _ _ _ _ _ _ _ _ _ _ _ _ _ _) ?stLB ?dnLB _ _ _ _ ⟨by simp, ⟨_, _, _, _, _, _, _, _, _, _, _, _, _, _, _, _, _, _, _, _, _, _, _, _, _, _, _, _, _, _, _, _, _, _, _, _, _, _, _, rfl, fun h => by simp at h, fun h => by simp at h, fun h => by simp at h, fun h => by simp at h, fun h => by simp at h, fun h => by simp at h, fun h => by simp at h, fun h => by simp at h, fun h => by simp at h, fun h => by simp at h, fun h => by simp at h, fun h => by simp at h, fun h => by simp at h, fun h => by simp at h, fun h => by simp at h, fun h => by simp at h, fun h => by simp at h, fun h => by simp at h, fun h => by simp at h, fun h => by simp at h, fun h => by simp at h, fun h => by simp at h, fun h => by simp at h, fun h => by simp at h, fun h => by simp at h, fun h => by simp at h, fun h => by simp at h, fun h => by simp at h, fun h => by simp at h, fun h => by simp at h, fun h => by simp at h, fun h => by simp at h, fun h => by simp at h, fun h => by simp at h, fun h => by simp at h, fun h => by simp at h, fun h => by simp at h, fun h => by simp at h, fun h => by simp at h, hg, hd, hg.cells, d0⟩⟩ (by decide))
        case dnLB =>
          intro L a w' hj hr
          have all : ∀ i, i < 39 → L.getD i false = true := by
            intro i
            induction i using Nat.strongRecOn with
            | ind i ih =>
              intro hi
              refine (off_or_on L i).resolve_left fun h => ?_
              refine List.eq_nil_iff_forall_not_mem.1 hr i (ready_of (by rw [hj.sz]; exact hi) h (Array.getElem?_eq_getElem (by simpa using hi)) (fun e he hbd => ih e.on ?_ ?_))
              · rcases (show i = 0 ∨ i = 1 ∨ i = 2 ∨ i = 3 ∨ i = 4 ∨ i = 5 ∨ i = 6 ∨ i = 7 ∨ i = 8 ∨ i = 9 ∨ i = 10 ∨ i = 11 ∨ i = 12 ∨ i = 13 ∨ i = 14 ∨ i = 15 ∨ i = 16 ∨ i = 17 ∨ i = 18 ∨ i = 19 ∨ i = 20 ∨ i = 21 ∨ i = 22 ∨ i = 23 ∨ i = 24 ∨ i = 25 ∨ i = 26 ∨ i = 27 ∨ i = 28 ∨ i = 29 ∨ i = 30 ∨ i = 31 ∨ i = 32 ∨ i = 33 ∨ i = 34 ∨ i = 35 ∨ i = 36 ∨ i = 37 ∨ i = 38 from by omega) with rfl | rfl | rfl | rfl | rfl | rfl | rfl | rfl | rfl | rfl | rfl | rfl | rfl | rfl | rfl | rfl | rfl | rfl | rfl | rfl | rfl | rfl | rfl | rfl | rfl | rfl | rfl | rfl | rfl | rfl | rfl | rfl | rfl | rfl | rfl | rfl | rfl | rfl | rfl
                · simp at he
                · simp at he
                  subst he
                  first | decide | (exact absurd hbd (by decide))
                · simp at he
                  subst he
                  first | decide | (exact absurd hbd (by decide))
                · simp at he
                  subst he
                  first | decide | (exact absurd hbd (by decide))
                · simp at he
                  subst he
                  first | decide | (exact absurd hbd (by decide))
                · simp at he
                  rcases he with rfl | rfl
                  all_goals first | decide | (exact absurd hbd (by decide))
                · simp at he
                  rcases he with rfl | rfl | rfl
                  all_goals first | decide | (exact absurd hbd (by decide))
                · simp at he
                  rcases he with rfl | rfl
                  all_goals first | decide | (exact absurd hbd (by decide))
                · simp at he
                  rcases he with rfl | rfl
                  all_goals first | decide | (exact absurd hbd (by decide))
                · simp at he
                  subst he
                  first | decide | (exact absurd hbd (by decide))
                · simp at he
                  rcases he with rfl | rfl
                  all_goals first | decide | (exact absurd hbd (by decide))
                · simp at he
                  rcases he with rfl | rfl | rfl
                  all_goals first | decide | (exact absurd hbd (by decide))
                · simp at he
                  rcases he with rfl | rfl
                  all_goals first | decide | (exact absurd hbd (by decide))
                · simp at he
                  rcases he with rfl | rfl
                  all_goals first | decide | (exact absurd hbd (by decide))
                · simp at he
                  subst he
                  first | decide | (exact absurd hbd (by decide))
                · simp at he
                  rcases he with rfl | rfl
                  all_goals first | decide | (exact absurd hbd (by decide))
                · simp at he
                  rcases he with rfl | rfl
                  all_goals first | decide | (exact absurd hbd (by decide))
                · simp at he
                  rcases he with rfl | rfl
                  all_goals first | decide | (exact absurd hbd (by decide))
                · simp at he
                  rcases he with rfl | rfl
                  all_goals first | decide | (exact absurd hbd (by decide))
                · simp at he
                  subst he
                  first | decide | (exact absurd hbd (by decide))
                · simp at he
                  subst he
                  first | decide | (exact absurd hbd (by decide))
                · simp at he
                  rcases he with rfl | rfl
                  all_goals first | decide | (exact absurd hbd (by decide))
                · simp at he
                  rcases he with rfl | rfl | rfl
                  all_goals first | decide | (exact absurd hbd (by decide))
                · simp at he
                  rcases he with rfl | rfl
                  all_goals first | decide | (exact absurd hbd (by decide))
                · simp at he
                  rcases he with rfl | rfl
                  all_goals first | decide | (exact absurd hbd (by decide))
                · simp at he
                  subst he
                  first | decide | (exact absurd hbd (by decide))
                · simp at he
                  subst he
                  first | decide | (exact absurd hbd (by decide))
                · simp at he
                  rcases he with rfl | rfl
                  all_goals first | decide | (exact absurd hbd (by decide))
                · simp at he
                  rcases he with rfl | rfl | rfl
                  all_goals first | decide | (exact absurd hbd (by decide))
                · simp at he
                  rcases he with rfl | rfl
                  all_goals first | decide | (exact absurd hbd (by decide))
                · simp at he
                  rcases he with rfl | rfl
                  all_goals first | decide | (exact absurd hbd (by decide))
                · simp at he
                  subst he
                  first | decide | (exact absurd hbd (by decide))
                · simp at he
                  subst he
                  first | decide | (exact absurd hbd (by decide))
                · simp at he
                  subst he
                  first | decide | (exact absurd hbd (by decide))
                · simp at he
                  rcases he with rfl | rfl
                  all_goals first | decide | (exact absurd hbd (by decide))
                · simp at he
                  rcases he with rfl | rfl | rfl | rfl
                  all_goals first | decide | (exact absurd hbd (by decide))
                · simp at he
                  rcases he with rfl | rfl | rfl | rfl
                  all_goals first | decide | (exact absurd hbd (by decide))
                · simp at he
                  rcases he with rfl | rfl
                  all_goals first | decide | (exact absurd hbd (by decide))
                · simp at he
                  rcases he with rfl | rfl
                  all_goals first | decide | (exact absurd hbd (by decide))
              · rcases (show i = 0 ∨ i = 1 ∨ i = 2 ∨ i = 3 ∨ i = 4 ∨ i = 5 ∨ i = 6 ∨ i = 7 ∨ i = 8 ∨ i = 9 ∨ i = 10 ∨ i = 11 ∨ i = 12 ∨ i = 13 ∨ i = 14 ∨ i = 15 ∨ i = 16 ∨ i = 17 ∨ i = 18 ∨ i = 19 ∨ i = 20 ∨ i = 21 ∨ i = 22 ∨ i = 23 ∨ i = 24 ∨ i = 25 ∨ i = 26 ∨ i = 27 ∨ i = 28 ∨ i = 29 ∨ i = 30 ∨ i = 31 ∨ i = 32 ∨ i = 33 ∨ i = 34 ∨ i = 35 ∨ i = 36 ∨ i = 37 ∨ i = 38 from by omega) with rfl | rfl | rfl | rfl | rfl | rfl | rfl | rfl | rfl | rfl | rfl | rfl | rfl | rfl | rfl | rfl | rfl | rfl | rfl | rfl | rfl | rfl | rfl | rfl | rfl | rfl | rfl | rfl | rfl | rfl | rfl | rfl | rfl | rfl | rfl | rfl | rfl | rfl | rfl
                · simp at he
                · simp at he
                  subst he
                  first | decide | (exact absurd hbd (by decide))
                · simp at he
                  subst he
                  first | decide | (exact absurd hbd (by decide))
                · simp at he
                  subst he
                  first | decide | (exact absurd hbd (by decide))
                · simp at he
                  subst he
                  first | decide | (exact absurd hbd (by decide))
                · simp at he
                  rcases he with rfl | rfl
                  all_goals first | decide | (exact absurd hbd (by decide))
                · simp at he
                  rcases he with rfl | rfl | rfl
                  all_goals first | decide | (exact absurd hbd (by decide))
                · simp at he
                  rcases he with rfl | rfl
                  all_goals first | decide | (exact absurd hbd (by decide))
                · simp at he
                  rcases he with rfl | rfl
                  all_goals first | decide | (exact absurd hbd (by decide))
                · simp at he
                  subst he
                  first | decide | (exact absurd hbd (by decide))
                · simp at he
                  rcases he with rfl | rfl
                  all_goals first | decide | (exact absurd hbd (by decide))
                · simp at he
                  rcases he with rfl | rfl | rfl
                  all_goals first | decide | (exact absurd hbd (by decide))
                · simp at he
                  rcases he with rfl | rfl
                  all_goals first | decide | (exact absurd hbd (by decide))
                · simp at he
                  rcases he with rfl | rfl
                  all_goals first | decide | (exact absurd hbd (by decide))
                · simp at he
                  subst he
                  first | decide | (exact absurd hbd (by decide))
                · simp at he
                  rcases he with rfl | rfl
                  all_goals first | decide | (exact absurd hbd (by decide))
                · simp at he
                  rcases he with rfl | rfl
                  all_goals first | decide | (exact absurd hbd (by decide))
                · simp at he
                  rcases he with rfl | rfl
                  all_goals first | decide | (exact absurd hbd (by decide))
                · simp at he
                  rcases he with rfl | rfl
                  all_goals first | decide | (exact absurd hbd (by decide))
                · simp at he
                  subst he
                  first | decide | (exact absurd hbd (by decide))
                · simp at he
                  subst he
                  first | decide | (exact absurd hbd (by decide))
                · simp at he
                  rcases he with rfl | rfl
                  all_goals first | decide | (exact absurd hbd (by decide))
                · simp at he
                  rcases he with rfl | rfl | rfl
                  all_goals first | decide | (exact absurd hbd (by decide))
                · simp at he
                  rcases he with rfl | rfl
                  all_goals first | decide | (exact absurd hbd (by decide))
                · simp at he
                  rcases he with rfl | rfl
                  all_goals first | decide | (exact absurd hbd (by decide))
                · simp at he
                  subst he
                  first | decide | (exact absurd hbd (by decide))
                · simp at he
                  subst he
                  first | decide | (exact absurd hbd (by decide))
                · simp at he
                  rcases he with rfl | rfl
                  all_goals first | decide | (exact absurd hbd (by decide))
                · simp at he
                  rcases he with rfl | rfl | rfl
                  all_goals first | decide | (exact absurd hbd (by decide))
                · simp at he
                  rcases he with rfl | rfl
                  all_goals first | decide | (exact absurd hbd (by decide))
                · simp at he
                  rcases he with rfl | rfl
                  all_goals first | decide | (exact absurd hbd (by decide))
                · simp at he
                  subst he
                  first | decide | (exact absurd hbd (by decide))
                · simp at he
                  subst he
                  first | decide | (exact absurd hbd (by decide))
                · simp at he
                  subst he
                  first | decide | (exact absurd hbd (by decide))
                · simp at he
                  rcases he with rfl | rfl
                  all_goals first | decide | (exact absurd hbd (by decide))
                · simp at he
                  rcases he with rfl | rfl | rfl | rfl
                  all_goals first | decide | (exact absurd hbd (by decide))
                · simp at he
                  rcases he with rfl | rfl | rfl | rfl
                  all_goals first | decide | (exact absurd hbd (by decide))
                · simp at he
                  rcases he with rfl | rfl
                  all_goals first | decide | (exact absurd hbd (by decide))
                · simp at he
                  rcases he with rfl | rfl
                  all_goals first | decide | (exact absurd hbd (by decide))
          obtain ⟨s35, s36, s37, s38, s39, s40, s41, s42, s43, s44, s45, s46, s47, s48, s49, s50, s51, s52, s53, s54, s55, s56, s57, s58, s59, s60, s61, s62, s63, s64, s65, s66, s67, s68, s69, s70, s71, s72, s73, rfl, hv⟩ := hj.fr
          have e0 := hv.k38 (all 38 (by omega))
          subst e0
          have HF := Lib.hid hv.d
          clear all hv hj hr
          have hii := HI.out
          subst hii
          dsimp only
          go_wp2_with fail
          go_roundw
          case rel => exact ⟨k' + 1 + 1, by rw [HCS.out]; go_num, by go_num, by omega, HF.out⟩
          case measure => simp [intOf]; omega
        case stLB =>
          intro L a w' hj i hi
          obtain ⟨hun, o, ho, hall⟩ := mem_ready.1 hi
          have hoff := getD_off hun
          have hlt := (Array.getElem?_eq_some_iff.1 ho).1
          simp at hlt
          obtain ⟨s35, s36, s37, s38, s39, s40, s41, s42, s43, s44, s45, s46, s47, s48, s49, s50, s51, s52, s53, s54, s55, s56, s57, s58, s59, s60, s61, s62, s63, s64, s65, s66, s67, s68, s69, s70, s71, s72, s73, rfl, hv⟩ := hj.fr
          have HV := Lib.hid hv
          have HJ := Lib.hid hj
          clear hv hj
          rcases (show i = 0 ∨ i = 1 ∨ i = 2 ∨ i = 3 ∨ i = 4 ∨ i = 5 ∨ i = 6 ∨ i = 7 ∨ i = 8 ∨ i = 9 ∨ i = 10 ∨ i = 11 ∨ i = 12 ∨ i = 13 ∨ i = 14 ∨ i = 15 ∨ i = 16 ∨ i = 17 ∨ i = 18 ∨ i = 19 ∨ i = 20 ∨ i = 21 ∨ i = 22 ∨ i = 23 ∨ i = 24 ∨ i = 25 ∨ i = 26 ∨ i = 27 ∨ i = 28 ∨ i = 29 ∨ i = 30 ∨ i = 31 ∨ i = 32 ∨ i = 33 ∨ i = 34 ∨ i = 35 ∨ i = 36 ∨ i = 37 ∨ i = 38 from by omega) with rfl | rfl | rfl | rfl | rfl | rfl | rfl | rfl | rfl | rfl | rfl | rfl | rfl | rfl | rfl | rfl | rfl | rfl | rfl | rfl | rfl | rfl | rfl | rfl | rfl | rfl | rfl | rfl | rfl | rfl | rfl | rfl | rfl | rfl | rfl | rfl | rfl | rfl | rfl
          · simp at ho
            subst ho
            clear hall hi
            refine wpOp_step rfl (fun K' hK' => ?_)
            have HK := Lib.hid hK'
            clear hK'
            go_simp
            exact HK.out _ _ ⟨by simp [HJ.out.sz], ⟨_, _, _, _, _, _, _, _, _, _, _, _, _, _, _, _, _, _, _, _, _, _, _, _, _, _, _, _, _, _, _, _, _, _, _, _, _, _, _, rfl, fun _ => rfl, fun h0 => HV.out.k1 (getD_dn (by decide) h0), fun h0 => HV.out.k2 (getD_dn (by decide) h0), fun h0 => HV.out.k3 (getD_dn (by decide) h0), fun h0 => HV.out.k4 (getD_dn (by decide) h0), fun h0 => HV.out.k5 (getD_dn (by decide) h0), fun h0 => HV.out.k6 (getD_dn (by decide) h0), fun h0 => HV.out.k7 (getD_dn (by decide) h0), fun h0 => HV.out.k8 (getD_dn (by decide) h0), fun h0 => HV.out.k9 (getD_dn (by decide) h0), fun h0 => HV.out.k10 (getD_dn (by decide) h0), fun h0 => HV.out.k11 (getD_dn (by decide) h0), fun h0 => HV.out.k12 (getD_dn (by decide) h0), fun h0 => HV.out.k13 (getD_dn (by decide) h0), fun h0 => HV.out.k14 (getD_dn (by decide) h0), fun h0 => HV.out.k15 (getD_dn (by decide) h0), fun h0 => HV.out.k16 (getD_dn (by decide) h0), fun h0 => HV.out.k17 (getD_dn (by decide) h0), fun h0 => HV.out.k18 (getD_dn (by decide) h0), fun h0 => HV.out.k19 (getD_dn (by decide) h0), fun h0 => HV.out.k20 (getD_dn (by decide) h0), fun h0 => HV.out.k21 (getD_dn (by decide) h0), fun h0 => HV.out.k22 (getD_dn (by decide) h0), fun h0 => HV.out.k23 (getD_dn (by decide) h0), fun h0 => HV.out.k24 (getD_dn (by decide) h0), fun h0 => HV.out.k25 (getD_dn (by decide) h0), fun h0 => HV.out.k26 (getD_dn (by decide) h0), fun h0 => HV.out.k27 (getD_dn (by decide) h0), fun h0 => HV.out.k28 (getD_dn (by decide) h0), fun h0 => HV.out.k29 (getD_dn (by decide) h0), fun h0 => HV.out.k30 (getD_dn (by decide) h0), fun h0 => HV.out.k31 (getD_dn (by decide) h0), fun h0 => HV.out.k32 (getD_dn (by decide) h0), fun h0 => HV.out.k33 (getD_dn (by decide) h0), fun h0 => HV.out.k34 (getD_dn (by decide) h0), fun h0 => HV.out.k36 (getD_dn (by decide) h0), fun h0 => HV.out.k37 (getD_dn (by decide) h0), fun h0 => HV.out.k38 (getD_dn (by decide) h0), fun h0 => HV.out.r35 (getD_dn (by decide) h0), HV.out.g, HV.out.d, HV.out.c, HV.out.e⟩⟩
          · simp at ho
            subst ho
            have h0x : L.getD 0 false = true := hall { on := 0, ground := Ground.data } (by simp) (by decide)
            have H0 := Lib.hid h0x
            clear hall hi h0x
            have e0 := HV.out.k0 H0.out
            subst e0
            have hip := HIP.out
            refine wpOp_step rfl (fun K' hK' => ?_)
            have HK := Lib.hid hK'
            clear hK'
            go_simp
            exact HK.out _ _ ⟨by simp [HJ.out.sz], ⟨_, _, _, _, _, _, _, _, _, _, _, _, _, _, _, _, _, _, _, _, _, _, _, _, _, _, _, _, _, _, _, _, _, _, _, _, _, _, _, rfl, fun h0 => HV.out.k0 (getD_dn (by decide) h0), fun _ => rfl, fun h0 => HV.out.k2 (getD_dn (by decide) h0), fun h0 => HV.out.k3 (getD_dn (by decide) h0), fun h0 => HV.out.k4 (getD_dn (by decide) h0), fun h0 => HV.out.k5 (getD_dn (by decide) h0), fun h0 => HV.out.k6 (getD_dn (by decide) h0), fun h0 => HV.out.k7 (getD_dn (by decide) h0), fun h0 => HV.out.k8 (getD_dn (by decide) h0), fun h0 => HV.out.k9 (getD_dn (by decide) h0), fun h0 => HV.out.k10 (getD_dn (by decide) h0), fun h0 => HV.out.k11 (getD_dn (by decide) h0), fun h0 => HV.out.k12 (getD_dn (by decide) h0), fun h0 => HV.out.k13 (getD_dn (by decide) h0), fun h0 => HV.out.k14 (getD_dn (by decide) h0), fun h0 => HV.out.k15 (getD_dn (by decide) h0), fun h0 => HV.out.k16 (getD_dn (by decide) h0), fun h0 => HV.out.k17 (getD_dn (by decide) h0), fun h0 => HV.out.k18 (getD_dn (by decide) h0), fun h0 => HV.out.k19 (getD_dn (by decide) h0), fun h0 => HV.out.k20 (getD_dn (by decide) h0), fun h0 => HV.out.k21 (getD_dn (by decide) h0), fun h0 => HV.out.k22 (getD_dn (by decide) h0), fun h0 => HV.out.k23 (getD_dn (by decide) h0), fun h0 => HV.out.k24 (getD_dn (by decide) h0), fun h0 => HV.out.k25 (getD_dn (by decide) h0), fun h0 => HV.out.k26 (getD_dn (by decide) h0), fun h0 => HV.out.k27 (getD_dn (by decide) h0), fun h0 => HV.out.k28 (getD_dn (by decide) h0), fun h0 => HV.out.k29 (getD_dn (by decide) h0), fun h0 => HV.out.k30 (getD_dn (by decide) h0), fun h0 => HV.out.k31 (getD_dn (by decide) h0), fun h0 => HV.out.k32 (getD_dn (by decide) h0), fun h0 => HV.out.k33 (getD_dn (by decide) h0), fun h0 => HV.out.k34 (getD_dn (by decide) h0), fun h0 => HV.out.k36 (getD_dn (by decide) h0), fun h0 => HV.out.k37 (getD_dn (by decide) h0), fun h0 => HV.out.k38 (getD_dn (by decide) h0), fun h0 => HV.out.r35 (getD_dn (by decide) h0), HV.out.g, HV.out.d, HV.out.c, HV.out.e⟩⟩
          · simp at ho
            subst ho
            have h1x : L.getD 1 false = true := hall { on := 1, ground := Ground.data } (by simp) (by decide)
            have H1 := Lib.hid h1x
            clear hall hi h1x
            have e0 := HV.out.k1 H1.out
            subst e0
            refine wpOp_step rfl (fun K' hK' => ?_)
            have HK := Lib.hid hK'
            clear hK'
            go_simp
            exact HK.out _ _ ⟨by simp [HJ.out.sz], ⟨_, _, _, _, _, _, _, _, _, _, _, _, _, _, _, _, _, _, _, _, _, _, _, _, _, _, _, _, _, _, _, _, _, _, _, _, _, _, _, rfl, fun h0 => HV.out.k0 (getD_dn (by decide) h0), fun h0 => HV.out.k1 (getD_dn (by decide) h0), fun _ => rfl, fun h0 => HV.out.k3 (getD_dn (by decide) h0), fun h0 => HV.out.k4 (getD_dn (by decide) h0), fun h0 => HV.out.k5 (getD_dn (by decide) h0), fun h0 => HV.out.k6 (getD_dn (by decide) h0), fun h0 => HV.out.k7 (getD_dn (by decide) h0), fun h0 => HV.out.k8 (getD_dn (by decide) h0), fun h0 => HV.out.k9 (getD_dn (by decide) h0), fun h0 => HV.out.k10 (getD_dn (by decide) h0), fun h0 => HV.out.k11 (getD_dn (by decide) h0), fun h0 => HV.out.k12 (getD_dn (by decide) h0), fun h0 => HV.out.k13 (getD_dn (by decide) h0), fun h0 => HV.out.k14 (getD_dn (by decide) h0), fun h0 => HV.out.k15 (getD_dn (by decide) h0), fun h0 => HV.out.k16 (getD_dn (by decide) h0), fun h0 => HV.out.k17 (getD_dn (by decide) h0), fun h0 => HV.out.k18 (getD_dn (by decide) h0), fun h0 => HV.out.k19 (getD_dn (by decide) h0), fun h0 => HV.out.k20 (getD_dn (by decide) h0), fun h0 => HV.out.k21 (getD_dn (by decide) h0), fun h0 => HV.out.k22 (getD_dn (by decide) h0), fun h0 => HV.out.k23 (getD_dn (by decide) h0), fun h0 => HV.out.k24 (getD_dn (by decide) h0), fun h0 => HV.out.k25 (getD_dn (by decide) h0), fun h0 => HV.out.k26 (getD_dn (by decide) h0), fun h0 => HV.out.k27 (getD_dn (by decide) h0), fun h0 => HV.out.k28 (getD_dn (by decide) h0), fun h0 => HV.out.k29 (getD_dn (by decide) h0), fun h0 => HV.out.k30 (getD_dn (by decide) h0), fun h0 => HV.out.k31 (getD_dn (by decide) h0), fun h0 => HV.out.k32 (getD_dn (by decide) h0), fun h0 => HV.out.k33 (getD_dn (by decide) h0), fun h0 => HV.out.k34 (getD_dn (by decide) h0), fun h0 => HV.out.k36 (getD_dn (by decide) h0), fun h0 => HV.out.k37 (getD_dn (by decide) h0), fun h0 => HV.out.k38 (getD_dn (by decide) h0), fun h0 => HV.out.r35 (getD_dn (by decide) h0), HV.out.g, HV.out.d, HV.out.c, HV.out.e⟩⟩
          · simp at ho
            subst ho
            have h2x : L.getD 2 false = true := hall { on := 2, ground := Ground.guard } (by simp) (by decide)
            have H2 := Lib.hid h2x
            clear hall hi h2x
            have e0 := HV.out.k2 H2.out
            subst e0
            refine wpOp_step rfl (fun K' hK' => ?_)
            have HK := Lib.hid hK'
            clear hK'
            go_simp
            exact HK.out _ _ ⟨by simp [HJ.out.sz], ⟨_, _, _, _, _, _, _, _, _, _, _, _, _, _, _, _, _, _, _, _, _, _, _, _, _, _, _, _, _, _, _, _, _, _, _, _, _, _, _, rfl, fun h0 => HV.out.k0 (getD_dn (by decide) h0), fun h0 => HV.out.k1 (getD_dn (by decide) h0), fun h0 => HV.out.k2 (getD_dn (by decide) h0), fun _ => rfl, fun h0 => HV.out.k4 (getD_dn (by decide) h0), fun h0 => HV.out.k5 (getD_dn (by decide) h0), fun h0 => HV.out.k6 (getD_dn (by decide) h0), fun h0 => HV.out.k7 (getD_dn (by decide) h0), fun h0 => HV.out.k8 (getD_dn (by decide) h0), fun h0 => HV.out.k9 (getD_dn (by decide) h0), fun h0 => HV.out.k10 (getD_dn (by decide) h0), fun h0 => HV.out.k11 (getD_dn (by decide) h0), fun h0 => HV.out.k12 (getD_dn (by decide) h0), fun h0 => HV.out.k13 (getD_dn (by decide) h0), fun h0 => HV.out.k14 (getD_dn (by decide) h0), fun h0 => HV.out.k15 (getD_dn (by decide) h0), fun h0 => HV.out.k16 (getD_dn (by decide) h0), fun h0 => HV.out.k17 (getD_dn (by decide) h0), fun h0 => HV.out.k18 (getD_dn (by decide) h0), fun h0 => HV.out.k19 (getD_dn (by decide) h0), fun h0 => HV.out.k20 (getD_dn (by decide) h0), fun h0 => HV.out.k21 (getD_dn (by decide) h0), fun h0 => HV.out.k22 (getD_dn (by decide) h0), fun h0 => HV.out.k23 (getD_dn (by decide) h0), fun h0 => HV.out.k24 (getD_dn (by decide) h0), fun h0 => HV.out.k25 (getD_dn (by decide) h0), fun h0 => HV.out.k26 (getD_dn (by decide) h0), fun h0 => HV.out.k27 (getD_dn (by decide) h0), fun h0 => HV.out.k28 (getD_dn (by decide) h0), fun h0 => HV.out.k29 (getD_dn (by decide) h0), fun h0 => HV.out.k30 (getD_dn (by decide) h0), fun h0 => HV.out.k31 (getD_dn (by decide) h0), fun h0 => HV.out.k32 (getD_dn (by decide) h0), fun h0 => HV.out.k33 (getD_dn (by decide) h0), fun h0 => HV.out.k34 (getD_dn (by decide) h0), fun h0 => HV.out.k36 (getD_dn (by decide) h0), fun h0 => HV.out.k37 (getD_dn (by decide) h0), fun h0 => HV.out.k38 (getD_dn (by decide) h0), fun h0 => HV.out.r35 (getD_dn (by decide) h0), HV.out.g, HV.out.d, HV.out.c, HV.out.e⟩⟩
          · simp at ho
            subst ho
            have h2x : L.getD 2 false = true := hall { on := 2, ground := Ground.guard } (by simp) (by decide)
            have H2 := Lib.hid h2x
            clear hall hi h2x
            have e0 := HV.out.k2 H2.out
            subst e0
            refine wpOp_step rfl (fun K' hK' => ?_)
            have HK := Lib.hid hK'
            clear hK'
            go_simp
            exact HK.out _ _ ⟨by simp [HJ.out.sz], ⟨_, _, _, _, _, _, _, _, _, _, _, _, _, _, _, _, _, _, _, _, _, _, _, _, _, _, _, _, _, _, _, _, _, _, _, _, _, _, _, rfl, fun h0 => HV.out.k0 (getD_dn (by decide) h0), fun h0 => HV.out.k1 (getD_dn (by decide) h0), fun h0 => HV.out.k2 (getD_dn (by decide) h0), fun h0 => HV.out.k3 (getD_dn (by decide) h0), fun _ => rfl, fun h0 => HV.out.k5 (getD_dn (by decide) h0), fun h0 => HV.out.k6 (getD_dn (by decide) h0), fun h0 => HV.out.k7 (getD_dn (by decide) h0), fun h0 => HV.out.k8 (getD_dn (by decide) h0), fun h0 => HV.out.k9 (getD_dn (by decide) h0), fun h0 => HV.out.k10 (getD_dn (by decide) h0), fun h0 => HV.out.k11 (getD_dn (by decide) h0), fun h0 => HV.out.k12 (getD_dn (by decide) h0), fun h0 => HV.out.k13 (getD_dn (by decide) h0), fun h0 => HV.out.k14 (getD_dn (by decide) h0), fun h0 => HV.out.k15 (getD_dn (by decide) h0), fun h0 => HV.out.k16 (getD_dn (by decide) h0), fun h0 => HV.out.k17 (getD_dn (by decide) h0), fun h0 => HV.out.k18 (getD_dn (by decide) h0), fun h0 => HV.out.k19 (getD_dn (by decide) h0), fun h0 => HV.out.k20 (getD_dn (by decide) h0), fun h0 => HV.out.k21 (getD_dn (by decide) h0), fun h0 => HV.out.k22 (getD_dn (by decide) h0), fun h0 => HV.out.k23 (getD_dn (by decide) h0), fun h0 => HV.out.k24 (getD_dn (by decide) h0), fun h0 => HV.out.k25 (getD_dn (by decide) h0), fun h0 => HV.out.k26 (getD_dn (by decide) h0), fun h0 => HV.out.k27 (getD_dn (by decide) h0), fun h0 => HV.out.k28 (getD_dn (by decide) h0), fun h0 => HV.out.k29 (getD_dn (by decide) h0), fun h0 => HV.out.k30 (getD_dn (by decide) h0), fun h0 => HV.out.k31 (getD_dn (by decide) h0), fun h0 => HV.out.k32 (getD_dn (by decide) h0), fun h0 => HV.out.k33 (getD_dn (by decide) h0), fun h0 => HV.out.k34 (getD_dn (by decide) h0), fun h0 => HV.out.k36 (getD_dn (by decide) h0), fun h0 => HV.out.k37 (getD_dn (by decide) h0), fun h0 => HV.out.k38 (getD_dn (by decide) h0), fun h0 => HV.out.r35 (getD_dn (by decide) h0), HV.out.g, HV.out.d, HV.out.c, HV.out.e⟩⟩
          · simp at ho
            subst ho
            have h4x : L.getD 4 false = true := hall { on := 4, ground := Ground.data } (by simp) (by decide)
            have h2x : L.getD 2 false = true := hall { on := 2, ground := Ground.guard } (by simp) (by decide)
            have H4 := Lib.hid h4x
            have H2 := Lib.hid h2x
            clear hall hi h4x h2x
            have e0 := HV.out.k4 H4.out
            subst e0
            have e1 := HV.out.k2 H2.out
            subst e1
            have hik := HIK.out
            have hwr := HWR.out
            refine wpOp_step rfl (fun K' hK' => ?_)
            have HK := Lib.hid hK'
            clear hK'
            go_simp
            exact HK.out _ _ ⟨by simp [HJ.out.sz], ⟨_, _, _, _, _, _, _, _, _, _, _, _, _, _, _, _, _, _, _, _, _, _, _, _, _, _, _, _, _, _, _, _, _, _, _, _, _, _, _, rfl, fun h0 => HV.out.k0 (getD_dn (by decide) h0), fun h0 => HV.out.k1 (getD_dn (by decide) h0), fun h0 => HV.out.k2 (getD_dn (by decide) h0), fun h0 => HV.out.k3 (getD_dn (by decide) h0), fun h0 => HV.out.k4 (getD_dn (by decide) h0), fun _ => rfl, fun h0 => HV.out.k6 (getD_dn (by decide) h0), fun h0 => HV.out.k7 (getD_dn (by decide) h0), fun h0 => HV.out.k8 (getD_dn (by decide) h0), fun h0 => HV.out.k9 (getD_dn (by decide) h0), fun h0 => HV.out.k10 (getD_dn (by decide) h0), fun h0 => HV.out.k11 (getD_dn (by decide) h0), fun h0 => HV.out.k12 (getD_dn (by decide) h0), fun h0 => HV.out.k13 (getD_dn (by decide) h0), fun h0 => HV.out.k14 (getD_dn (by decide) h0), fun h0 => HV.out.k15 (getD_dn (by decide) h0), fun h0 => HV.out.k16 (getD_dn (by decide) h0), fun h0 => HV.out.k17 (getD_dn (by decide) h0), fun h0 => HV.out.k18 (getD_dn (by decide) h0), fun h0 => HV.out.k19 (getD_dn (by decide) h0), fun h0 => HV.out.k20 (getD_dn (by decide) h0), fun h0 => HV.out.k21 (getD_dn (by decide) h0), fun h0 => HV.out.k22 (getD_dn (by decide) h0), fun h0 => HV.out.k23 (getD_dn (by decide) h0), fun h0 => HV.out.k24 (getD_dn (by decide) h0), fun h0 => HV.out.k25 (getD_dn (by decide) h0), fun h0 => HV.out.k26 (getD_dn (by decide) h0), fun h0 => HV.out.k27 (getD_dn (by decide) h0), fun h0 => HV.out.k28 (getD_dn (by decide) h0), fun h0 => HV.out.k29 (getD_dn (by decide) h0), fun h0 => HV.out.k30 (getD_dn (by decide) h0), fun h0 => HV.out.k31 (getD_dn (by decide) h0), fun h0 => HV.out.k32 (getD_dn (by decide) h0), fun h0 => HV.out.k33 (getD_dn (by decide) h0), fun h0 => HV.out.k34 (getD_dn (by decide) h0), fun h0 => HV.out.k36 (getD_dn (by decide) h0), fun h0 => HV.out.k37 (getD_dn (by decide) h0), fun h0 => HV.out.k38 (getD_dn (by decide) h0), fun h0 => HV.out.r35 (getD_dn (by decide) h0), HV.out.g, HV.out.d, HV.out.c, HV.out.e⟩⟩
          · simp at ho
            subst ho
            have h3x : L.getD 3 false = true := hall { on := 3, ground := Ground.data } (by simp) (by decide)
            have h5x : L.getD 5 false = true := hall { on := 5, ground := Ground.data } (by simp) (by decide)
            have h2x : L.getD 2 false = true := hall { on := 2, ground := Ground.guard } (by simp) (by decide)
            have H3 := Lib.hid h3x
            have H5 := Lib.hid h5x
            have H2 := Lib.hid h2x
            clear hall hi h3x h5x h2x
            have e0 := HV.out.k3 H3.out
            subst e0
            have e1 := HV.out.k5 H5.out
            subst e1
            have e2 := HV.out.k2 H2.out
            subst e2
            have hkb := HKB.out
            refine wpOp_step rfl (fun K' hK' => ?_)
            have HK := Lib.hid hK'
            clear hK'
            go_simp
            exact HK.out _ _ ⟨by simp [HJ.out.sz], ⟨_, _, _, _, _, _, _, _, _, _, _, _, _, _, _, _, _, _, _, _, _, _, _, _, _, _, _, _, _, _, _, _, _, _, _, _, _, _, _, rfl, fun h0 => HV.out.k0 (getD_dn (by decide) h0), fun h0 => HV.out.k1 (getD_dn (by decide) h0), fun h0 => HV.out.k2 (getD_dn (by decide) h0), fun h0 => HV.out.k3 (getD_dn (by decide) h0), fun h0 => HV.out.k4 (getD_dn (by decide) h0), fun h0 => HV.out.k5 (getD_dn (by decide) h0), fun _ => rfl, fun h0 => HV.out.k7 (getD_dn (by decide) h0), fun h0 => HV.out.k8 (getD_dn (by decide) h0), fun h0 => HV.out.k9 (getD_dn (by decide) h0), fun h0 => HV.out.k10 (getD_dn (by decide) h0), fun h0 => HV.out.k11 (getD_dn (by decide) h0), fun h0 => HV.out.k12 (getD_dn (by decide) h0), fun h0 => HV.out.k13 (getD_dn (by decide) h0), fun h0 => HV.out.k14 (getD_dn (by decide) h0), fun h0 => HV.out.k15 (getD_dn (by decide) h0), fun h0 => HV.out.k16 (getD_dn (by decide) h0), fun h0 => HV.out.k17 (getD_dn (by decide) h0), fun h0 => HV.out.k18 (getD_dn (by decide) h0), fun h0 => HV.out.k19 (getD_dn (by decide) h0), fun h0 => HV.out.k20 (getD_dn (by decide) h0), fun h0 => HV.out.k21 (getD_dn (by decide) h0), fun h0 => HV.out.k22 (getD_dn (by decide) h0), fun h0 => HV.out.k23 (getD_dn (by decide) h0), fun h0 => HV.out.k24 (getD_dn (by decide) h0), fun h0 => HV.out.k25 (getD_dn (by decide) h0), fun h0 => HV.out.k26 (getD_dn (by decide) h0), fun h0 => HV.out.k27 (getD_dn (by decide) h0), fun h0 => HV.out.k28 (getD_dn (by decide) h0), fun h0 => HV.out.k29 (getD_dn (by decide) h0), fun h0 => HV.out.k30 (getD_dn (by decide) h0), fun h0 => HV.out.k31 (getD_dn (by decide) h0), fun h0 => HV.out.k32 (getD_dn (by decide) h0), fun h0 => HV.out.k33 (getD_dn (by decide) h0), fun h0 => HV.out.k34 (getD_dn (by decide) h0), fun h0 => HV.out.k36 (getD_dn (by decide) h0), fun h0 => HV.out.k37 (getD_dn (by decide) h0), fun h0 => HV.out.k38 (getD_dn (by decide) h0), fun h0 => HV.out.r35 (getD_dn (by decide) h0), HV.out.g, HV.out.d, HV.out.c, HV.out.e⟩⟩
          · simp at ho
            subst ho
            have h6x : L.getD 6 false = true := hall { on := 6, ground := Ground.data } (by simp) (by decide)
            have h2x : L.getD 2 false = true := hall { on := 2, ground := Ground.guard } (by simp) (by decide)
            have H6 := Lib.hid h6x
            have H2 := Lib.hid h2x
            clear hall hi h6x h2x
            have e0 := HV.out.k6 H6.out
            subst e0
            have e1 := HV.out.k2 H2.out
            subst e1
            refine wpOp_step rfl (fun K' hK' => ?_)
            have HK := Lib.hid hK'
            clear hK'
            go_simp
            exact HK.out _ _ ⟨by simp [HJ.out.sz], ⟨_, _, _, _, _, _, _, _, _, _, _, _, _, _, _, _, _, _, _, _, _, _, _, _, _, _, _, _, _, _, _, _, _, _, _, _, _, _, _, rfl, fun h0 => HV.out.k0 (getD_dn (by decide) h0), fun h0 => HV.out.k1 (getD_dn (by decide) h0), fun h0 => HV.out.k2 (getD_dn (by decide) h0), fun h0 => HV.out.k3 (getD_dn (by decide) h0), fun h0 => HV.out.k4 (getD_dn (by decide) h0), fun h0 => HV.out.k5 (getD_dn (by decide) h0), fun h0 => HV.out.k6 (getD_dn (by decide) h0), fun _ => rfl, fun h0 => HV.out.k8 (getD_dn (by decide) h0), fun h0 => HV.out.k9 (getD_dn (by decide) h0), fun h0 => HV.out.k10 (getD_dn (by decide) h0), fun h0 => HV.out.k11 (getD_dn (by decide) h0), fun h0 => HV.out.k12 (getD_dn (by decide) h0), fun h0 => HV.out.k13 (getD_dn (by decide) h0), fun h0 => HV.out.k14 (getD_dn (by decide) h0), fun h0 => HV.out.k15 (getD_dn (by decide) h0), fun h0 => HV.out.k16 (getD_dn (by decide) h0), fun h0 => HV.out.k17 (getD_dn (by decide) h0), fun h0 => HV.out.k18 (getD_dn (by decide) h0), fun h0 => HV.out.k19 (getD_dn (by decide) h0), fun h0 => HV.out.k20 (getD_dn (by decide) h0), fun h0 => HV.out.k21 (getD_dn (by decide) h0), fun h0 => HV.out.k22 (getD_dn (by decide) h0), fun h0 => HV.out.k23 (getD_dn (by decide) h0), fun h0 => HV.out.k24 (getD_dn (by decide) h0), fun h0 => HV.out.k25 (getD_dn (by decide) h0), fun h0 => HV.out.k26 (getD_dn (by decide) h0), fun h0 => HV.out.k27 (getD_dn (by decide) h0), fun h0 => HV.out.k28 (getD_dn (by decide) h0), fun h0 => HV.out.k29 (getD_dn (by decide) h0), fun h0 => HV.out.k30 (getD_dn (by decide) h0), fun h0 => HV.out.k31 (getD_dn (by decide) h0), fun h0 => HV.out.k32 (getD_dn (by decide) h0), fun h0 => HV.out.k33 (getD_dn (by decide) h0), fun h0 => HV.out.k34 (getD_dn (by decide) h0), fun h0 => HV.out.k36 (getD_dn (by decide) h0), fun h0 => HV.out.k37 (getD_dn (by decide) h0), fun h0 => HV.out.k38 (getD_dn (by decide) h0), fun h0 => HV.out.r35 (getD_dn (by decide) h0), HV.out.g, HV.out.d, HV.out.c, HV.out.e⟩⟩
          · simp at ho
            subst ho
            have h7x : L.getD 7 false = true := hall { on := 7, ground := Ground.data } (by simp) (by decide)
            have h2x : L.getD 2 false = true := hall { on := 2, ground := Ground.guard } (by simp) (by decide)
            have H7 := Lib.hid h7x
            have H2 := Lib.hid h2x
            clear hall hi h7x h2x
            have e0 := HV.out.k7 H7.out
            subst e0
            have e1 := HV.out.k2 H2.out
            subst e1
            obtain ⟨m0, m1, m2⟩ := HV.out.c; have d0 := HV.out.e
            refine wpOp_step rfl (fun K' hK' => ?_)
            have HK := Lib.hid hK'
            clear hK'
            go_simp
            exact HK.out _ _ ⟨by simp [HJ.out.sz], ⟨_, _, _, _, _, _, _, _, _, _, _, _, _, _, _, _, _, _, _, _, _, _, _, _, _, _, _, _, _, _, _, _, _, _, _, _, _, _, _, rfl, fun h0 => HV.out.k0 (getD_dn (by decide) h0), fun h0 => HV.out.k1 (getD_dn (by decide) h0), fun h0 => HV.out.k2 (getD_dn (by decide) h0), fun h0 => HV.out.k3 (getD_dn (by decide) h0), fun h0 => HV.out.k4 (getD_dn (by decide) h0), fun h0 => HV.out.k5 (getD_dn (by decide) h0), fun h0 => HV.out.k6 (getD_dn (by decide) h0), fun h0 => HV.out.k7 (getD_dn (by decide) h0), fun _ => rfl, fun h0 => HV.out.k9 (getD_dn (by decide) h0), fun h0 => HV.out.k10 (getD_dn (by decide) h0), fun h0 => HV.out.k11 (getD_dn (by decide) h0), fun h0 => HV.out.k12 (getD_dn (by decide) h0), fun h0 => HV.out.k13 (getD_dn (by decide) h0), fun h0 => HV.out.k14 (getD_dn (by decide) h0), fun h0 => HV.out.k15 (getD_dn (by decide) h0), fun h0 => HV.out.k16 (getD_dn (by decide) h0), fun h0 => HV.out.k17 (getD_dn (by decide) h0), fun h0 => HV.out.k18 (getD_dn (by decide) h0), fun h0 => HV.out.k19 (getD_dn (by decide) h0), fun h0 => HV.out.k20 (getD_dn (by decide) h0), fun h0 => HV.out.k21 (getD_dn (by decide) h0), fun h0 => HV.out.k22 (getD_dn (by decide) h0), fun h0 => HV.out.k23 (getD_dn (by decide) h0), fun h0 => HV.out.k24 (getD_dn (by decide) h0), fun h0 => HV.out.k25 (getD_dn (by decide) h0), fun h0 => HV.out.k26 (getD_dn (by decide) h0), fun h0 => HV.out.k27 (getD_dn (by decide) h0), fun h0 => HV.out.k28 (getD_dn (by decide) h0), fun h0 => HV.out.k29 (getD_dn (by decide) h0), fun h0 => HV.out.k30 (getD_dn (by decide) h0), fun h0 => HV.out.k31 (getD_dn (by decide) h0), fun h0 => HV.out.k32 (getD_dn (by decide) h0), fun h0 => HV.out.k33 (getD_dn (by decide) h0), fun h0 => HV.out.k34 (getD_dn (by decide) h0), fun h0 => HV.out.k36 (getD_dn (by decide) h0), fun h0 => HV.out.k37 (getD_dn (by decide) h0), fun h0 => HV.out.k38 (getD_dn (by decide) h0), fun h0 => HV.out.r35 (getD_dn (by decide) h0), HV.out.g, HV.out.d, HV.out.c, HV.out.e⟩⟩
          · simp at ho
            subst ho
            have h2x : L.getD 2 false = true := hall { on := 2, ground := Ground.guard } (by simp) (by decide)
            have H2 := Lib.hid h2x
            clear hall hi h2x
            have e0 := HV.out.k2 H2.out
            subst e0
            refine wpOp_step rfl (fun K' hK' => ?_)
            have HK := Lib.hid hK'
            clear hK'
            go_simp
            exact HK.out _ _ ⟨by simp [HJ.out.sz], ⟨_, _, _, _, _, _, _, _, _, _, _, _, _, _, _, _, _, _, _, _, _, _, _, _, _, _, _, _, _, _, _, _, _, _, _, _, _, _, _, rfl, fun h0 => HV.out.k0 (getD_dn (by decide) h0), fun h0 => HV.out.k1 (getD_dn (by decide) h0), fun h0 => HV.out.k2 (getD_dn (by decide) h0), fun h0 => HV.out.k3 (getD_dn (by decide) h0), fun h0 => HV.out.k4 (getD_dn (by decide) h0), fun h0 => HV.out.k5 (getD_dn (by decide) h0), fun h0 => HV.out.k6 (getD_dn (by decide) h0), fun h0 => HV.out.k7 (getD_dn (by decide) h0), fun h0 => HV.out.k8 (getD_dn (by decide) h0), fun _ => rfl, fun h0 => HV.out.k10 (getD_dn (by decide) h0), fun h0 => HV.out.k11 (getD_dn (by decide) h0), fun h0 => HV.out.k12 (getD_dn (by decide) h0), fun h0 => HV.out.k13 (getD_dn (by decide) h0), fun h0 => HV.out.k14 (getD_dn (by decide) h0), fun h0 => HV.out.k15 (getD_dn (by decide) h0), fun h0 => HV.out.k16 (getD_dn (by decide) h0), fun h0 => HV.out.k17 (getD_dn (by decide) h0), fun h0 => HV.out.k18 (getD_dn (by decide) h0), fun h0 => HV.out.k19 (getD_dn (by decide) h0), fun h0 => HV.out.k20 (getD_dn (by decide) h0), fun h0 => HV.out.k21 (getD_dn (by decide) h0), fun h0 => HV.out.k22 (getD_dn (by decide) h0), fun h0 => HV.out.k23 (getD_dn (by decide) h0), fun h0 => HV.out.k24 (getD_dn (by decide) h0), fun h0 => HV.out.k25 (getD_dn (by decide) h0), fun h0 => HV.out.k26 (getD_dn (by decide) h0), fun h0 => HV.out.k27 (getD_dn (by decide) h0), fun h0 => HV.out.k28 (getD_dn (by decide) h0), fun h0 => HV.out.k29 (getD_dn (by decide) h0), fun h0 => HV.out.k30 (getD_dn (by decide) h0), fun h0 => HV.out.k31 (getD_dn (by decide) h0), fun h0 => HV.out.k32 (getD_dn (by decide) h0), fun h0 => HV.out.k33 (getD_dn (by decide) h0), fun h0 => HV.out.k34 (getD_dn (by decide) h0), fun h0 => HV.out.k36 (getD_dn (by decide) h0), fun h0 => HV.out.k37 (getD_dn (by decide) h0), fun h0 => HV.out.k38 (getD_dn (by decide) h0), fun h0 => HV.out.r35 (getD_dn (by decide) h0), HV.out.g, HV.out.d, HV.out.c, HV.out.e⟩⟩
          · simp at ho
            subst ho
            have h9x : L.getD 9 false = true := hall { on := 9, ground := Ground.data } (by simp) (by decide)
            have h2x : L.getD 2 false = true := hall { on := 2, ground := Ground.guard } (by simp) (by decide)
            have H9 := Lib.hid h9x
            have H2 := Lib.hid h2x
            clear hall hi h9x h2x
            have e0 := HV.out.k9 H9.out
            subst e0
            have e1 := HV.out.k2 H2.out
            subst e1
            obtain ⟨m0, m1, m2⟩ := HV.out.c; have d0 := HV.out.e
            refine wpOp_step rfl (fun K' hK' => ?_)
            have HK := Lib.hid hK'
            clear hK'
            go_simp
            exact HK.out _ _ ⟨by simp [HJ.out.sz], ⟨_, _, _, _, _, _, _, _, _, _, _, _, _, _, _, _, _, _, _, _, _, _, _, _, _, _, _, _, _, _, _, _, _, _, _, _, _, _, _, rfl, fun h0 => HV.out.k0 (getD_dn (by decide) h0), fun h0 => HV.out.k1 (getD_dn (by decide) h0), fun h0 => HV.out.k2 (getD_dn (by decide) h0), fun h0 => HV.out.k3 (getD_dn (by decide) h0), fun h0 => HV.out.k4 (getD_dn (by decide) h0), fun h0 => HV.out.k5 (getD_dn (by decide) h0), fun h0 => HV.out.k6 (getD_dn (by decide) h0), fun h0 => HV.out.k7 (getD_dn (by decide) h0), fun h0 => HV.out.k8 (getD_dn (by decide) h0), fun h0 => HV.out.k9 (getD_dn (by decide) h0), fun _ => rfl, fun h0 => HV.out.k11 (getD_dn (by decide) h0), fun h0 => HV.out.k12 (getD_dn (by decide) h0), fun h0 => HV.out.k13 (getD_dn (by decide) h0), fun h0 => HV.out.k14 (getD_dn (by decide) h0), fun h0 => HV.out.k15 (getD_dn (by decide) h0), fun h0 => HV.out.k16 (getD_dn (by decide) h0), fun h0 => HV.out.k17 (getD_dn (by decide) h0), fun h0 => HV.out.k18 (getD_dn (by decide) h0), fun h0 => HV.out.k19 (getD_dn (by decide) h0), fun h0 => HV.out.k20 (getD_dn (by decide) h0), fun h0 => HV.out.k21 (getD_dn (by decide) h0), fun h0 => HV.out.k22 (getD_dn (by decide) h0), fun h0 => HV.out.k23 (getD_dn (by decide) h0), fun h0 => HV.out.k24 (getD_dn (by decide) h0), fun h0 => HV.out.k25 (getD_dn (by decide) h0), fun h0 => HV.out.k26 (getD_dn (by decide) h0), fun h0 => HV.out.k27 (getD_dn (by decide) h0), fun h0 => HV.out.k28 (getD_dn (by decide) h0), fun h0 => HV.out.k29 (getD_dn (by decide) h0), fun h0 => HV.out.k30 (getD_dn (by decide) h0), fun h0 => HV.out.k31 (getD_dn (by decide) h0), fun h0 => HV.out.k32 (getD_dn (by decide) h0), fun h0 => HV.out.k33 (getD_dn (by decide) h0), fun h0 => HV.out.k34 (getD_dn (by decide) h0), fun h0 => HV.out.k36 (getD_dn (by decide) h0), fun h0 => HV.out.k37 (getD_dn (by decide) h0), fun h0 => HV.out.k38 (getD_dn (by decide) h0), fun h0 => HV.out.r35 (getD_dn (by decide) h0), HV.out.g, HV.out.d, HV.out.c, HV.out.e⟩⟩
          · simp at ho
            subst ho
            have h8x : L.getD 8 false = true := hall { on := 8, ground := Ground.data } (by simp) (by decide)
            have h10x : L.getD 10 false = true := hall { on := 10, ground := Ground.data } (by simp) (by decide)
            have h2x : L.getD 2 false = true := hall { on := 2, ground := Ground.guard } (by simp) (by decide)
            have H8 := Lib.hid h8x
            have H10 := Lib.hid h10x
            have H2 := Lib.hid h2x
            clear hall hi h8x h10x h2x
            have e0 := HV.out.k8 H8.out
            subst e0
            have e1 := HV.out.k10 H10.out
            subst e1
            have e2 := HV.out.k2 H2.out
            subst e2
            have hab := HAB.out
            refine wpOp_step rfl (fun K' hK' => ?_)
            have HK := Lib.hid hK'
            clear hK'
            go_simp
            exact HK.out _ _ ⟨by simp [HJ.out.sz], ⟨_, _, _, _, _, _, _, _, _, _, _, _, _, _, _, _, _, _, _, _, _, _, _, _, _, _, _, _, _, _, _, _, _, _, _, _, _, _, _, rfl, fun h0 => HV.out.k0 (getD_dn (by decide) h0), fun h0 => HV.out.k1 (getD_dn (by decide) h0), fun h0 => HV.out.k2 (getD_dn (by decide) h0), fun h0 => HV.out.k3 (getD_dn (by decide) h0), fun h0 => HV.out.k4 (getD_dn (by decide) h0), fun h0 => HV.out.k5 (getD_dn (by decide) h0), fun h0 => HV.out.k6 (getD_dn (by decide) h0), fun h0 => HV.out.k7 (getD_dn (by decide) h0), fun h0 => HV.out.k8 (getD_dn (by decide) h0), fun h0 => HV.out.k9 (getD_dn (by decide) h0), fun h0 => HV.out.k10 (getD_dn (by decide) h0), fun _ => rfl, fun h0 => HV.out.k12 (getD_dn (by decide) h0), fun h0 => HV.out.k13 (getD_dn (by decide) h0), fun h0 => HV.out.k14 (getD_dn (by decide) h0), fun h0 => HV.out.k15 (getD_dn (by decide) h0), fun h0 => HV.out.k16 (getD_dn (by decide) h0), fun h0 => HV.out.k17 (getD_dn (by decide) h0), fun h0 => HV.out.k18 (getD_dn (by decide) h0), fun h0 => HV.out.k19 (getD_dn (by decide) h0), fun h0 => HV.out.k20 (getD_dn (by decide) h0), fun h0 => HV.out.k21 (getD_dn (by decide) h0), fun h0 => HV.out.k22 (getD_dn (by decide) h0), fun h0 => HV.out.k23 (getD_dn (by decide) h0), fun h0 => HV.out.k24 (getD_dn (by decide) h0), fun h0 => HV.out.k25 (getD_dn (by decide) h0), fun h0 => HV.out.k26 (getD_dn (by decide) h0), fun h0 => HV.out.k27 (getD_dn (by decide) h0), fun h0 => HV.out.k28 (getD_dn (by decide) h0), fun h0 => HV.out.k29 (getD_dn (by decide) h0), fun h0 => HV.out.k30 (getD_dn (by decide) h0), fun h0 => HV.out.k31 (getD_dn (by decide) h0), fun h0 => HV.out.k32 (getD_dn (by decide) h0), fun h0 => HV.out.k33 (getD_dn (by decide) h0), fun h0 => HV.out.k34 (getD_dn (by decide) h0), fun h0 => HV.out.k36 (getD_dn (by decide) h0), fun h0 => HV.out.k37 (getD_dn (by decide) h0), fun h0 => HV.out.k38 (getD_dn (by decide) h0), fun h0 => HV.out.r35 (getD_dn (by decide) h0), HV.out.g, HV.out.d, HV.out.c, HV.out.e⟩⟩
          · simp at ho
            subst ho
            have h2x : L.getD 2 false = true := hall { on := 2, ground := Ground.data } (by simp) (by decide)
            have h11x : L.getD 11 false = true := hall { on := 11, ground := Ground.data } (by simp) (by decide)
            have H2 := Lib.hid h2x
            have H11 := Lib.hid h11x
            clear hall hi h2x h11x
            have e0 := HV.out.k2 H2.out
            subst e0
            have e1 := HV.out.k11 H11.out
            subst e1
            refine wpOp_step rfl (fun K' hK' => ?_)
            have HK := Lib.hid hK'
            clear hK'
            go_simp
            exact HK.out _ _ ⟨by simp [HJ.out.sz], ⟨_, _, _, _, _, _, _, _, _, _, _, _, _, _, _, _, _, _, _, _, _, _, _, _, _, _, _, _, _, _, _, _, _, _, _, _, _, _, _, rfl, fun h0 => HV.out.k0 (getD_dn (by decide) h0), fun h0 => HV.out.k1 (getD_dn (by decide) h0), fun h0 => HV.out.k2 (getD_dn (by decide) h0), fun h0 => HV.out.k3 (getD_dn (by decide) h0), fun h0 => HV.out.k4 (getD_dn (by decide) h0), fun h0 => HV.out.k5 (getD_dn (by decide) h0), fun h0 => HV.out.k6 (getD_dn (by decide) h0), fun h0 => HV.out.k7 (getD_dn (by decide) h0), fun h0 => HV.out.k8 (getD_dn (by decide) h0), fun h0 => HV.out.k9 (getD_dn (by decide) h0), fun h0 => HV.out.k10 (getD_dn (by decide) h0), fun h0 => HV.out.k11 (getD_dn (by decide) h0), fun _ => rfl, fun h0 => HV.out.k13 (getD_dn (by decide) h0), fun h0 => HV.out.k14 (getD_dn (by decide) h0), fun h0 => HV.out.k15 (getD_dn (by decide) h0), fun h0 => HV.out.k16 (getD_dn (by decide) h0), fun h0 => HV.out.k17 (getD_dn (by decide) h0), fun h0 => HV.out.k18 (getD_dn (by decide) h0), fun h0 => HV.out.k19 (getD_dn (by decide) h0), fun h0 => HV.out.k20 (getD_dn (by decide) h0), fun h0 => HV.out.k21 (getD_dn (by decide) h0), fun h0 => HV.out.k22 (getD_dn (by decide) h0), fun h0 => HV.out.k23 (getD_dn (by decide) h0), fun h0 => HV.out.k24 (getD_dn (by decide) h0), fun h0 => HV.out.k25 (getD_dn (by decide) h0), fun h0 => HV.out.k26 (getD_dn (by decide) h0), fun h0 => HV.out.k27 (getD_dn (by decide) h0), fun h0 => HV.out.k28 (getD_dn (by decide) h0), fun h0 => HV.out.k29 (getD_dn (by decide) h0), fun h0 => HV.out.k30 (getD_dn (by decide) h0), fun h0 => HV.out.k31 (getD_dn (by decide) h0), fun h0 => HV.out.k32 (getD_dn (by decide) h0), fun h0 => HV.out.k33 (getD_dn (by decide) h0), fun h0 => HV.out.k34 (getD_dn (by decide) h0), fun h0 => HV.out.k36 (getD_dn (by decide) h0), fun h0 => HV.out.k37 (getD_dn (by decide) h0), fun h0 => HV.out.k38 (getD_dn (by decide) h0), fun h0 => HV.out.r35 (getD_dn (by decide) h0), HV.out.g, HV.out.d, HV.out.c, HV.out.e⟩⟩
          · simp at ho
            subst ho
            have h12x : L.getD 12 false = true := hall { on := 12, ground := Ground.data } (by simp) (by decide)
            have H12 := Lib.hid h12x
            clear hall hi h12x
            have e0 := HV.out.k12 H12.out
            subst e0
            refine wpOp_step rfl (fun K' hK' => ?_)
            have HK := Lib.hid hK'
            clear hK'
            go_simp
            exact HK.out _ _ ⟨by simp [HJ.out.sz], ⟨_, _, _, _, _, _, _, _, _, _, _, _, _, _, _, _, _, _, _, _, _, _, _, _, _, _, _, _, _, _, _, _, _, _, _, _, _, _, _, rfl, fun h0 => HV.out.k0 (getD_dn (by decide) h0), fun h0 => HV.out.k1 (getD_dn (by decide) h0), fun h0 => HV.out.k2 (getD_dn (by decide) h0), fun h0 => HV.out.k3 (getD_dn (by decide) h0), fun h0 => HV.out.k4 (getD_dn (by decide) h0), fun h0 => HV.out.k5 (getD_dn (by decide) h0), fun h0 => HV.out.k6 (getD_dn (by decide) h0), fun h0 => HV.out.k7 (getD_dn (by decide) h0), fun h0 => HV.out.k8 (getD_dn (by decide) h0), fun h0 => HV.out.k9 (getD_dn (by decide) h0), fun h0 => HV.out.k10 (getD_dn (by decide) h0), fun h0 => HV.out.k11 (getD_dn (by decide) h0), fun h0 => HV.out.k12 (getD_dn (by decide) h0), fun _ => rfl, fun h0 => HV.out.k14 (getD_dn (by decide) h0), fun h0 => HV.out.k15 (getD_dn (by decide) h0), fun h0 => HV.out.k16 (getD_dn (by decide) h0), fun h0 => HV.out.k17 (getD_dn (by decide) h0), fun h0 => HV.out.k18 (getD_dn (by decide) h0), fun h0 => HV.out.k19 (getD_dn (by decide) h0), fun h0 => HV.out.k20 (getD_dn (by decide) h0), fun h0 => HV.out.k21 (getD_dn (by decide) h0), fun h0 => HV.out.k22 (getD_dn (by decide) h0), fun h0 => HV.out.k23 (getD_dn (by decide) h0), fun h0 => HV.out.k24 (getD_dn (by decide) h0), fun h0 => HV.out.k25 (getD_dn (by decide) h0), fun h0 => HV.out.k26 (getD_dn (by decide) h0), fun h0 => HV.out.k27 (getD_dn (by decide) h0), fun h0 => HV.out.k28 (getD_dn (by decide) h0), fun h0 => HV.out.k29 (getD_dn (by decide) h0), fun h0 => HV.out.k30 (getD_dn (by decide) h0), fun h0 => HV.out.k31 (getD_dn (by decide) h0), fun h0 => HV.out.k32 (getD_dn (by decide) h0), fun h0 => HV.out.k33 (getD_dn (by decide) h0), fun h0 => HV.out.k34 (getD_dn (by decide) h0), fun h0 => HV.out.k36 (getD_dn (by decide) h0), fun h0 => HV.out.k37 (getD_dn (by decide) h0), fun h0 => HV.out.k38 (getD_dn (by decide) h0), fun h0 => HV.out.r35 (getD_dn (by decide) h0), HV.out.g, HV.out.d, HV.out.c, HV.out.e⟩⟩
          · simp at ho
            subst ho
            have h13x : L.getD 13 false = true := hall { on := 13, ground := Ground.guard } (by simp) (by decide)
            have H13 := Lib.hid h13x
            clear hall hi h13x
            have e0 := HV.out.k13 H13.out
            subst e0
            refine wpOp_step rfl (fun K' hK' => ?_)
            have HK := Lib.hid hK'
            clear hK'
            go_simp
            exact HK.out _ _ ⟨by simp [HJ.out.sz], ⟨_, _, _, _, _, _, _, _, _, _, _, _, _, _, _, _, _, _, _, _, _, _, _, _, _, _, _, _, _, _, _, _, _, _, _, _, _, _, _, rfl, fun h0 => HV.out.k0 (getD_dn (by decide) h0), fun h0 => HV.out.k1 (getD_dn (by decide) h0), fun h0 => HV.out.k2 (getD_dn (by decide) h0), fun h0 => HV.out.k3 (getD_dn (by decide) h0), fun h0 => HV.out.k4 (getD_dn (by decide) h0), fun h0 => HV.out.k5 (getD_dn (by decide) h0), fun h0 => HV.out.k6 (getD_dn (by decide) h0), fun h0 => HV.out.k7 (getD_dn (by decide) h0), fun h0 => HV.out.k8 (getD_dn (by decide) h0), fun h0 => HV.out.k9 (getD_dn (by decide) h0), fun h0 => HV.out.k10 (getD_dn (by decide) h0), fun h0 => HV.out.k11 (getD_dn (by decide) h0), fun h0 => HV.out.k12 (getD_dn (by decide) h0), fun h0 => HV.out.k13 (getD_dn (by decide) h0), fun _ => rfl, fun h0 => HV.out.k15 (getD_dn (by decide) h0), fun h0 => HV.out.k16 (getD_dn (by decide) h0), fun h0 => HV.out.k17 (getD_dn (by decide) h0), fun h0 => HV.out.k18 (getD_dn (by decide) h0), fun h0 => HV.out.k19 (getD_dn (by decide) h0), fun h0 => HV.out.k20 (getD_dn (by decide) h0), fun h0 => HV.out.k21 (getD_dn (by decide) h0), fun h0 => HV.out.k22 (getD_dn (by decide) h0), fun h0 => HV.out.k23 (getD_dn (by decide) h0), fun h0 => HV.out.k24 (getD_dn (by decide) h0), fun h0 => HV.out.k25 (getD_dn (by decide) h0), fun h0 => HV.out.k26 (getD_dn (by decide) h0), fun h0 => HV.out.k27 (getD_dn (by decide) h0), fun h0 => HV.out.k28 (getD_dn (by decide) h0), fun h0 => HV.out.k29 (getD_dn (by decide) h0), fun h0 => HV.out.k30 (getD_dn (by decide) h0), fun h0 => HV.out.k31 (getD_dn (by decide) h0), fun h0 => HV.out.k32 (getD_dn (by decide) h0), fun h0 => HV.out.k33 (getD_dn (by decide) h0), fun h0 => HV.out.k34 (getD_dn (by decide) h0), fun h0 => HV.out.k36 (getD_dn (by decide) h0), fun h0 => HV.out.k37 (getD_dn (by decide) h0), fun h0 => HV.out.k38 (getD_dn (by decide) h0), fun h0 => HV.out.r35 (getD_dn (by decide) h0), HV.out.g, HV.out.d, HV.out.c, HV.out.e⟩⟩
          · simp at ho
            subst ho
            have h14x : L.getD 14 false = true := hall { on := 14, ground := Ground.data } (by simp) (by decide)
            have h13x : L.getD 13 false = true := hall { on := 13, ground := Ground.guard } (by simp) (by decide)
            have H14 := Lib.hid h14x
            have H13 := Lib.hid h13x
            clear hall hi h14x h13x
            have e0 := HV.out.k14 H14.out
            subst e0
            have e1 := HV.out.k13 H13.out
            subst e1
            refine wpOp_step rfl (fun K' hK' => ?_)
            have HK := Lib.hid hK'
            clear hK'
            go_simp
            exact HK.out _ _ ⟨by simp [HJ.out.sz], ⟨_, _, _, _, _, _, _, _, _, _, _, _, _, _, _, _, _, _, _, _, _, _, _, _, _, _, _, _, _, _, _, _, _, _, _, _, _, _, _, rfl, fun h0 => HV.out.k0 (getD_dn (by decide) h0), fun h0 => HV.out.k1 (getD_dn (by decide) h0), fun h0 => HV.out.k2 (getD_dn (by decide) h0), fun h0 => HV.out.k3 (getD_dn (by decide) h0), fun h0 => HV.out.k4 (getD_dn (by decide) h0), fun h0 => HV.out.k5 (getD_dn (by decide) h0), fun h0 => HV.out.k6 (getD_dn (by decide) h0), fun h0 => HV.out.k7 (getD_dn (by decide) h0), fun h0 => HV.out.k8 (getD_dn (by decide) h0), fun h0 => HV.out.k9 (getD_dn (by decide) h0), fun h0 => HV.out.k10 (getD_dn (by decide) h0), fun h0 => HV.out.k11 (getD_dn (by decide) h0), fun h0 => HV.out.k12 (getD_dn (by decide) h0), fun h0 => HV.out.k13 (getD_dn (by decide) h0), fun h0 => HV.out.k14 (getD_dn (by decide) h0), fun _ => rfl, fun h0 => HV.out.k16 (getD_dn (by decide) h0), fun h0 => HV.out.k17 (getD_dn (by decide) h0), fun h0 => HV.out.k18 (getD_dn (by decide) h0), fun h0 => HV.out.k19 (getD_dn (by decide) h0), fun h0 => HV.out.k20 (getD_dn (by decide) h0), fun h0 => HV.out.k21 (getD_dn (by decide) h0), fun h0 => HV.out.k22 (getD_dn (by decide) h0), fun h0 => HV.out.k23 (getD_dn (by decide) h0), fun h0 => HV.out.k24 (getD_dn (by decide) h0), fun h0 => HV.out.k25 (getD_dn (by decide) h0), fun h0 => HV.out.k26 (getD_dn (by decide) h0), fun h0 => HV.out.k27 (getD_dn (by decide) h0), fun h0 => HV.out.k28 (getD_dn (by decide) h0), fun h0 => HV.out.k29 (getD_dn (by decide) h0), fun h0 => HV.out.k30 (getD_dn (by decide) h0), fun h0 => HV.out.k31 (getD_dn (by decide) h0), fun h0 => HV.out.k32 (getD_dn (by decide) h0), fun h0 => HV.out.k33 (getD_dn (by decide) h0), fun h0 => HV.out.k34 (getD_dn (by decide) h0), fun h0 => HV.out.k36 (getD_dn (by decide) h0), fun h0 => HV.out.k37 (getD_dn (by decide) h0), fun h0 => HV.out.k38 (getD_dn (by decide) h0), fun h0 => HV.out.r35 (getD_dn (by decide) h0), HV.out.g, HV.out.d, HV.out.c, HV.out.e⟩⟩
          · simp at ho
            subst ho
            have h15x : L.getD 15 false = true := hall { on := 15, ground := Ground.data } (by simp) (by decide)
            have h13x : L.getD 13 false = true := hall { on := 13, ground := Ground.guard } (by simp) (by decide)
            have H15 := Lib.hid h15x
            have H13 := Lib.hid h13x
            clear hall hi h15x h13x
            have e0 := HV.out.k15 H15.out
            subst e0
            have e1 := HV.out.k13 H13.out
            subst e1
            have t0 := HT0.out.1; have t0' := HT0.out.2
            refine wpOp_step rfl (fun K' hK' => ?_)
            have HK := Lib.hid hK'
            clear hK'
            go_simp
            exact HK.out _ _ ⟨by simp [HJ.out.sz], ⟨_, _, _, _, _, _, _, _, _, _, _, _, _, _, _, _, _, _, _, _, _, _, _, _, _, _, _, _, _, _, _, _, _, _, _, _, _, _, _, rfl, fun h0 => HV.out.k0 (getD_dn (by decide) h0), fun h0 => HV.out.k1 (getD_dn (by decide) h0), fun h0 => HV.out.k2 (getD_dn (by decide) h0), fun h0 => HV.out.k3 (getD_dn (by decide) h0), fun h0 => HV.out.k4 (getD_dn (by decide) h0), fun h0 => HV.out.k5 (getD_dn (by decide) h0), fun h0 => HV.out.k6 (getD_dn (by decide) h0), fun h0 => HV.out.k7 (getD_dn (by decide) h0), fun h0 => HV.out.k8 (getD_dn (by decide) h0), fun h0 => HV.out.k9 (getD_dn (by decide) h0), fun h0 => HV.out.k10 (getD_dn (by decide) h0), fun h0 => HV.out.k11 (getD_dn (by decide) h0), fun h0 => HV.out.k12 (getD_dn (by decide) h0), fun h0 => HV.out.k13 (getD_dn (by decide) h0), fun h0 => HV.out.k14 (getD_dn (by decide) h0), fun h0 => HV.out.k15 (getD_dn (by decide) h0), fun _ => rfl, fun h0 => HV.out.k17 (getD_dn (by decide) h0), fun h0 => HV.out.k18 (getD_dn (by decide) h0), fun h0 => HV.out.k19 (getD_dn (by decide) h0), fun h0 => HV.out.k20 (getD_dn (by decide) h0), fun h0 => HV.out.k21 (getD_dn (by decide) h0), fun h0 => HV.out.k22 (getD_dn (by decide) h0), fun h0 => HV.out.k23 (getD_dn (by decide) h0), fun h0 => HV.out.k24 (getD_dn (by decide) h0), fun h0 => HV.out.k25 (getD_dn (by decide) h0), fun h0 => HV.out.k26 (getD_dn (by decide) h0), fun h0 => HV.out.k27 (getD_dn (by decide) h0), fun h0 => HV.out.k28 (getD_dn (by decide) h0), fun h0 => HV.out.k29 (getD_dn (by decide) h0), fun h0 => HV.out.k30 (getD_dn (by decide) h0), fun h0 => HV.out.k31 (getD_dn (by decide) h0), fun h0 => HV.out.k32 (getD_dn (by decide) h0), fun h0 => HV.out.k33 (getD_dn (by decide) h0), fun h0 => HV.out.k34 (getD_dn (by decide) h0), fun h0 => HV.out.k36 (getD_dn (by decide) h0), fun h0 => HV.out.k37 (getD_dn (by decide) h0), fun h0 => HV.out.k38 (getD_dn (by decide) h0), fun h0 => HV.out.r35 (getD_dn (by decide) h0), HV.out.g, HV.out.d, HV.out.c, HV.out.e⟩⟩
          · simp at ho
            subst ho
            have h13x : L.getD 13 false = true := hall { on := 13, ground := Ground.data } (by simp) (by decide)
            have h16x : L.getD 16 false = true := hall { on := 16, ground := Ground.data } (by simp) (by decide)
            have H13 := Lib.hid h13x
            have H16 := Lib.hid h16x
            clear hall hi h13x h16x
            have e0 := HV.out.k13 H13.out
            subst e0
            have e1 := HV.out.k16 H16.out
            subst e1
            refine wpOp_step rfl (fun K' hK' => ?_)
            have HK := Lib.hid hK'
            clear hK'
            go_simp
            exact HK.out _ _ ⟨by simp [HJ.out.sz], ⟨_, _, _, _, _, _, _, _, _, _, _, _, _, _, _, _, _, _, _, _, _, _, _, _, _, _, _, _, _, _, _, _, _, _, _, _, _, _, _, rfl, fun h0 => HV.out.k0 (getD_dn (by decide) h0), fun h0 => HV.out.k1 (getD_dn (by decide) h0), fun h0 => HV.out.k2 (getD_dn (by decide) h0), fun h0 => HV.out.k3 (getD_dn (by decide) h0), fun h0 => HV.out.k4 (getD_dn (by decide) h0), fun h0 => HV.out.k5 (getD_dn (by decide) h0), fun h0 => HV.out.k6 (getD_dn (by decide) h0), fun h0 => HV.out.k7 (getD_dn (by decide) h0), fun h0 => HV.out.k8 (getD_dn (by decide) h0), fun h0 => HV.out.k9 (getD_dn (by decide) h0), fun h0 => HV.out.k10 (getD_dn (by decide) h0), fun h0 => HV.out.k11 (getD_dn (by decide) h0), fun h0 => HV.out.k12 (getD_dn (by decide) h0), fun h0 => HV.out.k13 (getD_dn (by decide) h0), fun h0 => HV.out.k14 (getD_dn (by decide) h0), fun h0 => HV.out.k15 (getD_dn (by decide) h0), fun h0 => HV.out.k16 (getD_dn (by decide) h0), fun _ => rfl, fun h0 => HV.out.k18 (getD_dn (by decide) h0), fun h0 => HV.out.k19 (getD_dn (by decide) h0), fun h0 => HV.out.k20 (getD_dn (by decide) h0), fun h0 => HV.out.k21 (getD_dn (by decide) h0), fun h0 => HV.out.k22 (getD_dn (by decide) h0), fun h0 => HV.out.k23 (getD_dn (by decide) h0), fun h0 => HV.out.k24 (getD_dn (by decide) h0), fun h0 => HV.out.k25 (getD_dn (by decide) h0), fun h0 => HV.out.k26 (getD_dn (by decide) h0), fun h0 => HV.out.k27 (getD_dn (by decide) h0), fun h0 => HV.out.k28 (getD_dn (by decide) h0), fun h0 => HV.out.k29 (getD_dn (by decide) h0), fun h0 => HV.out.k30 (getD_dn (by decide) h0), fun h0 => HV.out.k31 (getD_dn (by decide) h0), fun h0 => HV.out.k32 (getD_dn (by decide) h0), fun h0 => HV.out.k33 (getD_dn (by decide) h0), fun h0 => HV.out.k34 (getD_dn (by decide) h0), fun h0 => HV.out.k36 (getD_dn (by decide) h0), fun h0 => HV.out.k37 (getD_dn (by decide) h0), fun h0 => HV.out.k38 (getD_dn (by decide) h0), fun h0 => HV.out.r35 (getD_dn (by decide) h0), HV.out.g, HV.out.d, HV.out.c, HV.out.e⟩⟩
          · simp at ho
            subst ho
            have h17x : L.getD 17 false = true := hall { on := 17, ground := Ground.data } (by simp) (by decide)
            have H17 := Lib.hid h17x
            clear hall hi h17x
            have e0 := HV.out.k17 H17.out
            subst e0
            refine wpOp_step rfl (fun K' hK' => ?_)
            have HK := Lib.hid hK'
            clear hK'
            go_simp
            exact HK.out _ _ ⟨by simp [HJ.out.sz], ⟨_, _, _, _, _, _, _, _, _, _, _, _, _, _, _, _, _, _, _, _, _, _, _, _, _, _, _, _, _, _, _, _, _, _, _, _, _, _, _, rfl, fun h0 => HV.out.k0 (getD_dn (by decide) h0), fun h0 => HV.out.k1 (getD_dn (by decide) h0), fun h0 => HV.out.k2 (getD_dn (by decide) h0), fun h0 => HV.out.k3 (getD_dn (by decide) h0), fun h0 => HV.out.k4 (getD_dn (by decide) h0), fun h0 => HV.out.k5 (getD_dn (by decide) h0), fun h0 => HV.out.k6 (getD_dn (by decide) h0), fun h0 => HV.out.k7 (getD_dn (by decide) h0), fun h0 => HV.out.k8 (getD_dn (by decide) h0), fun h0 => HV.out.k9 (getD_dn (by decide) h0), fun h0 => HV.out.k10 (getD_dn (by decide) h0), fun h0 => HV.out.k11 (getD_dn (by decide) h0), fun h0 => HV.out.k12 (getD_dn (by decide) h0), fun h0 => HV.out.k13 (getD_dn (by decide) h0), fun h0 => HV.out.k14 (getD_dn (by decide) h0), fun h0 => HV.out.k15 (getD_dn (by decide) h0), fun h0 => HV.out.k16 (getD_dn (by decide) h0), fun h0 => HV.out.k17 (getD_dn (by decide) h0), fun _ => rfl, fun h0 => HV.out.k19 (getD_dn (by decide) h0), fun h0 => HV.out.k20 (getD_dn (by decide) h0), fun h0 => HV.out.k21 (getD_dn (by decide) h0), fun h0 => HV.out.k22 (getD_dn (by decide) h0), fun h0 => HV.out.k23 (getD_dn (by decide) h0), fun h0 => HV.out.k24 (getD_dn (by decide) h0), fun h0 => HV.out.k25 (getD_dn (by decide) h0), fun h0 => HV.out.k26 (getD_dn (by decide) h0), fun h0 => HV.out.k27 (getD_dn (by decide) h0), fun h0 => HV.out.k28 (getD_dn (by decide) h0), fun h0 => HV.out.k29 (getD_dn (by decide) h0), fun h0 => HV.out.k30 (getD_dn (by decide) h0), fun h0 => HV.out.k31 (getD_dn (by decide) h0), fun h0 => HV.out.k32 (getD_dn (by decide) h0), fun h0 => HV.out.k33 (getD_dn (by decide) h0), fun h0 => HV.out.k34 (getD_dn (by decide) h0), fun h0 => HV.out.k36 (getD_dn (by decide) h0), fun h0 => HV.out.k37 (getD_dn (by decide) h0), fun h0 => HV.out.k38 (getD_dn (by decide) h0), fun h0 => HV.out.r35 (getD_dn (by decide) h0), HV.out.g, HV.out.d, HV.out.c, HV.out.e⟩⟩
          · simp at ho
            subst ho
            have h18x : L.getD 18 false = true := hall { on := 18, ground := Ground.guard } (by simp) (by decide)
            have H18 := Lib.hid h18x
            clear hall hi h18x
            have e0 := HV.out.k18 H18.out
            subst e0
            refine wpOp_step rfl (fun K' hK' => ?_)
            have HK := Lib.hid hK'
            clear hK'
            go_simp
            exact HK.out _ _ ⟨by simp [HJ.out.sz], ⟨_, _, _, _, _, _, _, _, _, _, _, _, _, _, _, _, _, _, _, _, _, _, _, _, _, _, _, _, _, _, _, _, _, _, _, _, _, _, _, rfl, fun h0 => HV.out.k0 (getD_dn (by decide) h0), fun h0 => HV.out.k1 (getD_dn (by decide) h0), fun h0 => HV.out.k2 (getD_dn (by decide) h0), fun h0 => HV.out.k3 (getD_dn (by decide) h0), fun h0 => HV.out.k4 (getD_dn (by decide) h0), fun h0 => HV.out.k5 (getD_dn (by decide) h0), fun h0 => HV.out.k6 (getD_dn (by decide) h0), fun h0 => HV.out.k7 (getD_dn (by decide) h0), fun h0 => HV.out.k8 (getD_dn (by decide) h0), fun h0 => HV.out.k9 (getD_dn (by decide) h0), fun h0 => HV.out.k10 (getD_dn (by decide) h0), fun h0 => HV.out.k11 (getD_dn (by decide) h0), fun h0 => HV.out.k12 (getD_dn (by decide) h0), fun h0 => HV.out.k13 (getD_dn (by decide) h0), fun h0 => HV.out.k14 (getD_dn (by decide) h0), fun h0 => HV.out.k15 (getD_dn (by decide) h0), fun h0 => HV.out.k16 (getD_dn (by decide) h0), fun h0 => HV.out.k17 (getD_dn (by decide) h0), fun h0 => HV.out.k18 (getD_dn (by decide) h0), fun _ => rfl, fun h0 => HV.out.k20 (getD_dn (by decide) h0), fun h0 => HV.out.k21 (getD_dn (by decide) h0), fun h0 => HV.out.k22 (getD_dn (by decide) h0), fun h0 => HV.out.k23 (getD_dn (by decide) h0), fun h0 => HV.out.k24 (getD_dn (by decide) h0), fun h0 => HV.out.k25 (getD_dn (by decide) h0), fun h0 => HV.out.k26 (getD_dn (by decide) h0), fun h0 => HV.out.k27 (getD_dn (by decide) h0), fun h0 => HV.out.k28 (getD_dn (by decide) h0), fun h0 => HV.out.k29 (getD_dn (by decide) h0), fun h0 => HV.out.k30 (getD_dn (by decide) h0), fun h0 => HV.out.k31 (getD_dn (by decide) h0), fun h0 => HV.out.k32 (getD_dn (by decide) h0), fun h0 => HV.out.k33 (getD_dn (by decide) h0), fun h0 => HV.out.k34 (getD_dn (by decide) h0), fun h0 => HV.out.k36 (getD_dn (by decide) h0), fun h0 => HV.out.k37 (getD_dn (by decide) h0), fun h0 => HV.out.k38 (getD_dn (by decide) h0), fun h0 => HV.out.r35 (getD_dn (by decide) h0), HV.out.g, HV.out.d, HV.out.c, HV.out.e⟩⟩
          · simp at ho
            subst ho
            have h18x : L.getD 18 false = true := hall { on := 18, ground := Ground.guard } (by simp) (by decide)
            have H18 := Lib.hid h18x
            clear hall hi h18x
            have e0 := HV.out.k18 H18.out
            subst e0
            refine wpOp_step rfl (fun K' hK' => ?_)
            have HK := Lib.hid hK'
            clear hK'
            go_simp
            exact HK.out _ _ ⟨by simp [HJ.out.sz], ⟨_, _, _, _, _, _, _, _, _, _, _, _, _, _, _, _, _, _, _, _, _, _, _, _, _, _, _, _, _, _, _, _, _, _, _, _, _, _, _, rfl, fun h0 => HV.out.k0 (getD_dn (by decide) h0), fun h0 => HV.out.k1 (getD_dn (by decide) h0), fun h0 => HV.out.k2 (getD_dn (by decide) h0), fun h0 => HV.out.k3 (getD_dn (by decide) h0), fun h0 => HV.out.k4 (getD_dn (by decide) h0), fun h0 => HV.out.k5 (getD_dn (by decide) h0), fun h0 => HV.out.k6 (getD_dn (by decide) h0), fun h0 => HV.out.k7 (getD_dn (by decide) h0), fun h0 => HV.out.k8 (getD_dn (by decide) h0), fun h0 => HV.out.k9 (getD_dn (by decide) h0), fun h0 => HV.out.k10 (getD_dn (by decide) h0), fun h0 => HV.out.k11 (getD_dn (by decide) h0), fun h0 => HV.out.k12 (getD_dn (by decide) h0), fun h0 => HV.out.k13 (getD_dn (by decide) h0), fun h0 => HV.out.k14 (getD_dn (by decide) h0), fun h0 => HV.out.k15 (getD_dn (by decide) h0), fun h0 => HV.out.k16 (getD_dn (by decide) h0), fun h0 => HV.out.k17 (getD_dn (by decide) h0), fun h0 => HV.out.k18 (getD_dn (by decide) h0), fun h0 => HV.out.k19 (getD_dn (by decide) h0), fun _ => rfl, fun h0 => HV.out.k21 (getD_dn (by decide) h0), fun h0 => HV.out.k22 (getD_dn (by decide) h0), fun h0 => HV.out.k23 (getD_dn (by decide) h0), fun h0 => HV.out.k24 (getD_dn (by decide) h0), fun h0 => HV.out.k25 (getD_dn (by decide) h0), fun h0 => HV.out.k26 (getD_dn (by decide) h0), fun h0 => HV.out.k27 (getD_dn (by decide) h0), fun h0 => HV.out.k28 (getD_dn (by decide) h0), fun h0 => HV.out.k29 (getD_dn (by decide) h0), fun h0 => HV.out.k30 (getD_dn (by decide) h0), fun h0 => HV.out.k31 (getD_dn (by decide) h0), fun h0 => HV.out.k32 (getD_dn (by decide) h0), fun h0 => HV.out.k33 (getD_dn (by decide) h0), fun h0 => HV.out.k34 (getD_dn (by decide) h0), fun h0 => HV.out.k36 (getD_dn (by decide) h0), fun h0 => HV.out.k37 (getD_dn (by decide) h0), fun h0 => HV.out.k38 (getD_dn (by decide) h0), fun h0 => HV.out.r35 (getD_dn (by decide) h0), HV.out.g, HV.out.d, HV.out.c, HV.out.e⟩⟩
          · simp at ho
            subst ho
            have h20x : L.getD 20 false = true := hall { on := 20, ground := Ground.data } (by simp) (by decide)
            have h18x : L.getD 18 false = true := hall { on := 18, ground := Ground.guard } (by simp) (by decide)
            have H20 := Lib.hid h20x
            have H18 := Lib.hid h18x
            clear hall hi h20x h18x
            have e0 := HV.out.k20 H20.out
            subst e0
            have e1 := HV.out.k18 H18.out
            subst e1
            obtain ⟨m0, m1, m2⟩ := HV.out.c; have d0 := HV.out.e
            refine wpOp_step rfl (fun K' hK' => ?_)
            have HK := Lib.hid hK'
            clear hK'
            go_simp
            exact HK.out _ _ ⟨by simp [HJ.out.sz], ⟨_, _, _, _, _, _, _, _, _, _, _, _, _, _, _, _, _, _, _, _, _, _, _, _, _, _, _, _, _, _, _, _, _, _, _, _, _, _, _, rfl, fun h0 => HV.out.k0 (getD_dn (by decide) h0), fun h0 => HV.out.k1 (getD_dn (by decide) h0), fun h0 => HV.out.k2 (getD_dn (by decide) h0), fun h0 => HV.out.k3 (getD_dn (by decide) h0), fun h0 => HV.out.k4 (getD_dn (by decide) h0), fun h0 => HV.out.k5 (getD_dn (by decide) h0), fun h0 => HV.out.k6 (getD_dn (by decide) h0), fun h0 => HV.out.k7 (getD_dn (by decide) h0), fun h0 => HV.out.k8 (getD_dn (by decide) h0), fun h0 => HV.out.k9 (getD_dn (by decide) h0), fun h0 => HV.out.k10 (getD_dn (by decide) h0), fun h0 => HV.out.k11 (getD_dn (by decide) h0), fun h0 => HV.out.k12 (getD_dn (by decide) h0), fun h0 => HV.out.k13 (getD_dn (by decide) h0), fun h0 => HV.out.k14 (getD_dn (by decide) h0), fun h0 => HV.out.k15 (getD_dn (by decide) h0), fun h0 => HV.out.k16 (getD_dn (by decide) h0), fun h0 => HV.out.k17 (getD_dn (by decide) h0), fun h0 => HV.out.k18 (getD_dn (by decide) h0), fun h0 => HV.out.k19 (getD_dn (by decide) h0), fun h0 => HV.out.k20 (getD_dn (by decide) h0), fun _ => rfl, fun h0 => HV.out.k22 (getD_dn (by decide) h0), fun h0 => HV.out.k23 (getD_dn (by decide) h0), fun h0 => HV.out.k24 (getD_dn (by decide) h0), fun h0 => HV.out.k25 (getD_dn (by decide) h0), fun h0 => HV.out.k26 (getD_dn (by decide) h0), fun h0 => HV.out.k27 (getD_dn (by decide) h0), fun h0 => HV.out.k28 (getD_dn (by decide) h0), fun h0 => HV.out.k29 (getD_dn (by decide) h0), fun h0 => HV.out.k30 (getD_dn (by decide) h0), fun h0 => HV.out.k31 (getD_dn (by decide) h0), fun h0 => HV.out.k32 (getD_dn (by decide) h0), fun h0 => HV.out.k33 (getD_dn (by decide) h0), fun h0 => HV.out.k34 (getD_dn (by decide) h0), fun h0 => HV.out.k36 (getD_dn (by decide) h0), fun h0 => HV.out.k37 (getD_dn (by decide) h0), fun h0 => HV.out.k38 (getD_dn (by decide) h0), fun h0 => HV.out.r35 (getD_dn (by decide) h0), HV.out.g, HV.out.d, HV.out.c, HV.out.e⟩⟩
          · simp at ho
            subst ho
            have h19x : L.getD 19 false = true := hall { on := 19, ground := Ground.data } (by simp) (by decide)
            have h21x : L.getD 21 false = true := hall { on := 21, ground := Ground.data } (by simp) (by decide)
            have h18x : L.getD 18 false = true := hall { on := 18, ground := Ground.guard } (by simp) (by decide)
            have H19 := Lib.hid h19x
            have H21 := Lib.hid h21x
            have H18 := Lib.hid h18x
            clear hall hi h19x h21x h18x
            have e0 := HV.out.k19 H19.out
            subst e0
            have e1 := HV.out.k21 H21.out
            subst e1
            have e2 := HV.out.k18 H18.out
            subst e2
            refine wpOp_step rfl (fun K' hK' => ?_)
            have HK := Lib.hid hK'
            clear hK'
            go_simp
            exact HK.out _ _ ⟨by simp [HJ.out.sz], ⟨_, _, _, _, _, _, _, _, _, _, _, _, _, _, _, _, _, _, _, _, _, _, _, _, _, _, _, _, _, _, _, _, _, _, _, _, _, _, _, rfl, fun h0 => HV.out.k0 (getD_dn (by decide) h0), fun h0 => HV.out.k1 (getD_dn (by decide) h0), fun h0 => HV.out.k2 (getD_dn (by decide) h0), fun h0 => HV.out.k3 (getD_dn (by decide) h0), fun h0 => HV.out.k4 (getD_dn (by decide) h0), fun h0 => HV.out.k5 (getD_dn (by decide) h0), fun h0 => HV.out.k6 (getD_dn (by decide) h0), fun h0 => HV.out.k7 (getD_dn (by decide) h0), fun h0 => HV.out.k8 (getD_dn (by decide) h0), fun h0 => HV.out.k9 (getD_dn (by decide) h0), fun h0 => HV.out.k10 (getD_dn (by decide) h0), fun h0 => HV.out.k11 (getD_dn (by decide) h0), fun h0 => HV.out.k12 (getD_dn (by decide) h0), fun h0 => HV.out.k13 (getD_dn (by decide) h0), fun h0 => HV.out.k14 (getD_dn (by decide) h0), fun h0 => HV.out.k15 (getD_dn (by decide) h0), fun h0 => HV.out.k16 (getD_dn (by decide) h0), fun h0 => HV.out.k17 (getD_dn (by decide) h0), fun h0 => HV.out.k18 (getD_dn (by decide) h0), fun h0 => HV.out.k19 (getD_dn (by decide) h0), fun h0 => HV.out.k20 (getD_dn (by decide) h0), fun h0 => HV.out.k21 (getD_dn (by decide) h0), fun _ => rfl, fun h0 => HV.out.k23 (getD_dn (by decide) h0), fun h0 => HV.out.k24 (getD_dn (by decide) h0), fun h0 => HV.out.k25 (getD_dn (by decide) h0), fun h0 => HV.out.k26 (getD_dn (by decide) h0), fun h0 => HV.out.k27 (getD_dn (by decide) h0), fun h0 => HV.out.k28 (getD_dn (by decide) h0), fun h0 => HV.out.k29 (getD_dn (by decide) h0), fun h0 => HV.out.k30 (getD_dn (by decide) h0), fun h0 => HV.out.k31 (getD_dn (by decide) h0), fun h0 => HV.out.k32 (getD_dn (by decide) h0), fun h0 => HV.out.k33 (getD_dn (by decide) h0), fun h0 => HV.out.k34 (getD_dn (by decide) h0), fun h0 => HV.out.k36 (getD_dn (by decide) h0), fun h0 => HV.out.k37 (getD_dn (by decide) h0), fun h0 => HV.out.k38 (getD_dn (by decide) h0), fun h0 => HV.out.r35 (getD_dn (by decide) h0), HV.out.g, HV.out.d, HV.out.c, HV.out.e⟩⟩
          · simp at ho
            subst ho
            have h18x : L.getD 18 false = true := hall { on := 18, ground := Ground.data } (by simp) (by decide)
            have h22x : L.getD 22 false = true := hall { on := 22, ground := Ground.data } (by simp) (by decide)
            have H18 := Lib.hid h18x
            have H22 := Lib.hid h22x
            clear hall hi h18x h22x
            have e0 := HV.out.k18 H18.out
            subst e0
            have e1 := HV.out.k22 H22.out
            subst e1
            refine wpOp_step rfl (fun K' hK' => ?_)
            have HK := Lib.hid hK'
            clear hK'
            go_simp
            exact HK.out _ _ ⟨by simp [HJ.out.sz], ⟨_, _, _, _, _, _, _, _, _, _, _, _, _, _, _, _, _, _, _, _, _, _, _, _, _, _, _, _, _, _, _, _, _, _, _, _, _, _, _, rfl, fun h0 => HV.out.k0 (getD_dn (by decide) h0), fun h0 => HV.out.k1 (getD_dn (by decide) h0), fun h0 => HV.out.k2 (getD_dn (by decide) h0), fun h0 => HV.out.k3 (getD_dn (by decide) h0), fun h0 => HV.out.k4 (getD_dn (by decide) h0), fun h0 => HV.out.k5 (getD_dn (by decide) h0), fun h0 => HV.out.k6 (getD_dn (by decide) h0), fun h0 => HV.out.k7 (getD_dn (by decide) h0), fun h0 => HV.out.k8 (getD_dn (by decide) h0), fun h0 => HV.out.k9 (getD_dn (by decide) h0), fun h0 => HV.out.k10 (getD_dn (by decide) h0), fun h0 => HV.out.k11 (getD_dn (by decide) h0), fun h0 => HV.out.k12 (getD_dn (by decide) h0), fun h0 => HV.out.k13 (getD_dn (by decide) h0), fun h0 => HV.out.k14 (getD_dn (by decide) h0), fun h0 => HV.out.k15 (getD_dn (by decide) h0), fun h0 => HV.out.k16 (getD_dn (by decide) h0), fun h0 => HV.out.k17 (getD_dn (by decide) h0), fun h0 => HV.out.k18 (getD_dn (by decide) h0), fun h0 => HV.out.k19 (getD_dn (by decide) h0), fun h0 => HV.out.k20 (getD_dn (by decide) h0), fun h0 => HV.out.k21 (getD_dn (by decide) h0), fun h0 => HV.out.k22 (getD_dn (by decide) h0), fun _ => rfl, fun h0 => HV.out.k24 (getD_dn (by decide) h0), fun h0 => HV.out.k25 (getD_dn (by decide) h0), fun h0 => HV.out.k26 (getD_dn (by decide) h0), fun h0 => HV.out.k27 (getD_dn (by decide) h0), fun h0 => HV.out.k28 (getD_dn (by decide) h0), fun h0 => HV.out.k29 (getD_dn (by decide) h0), fun h0 => HV.out.k30 (getD_dn (by decide) h0), fun h0 => HV.out.k31 (getD_dn (by decide) h0), fun h0 => HV.out.k32 (getD_dn (by decide) h0), fun h0 => HV.out.k33 (getD_dn (by decide) h0), fun h0 => HV.out.k34 (getD_dn (by decide) h0), fun h0 => HV.out.k36 (getD_dn (by decide) h0), fun h0 => HV.out.k37 (getD_dn (by decide) h0), fun h0 => HV.out.k38 (getD_dn (by decide) h0), fun h0 => HV.out.r35 (getD_dn (by decide) h0), HV.out.g, HV.out.d, HV.out.c, HV.out.e⟩⟩
          · simp at ho
            subst ho
            have h23x : L.getD 23 false = true := hall { on := 23, ground := Ground.data } (by simp) (by decide)
            have H23 := Lib.hid h23x
            clear hall hi h23x
            have e0 := HV.out.k23 H23.out
            subst e0
            refine wpOp_step rfl (fun K' hK' => ?_)
            have HK := Lib.hid hK'
            clear hK'
            go_simp
            exact HK.out _ _ ⟨by simp [HJ.out.sz], ⟨_, _, _, _, _, _, _, _, _, _, _, _, _, _, _, _, _, _, _, _, _, _, _, _, _, _, _, _, _, _, _, _, _, _, _, _, _, _, _, rfl, fun h0 => HV.out.k0 (getD_dn (by decide) h0), fun h0 => HV.out.k1 (getD_dn (by decide) h0), fun h0 => HV.out.k2 (getD_dn (by decide) h0), fun h0 => HV.out.k3 (getD_dn (by decide) h0), fun h0 => HV.out.k4 (getD_dn (by decide) h0), fun h0 => HV.out.k5 (getD_dn (by decide) h0), fun h0 => HV.out.k6 (getD_dn (by decide) h0), fun h0 => HV.out.k7 (getD_dn (by decide) h0), fun h0 => HV.out.k8 (getD_dn (by decide) h0), fun h0 => HV.out.k9 (getD_dn (by decide) h0), fun h0 => HV.out.k10 (getD_dn (by decide) h0), fun h0 => HV.out.k11 (getD_dn (by decide) h0), fun h0 => HV.out.k12 (getD_dn (by decide) h0), fun h0 => HV.out.k13 (getD_dn (by decide) h0), fun h0 => HV.out.k14 (getD_dn (by decide) h0), fun h0 => HV.out.k15 (getD_dn (by decide) h0), fun h0 => HV.out.k16 (getD_dn (by decide) h0), fun h0 => HV.out.k17 (getD_dn (by decide) h0), fun h0 => HV.out.k18 (getD_dn (by decide) h0), fun h0 => HV.out.k19 (getD_dn (by decide) h0), fun h0 => HV.out.k20 (getD_dn (by decide) h0), fun h0 => HV.out.k21 (getD_dn (by decide) h0), fun h0 => HV.out.k22 (getD_dn (by decide) h0), fun h0 => HV.out.k23 (getD_dn (by decide) h0), fun _ => rfl, fun h0 => HV.out.k25 (getD_dn (by decide) h0), fun h0 => HV.out.k26 (getD_dn (by decide) h0), fun h0 => HV.out.k27 (getD_dn (by decide) h0), fun h0 => HV.out.k28 (getD_dn (by decide) h0), fun h0 => HV.out.k29 (getD_dn (by decide) h0), fun h0 => HV.out.k30 (getD_dn (by decide) h0), fun h0 => HV.out.k31 (getD_dn (by decide) h0), fun h0 => HV.out.k32 (getD_dn (by decide) h0), fun h0 => HV.out.k33 (getD_dn (by decide) h0), fun h0 => HV.out.k34 (getD_dn (by decide) h0), fun h0 => HV.out.k36 (getD_dn (by decide) h0), fun h0 => HV.out.k37 (getD_dn (by decide) h0), fun h0 => HV.out.k38 (getD_dn (by decide) h0), fun h0 => HV.out.r35 (getD_dn (by decide) h0), HV.out.g, HV.out.d, HV.out.c, HV.out.e⟩⟩
          · simp at ho
            subst ho
            have h24x : L.getD 24 false = true := hall { on := 24, ground := Ground.guard } (by simp) (by decide)
            have H24 := Lib.hid h24x
            clear hall hi h24x
            have e0 := HV.out.k24 H24.out
            subst e0
            refine wpOp_step rfl (fun K' hK' => ?_)
            have HK := Lib.hid hK'
            clear hK'
            go_simp
            exact HK.out _ _ ⟨by simp [HJ.out.sz], ⟨_, _, _, _, _, _, _, _, _, _, _, _, _, _, _, _, _, _, _, _, _, _, _, _, _, _, _, _, _, _, _, _, _, _, _, _, _, _, _, rfl, fun h0 => HV.out.k0 (getD_dn (by decide) h0), fun h0 => HV.out.k1 (getD_dn (by decide) h0), fun h0 => HV.out.k2 (getD_dn (by decide) h0), fun h0 => HV.out.k3 (getD_dn (by decide) h0), fun h0 => HV.out.k4 (getD_dn (by decide) h0), fun h0 => HV.out.k5 (getD_dn (by decide) h0), fun h0 => HV.out.k6 (getD_dn (by decide) h0), fun h0 => HV.out.k7 (getD_dn (by decide) h0), fun h0 => HV.out.k8 (getD_dn (by decide) h0), fun h0 => HV.out.k9 (getD_dn (by decide) h0), fun h0 => HV.out.k10 (getD_dn (by decide) h0), fun h0 => HV.out.k11 (getD_dn (by decide) h0), fun h0 => HV.out.k12 (getD_dn (by decide) h0), fun h0 => HV.out.k13 (getD_dn (by decide) h0), fun h0 => HV.out.k14 (getD_dn (by decide) h0), fun h0 => HV.out.k15 (getD_dn (by decide) h0), fun h0 => HV.out.k16 (getD_dn (by decide) h0), fun h0 => HV.out.k17 (getD_dn (by decide) h0), fun h0 => HV.out.k18 (getD_dn (by decide) h0), fun h0 => HV.out.k19 (getD_dn (by decide) h0), fun h0 => HV.out.k20 (getD_dn (by decide) h0), fun h0 => HV.out.k21 (getD_dn (by decide) h0), fun h0 => HV.out.k22 (getD_dn (by decide) h0), fun h0 => HV.out.k23 (getD_dn (by decide) h0), fun h0 => HV.out.k24 (getD_dn (by decide) h0), fun _ => rfl, fun h0 => HV.out.k26 (getD_dn (by decide) h0), fun h0 => HV.out.k27 (getD_dn (by decide) h0), fun h0 => HV.out.k28 (getD_dn (by decide) h0), fun h0 => HV.out.k29 (getD_dn (by decide) h0), fun h0 => HV.out.k30 (getD_dn (by decide) h0), fun h0 => HV.out.k31 (getD_dn (by decide) h0), fun h0 => HV.out.k32 (getD_dn (by decide) h0), fun h0 => HV.out.k33 (getD_dn (by decide) h0), fun h0 => HV.out.k34 (getD_dn (by decide) h0), fun h0 => HV.out.k36 (getD_dn (by decide) h0), fun h0 => HV.out.k37 (getD_dn (by decide) h0), fun h0 => HV.out.k38 (getD_dn (by decide) h0), fun h0 => HV.out.r35 (getD_dn (by decide) h0), HV.out.g, HV.out.d, HV.out.c, HV.out.e⟩⟩
          · simp at ho
            subst ho
            have h24x : L.getD 24 false = true := hall { on := 24, ground := Ground.guard } (by simp) (by decide)
            have H24 := Lib.hid h24x
            clear hall hi h24x
            have e0 := HV.out.k24 H24.out
            subst e0
            refine wpOp_step rfl (fun K' hK' => ?_)
            have HK := Lib.hid hK'
            clear hK'
            go_simp
            exact HK.out _ _ ⟨by simp [HJ.out.sz], ⟨_, _, _, _, _, _, _, _, _, _, _, _, _, _, _, _, _, _, _, _, _, _, _, _, _, _, _, _, _, _, _, _, _, _, _, _, _, _, _, rfl, fun h0 => HV.out.k0 (getD_dn (by decide) h0), fun h0 => HV.out.k1 (getD_dn (by decide) h0), fun h0 => HV.out.k2 (getD_dn (by decide) h0), fun h0 => HV.out.k3 (getD_dn (by decide) h0), fun h0 => HV.out.k4 (getD_dn (by decide) h0), fun h0 => HV.out.k5 (getD_dn (by decide) h0), fun h0 => HV.out.k6 (getD_dn (by decide) h0), fun h0 => HV.out.k7 (getD_dn (by decide) h0), fun h0 => HV.out.k8 (getD_dn (by decide) h0), fun h0 => HV.out.k9 (getD_dn (by decide) h0), fun h0 => HV.out.k10 (getD_dn (by decide) h0), fun h0 => HV.out.k11 (getD_dn (by decide) h0), fun h0 => HV.out.k12 (getD_dn (by decide) h0), fun h0 => HV.out.k13 (getD_dn (by decide) h0), fun h0 => HV.out.k14 (getD_dn (by decide) h0), fun h0 => HV.out.k15 (getD_dn (by decide) h0), fun h0 => HV.out.k16 (getD_dn (by decide) h0), fun h0 => HV.out.k17 (getD_dn (by decide) h0), fun h0 => HV.out.k18 (getD_dn (by decide) h0), fun h0 => HV.out.k19 (getD_dn (by decide) h0), fun h0 => HV.out.k20 (getD_dn (by decide) h0), fun h0 => HV.out.k21 (getD_dn (by decide) h0), fun h0 => HV.out.k22 (getD_dn (by decide) h0), fun h0 => HV.out.k23 (getD_dn (by decide) h0), fun h0 => HV.out.k24 (getD_dn (by decide) h0), fun h0 => HV.out.k25 (getD_dn (by decide) h0), fun _ => rfl, fun h0 => HV.out.k27 (getD_dn (by decide) h0), fun h0 => HV.out.k28 (getD_dn (by decide) h0), fun h0 => HV.out.k29 (getD_dn (by decide) h0), fun h0 => HV.out.k30 (getD_dn (by decide) h0), fun h0 => HV.out.k31 (getD_dn (by decide) h0), fun h0 => HV.out.k32 (getD_dn (by decide) h0), fun h0 => HV.out.k33 (getD_dn (by decide) h0), fun h0 => HV.out.k34 (getD_dn (by decide) h0), fun h0 => HV.out.k36 (getD_dn (by decide) h0), fun h0 => HV.out.k37 (getD_dn (by decide) h0), fun h0 => HV.out.k38 (getD_dn (by decide) h0), fun h0 => HV.out.r35 (getD_dn (by decide) h0), HV.out.g, HV.out.d, HV.out.c, HV.out.e⟩⟩
          · simp at ho
            subst ho
            have h26x : L.getD 26 false = true := hall { on := 26, ground := Ground.data } (by simp) (by decide)
            have h24x : L.getD 24 false = true := hall { on := 24, ground := Ground.guard } (by simp) (by decide)
            have H26 := Lib.hid h26x
            have H24 := Lib.hid h24x
            clear hall hi h26x h24x
            have e0 := HV.out.k26 H26.out
            subst e0
            have e1 := HV.out.k24 H24.out
            subst e1
            obtain ⟨m0, m1, m2⟩ := HV.out.c; have d0 := HV.out.e
            refine wpOp_step rfl (fun K' hK' => ?_)
            have HK := Lib.hid hK'
            clear hK'
            go_simp
            exact HK.out _ _ ⟨by simp [HJ.out.sz], ⟨_, _, _, _, _, _, _, _, _, _, _, _, _, _, _, _, _, _, _, _, _, _, _, _, _, _, _, _, _, _, _, _, _, _, _, _, _, _, _, rfl, fun h0 => HV.out.k0 (getD_dn (by decide) h0), fun h0 => HV.out.k1 (getD_dn (by decide) h0), fun h0 => HV.out.k2 (getD_dn (by decide) h0), fun h0 => HV.out.k3 (getD_dn (by decide) h0), fun h0 => HV.out.k4 (getD_dn (by decide) h0), fun h0 => HV.out.k5 (getD_dn (by decide) h0), fun h0 => HV.out.k6 (getD_dn (by decide) h0), fun h0 => HV.out.k7 (getD_dn (by decide) h0), fun h0 => HV.out.k8 (getD_dn (by decide) h0), fun h0 => HV.out.k9 (getD_dn (by decide) h0), fun h0 => HV.out.k10 (getD_dn (by decide) h0), fun h0 => HV.out.k11 (getD_dn (by decide) h0), fun h0 => HV.out.k12 (getD_dn (by decide) h0), fun h0 => HV.out.k13 (getD_dn (by decide) h0), fun h0 => HV.out.k14 (getD_dn (by decide) h0), fun h0 => HV.out.k15 (getD_dn (by decide) h0), fun h0 => HV.out.k16 (getD_dn (by decide) h0), fun h0 => HV.out.k17 (getD_dn (by decide) h0), fun h0 => HV.out.k18 (getD_dn (by decide) h0), fun h0 => HV.out.k19 (getD_dn (by decide) h0), fun h0 => HV.out.k20 (getD_dn (by decide) h0), fun h0 => HV.out.k21 (getD_dn (by decide) h0), fun h0 => HV.out.k22 (getD_dn (by decide) h0), fun h0 => HV.out.k23 (getD_dn (by decide) h0), fun h0 => HV.out.k24 (getD_dn (by decide) h0), fun h0 => HV.out.k25 (getD_dn (by decide) h0), fun h0 => HV.out.k26 (getD_dn (by decide) h0), fun _ => rfl, fun h0 => HV.out.k28 (getD_dn (by decide) h0), fun h0 => HV.out.k29 (getD_dn (by decide) h0), fun h0 => HV.out.k30 (getD_dn (by decide) h0), fun h0 => HV.out.k31 (getD_dn (by decide) h0), fun h0 => HV.out.k32 (getD_dn (by decide) h0), fun h0 => HV.out.k33 (getD_dn (by decide) h0), fun h0 => HV.out.k34 (getD_dn (by decide) h0), fun h0 => HV.out.k36 (getD_dn (by decide) h0), fun h0 => HV.out.k37 (getD_dn (by decide) h0), fun h0 => HV.out.k38 (getD_dn (by decide) h0), fun h0 => HV.out.r35 (getD_dn (by decide) h0), HV.out.g, HV.out.d, HV.out.c, HV.out.e⟩⟩
          · simp at ho
            subst ho
            have h25x : L.getD 25 false = true := hall { on := 25, ground := Ground.data } (by simp) (by decide)
            have h27x : L.getD 27 false = true := hall { on := 27, ground := Ground.data } (by simp) (by decide)
            have h24x : L.getD 24 false = true := hall { on := 24, ground := Ground.guard } (by simp) (by decide)
            have H25 := Lib.hid h25x
            have H27 := Lib.hid h27x
            have H24 := Lib.hid h24x
            clear hall hi h25x h27x h24x
            have e0 := HV.out.k25 H25.out
            subst e0
            have e1 := HV.out.k27 H27.out
            subst e1
            have e2 := HV.out.k24 H24.out
            subst e2
            refine wpOp_step rfl (fun K' hK' => ?_)
            have HK := Lib.hid hK'
            clear hK'
            go_simp
            exact HK.out _ _ ⟨by simp [HJ.out.sz], ⟨_, _, _, _, _, _, _, _, _, _, _, _, _, _, _, _, _, _, _, _, _, _, _, _, _, _, _, _, _, _, _, _, _, _, _, _, _, _, _, rfl, fun h0 => HV.out.k0 (getD_dn (by decide) h0), fun h0 => HV.out.k1 (getD_dn (by decide) h0), fun h0 => HV.out.k2 (getD_dn (by decide) h0), fun h0 => HV.out.k3 (getD_dn (by decide) h0), fun h0 => HV.out.k4 (getD_dn (by decide) h0), fun h0 => HV.out.k5 (getD_dn (by decide) h0), fun h0 => HV.out.k6 (getD_dn (by decide) h0), fun h0 => HV.out.k7 (getD_dn (by decide) h0), fun h0 => HV.out.k8 (getD_dn (by decide) h0), fun h0 => HV.out.k9 (getD_dn (by decide) h0), fun h0 => HV.out.k10 (getD_dn (by decide) h0), fun h0 => HV.out.k11 (getD_dn (by decide) h0), fun h0 => HV.out.k12 (getD_dn (by decide) h0), fun h0 => HV.out.k13 (getD_dn (by decide) h0), fun h0 => HV.out.k14 (getD_dn (by decide) h0), fun h0 => HV.out.k15 (getD_dn (by decide) h0), fun h0 => HV.out.k16 (getD_dn (by decide) h0), fun h0 => HV.out.k17 (getD_dn (by decide) h0), fun h0 => HV.out.k18 (getD_dn (by decide) h0), fun h0 => HV.out.k19 (getD_dn (by decide) h0), fun h0 => HV.out.k20 (getD_dn (by decide) h0), fun h0 => HV.out.k21 (getD_dn (by decide) h0), fun h0 => HV.out.k22 (getD_dn (by decide) h0), fun h0 => HV.out.k23 (getD_dn (by decide) h0), fun h0 => HV.out.k24 (getD_dn (by decide) h0), fun h0 => HV.out.k25 (getD_dn (by decide) h0), fun h0 => HV.out.k26 (getD_dn (by decide) h0), fun h0 => HV.out.k27 (getD_dn (by decide) h0), fun _ => rfl, fun h0 => HV.out.k29 (getD_dn (by decide) h0), fun h0 => HV.out.k30 (getD_dn (by decide) h0), fun h0 => HV.out.k31 (getD_dn (by decide) h0), fun h0 => HV.out.k32 (getD_dn (by decide) h0), fun h0 => HV.out.k33 (getD_dn (by decide) h0), fun h0 => HV.out.k34 (getD_dn (by decide) h0), fun h0 => HV.out.k36 (getD_dn (by decide) h0), fun h0 => HV.out.k37 (getD_dn (by decide) h0), fun h0 => HV.out.k38 (getD_dn (by decide) h0), fun h0 => HV.out.r35 (getD_dn (by decide) h0), HV.out.g, HV.out.d, HV.out.c, HV.out.e⟩⟩
          · simp at ho
            subst ho
            have h24x : L.getD 24 false = true := hall { on := 24, ground := Ground.data } (by simp) (by decide)
            have h28x : L.getD 28 false = true := hall { on := 28, ground := Ground.data } (by simp) (by decide)
            have H24 := Lib.hid h24x
            have H28 := Lib.hid h28x
            clear hall hi h24x h28x
            have e0 := HV.out.k24 H24.out
            subst e0
            have e1 := HV.out.k28 H28.out
            subst e1
            refine wpOp_step rfl (fun K' hK' => ?_)
            have HK := Lib.hid hK'
            clear hK'
            go_simp
            exact HK.out _ _ ⟨by simp [HJ.out.sz], ⟨_, _, _, _, _, _, _, _, _, _, _, _, _, _, _, _, _, _, _, _, _, _, _, _, _, _, _, _, _, _, _, _, _, _, _, _, _, _, _, rfl, fun h0 => HV.out.k0 (getD_dn (by decide) h0), fun h0 => HV.out.k1 (getD_dn (by decide) h0), fun h0 => HV.out.k2 (getD_dn (by decide) h0), fun h0 => HV.out.k3 (getD_dn (by decide) h0), fun h0 => HV.out.k4 (getD_dn (by decide) h0), fun h0 => HV.out.k5 (getD_dn (by decide) h0), fun h0 => HV.out.k6 (getD_dn (by decide) h0), fun h0 => HV.out.k7 (getD_dn (by decide) h0), fun h0 => HV.out.k8 (getD_dn (by decide) h0), fun h0 => HV.out.k9 (getD_dn (by decide) h0), fun h0 => HV.out.k10 (getD_dn (by decide) h0), fun h0 => HV.out.k11 (getD_dn (by decide) h0), fun h0 => HV.out.k12 (getD_dn (by decide) h0), fun h0 => HV.out.k13 (getD_dn (by decide) h0), fun h0 => HV.out.k14 (getD_dn (by decide) h0), fun h0 => HV.out.k15 (getD_dn (by decide) h0), fun h0 => HV.out.k16 (getD_dn (by decide) h0), fun h0 => HV.out.k17 (getD_dn (by decide) h0), fun h0 => HV.out.k18 (getD_dn (by decide) h0), fun h0 => HV.out.k19 (getD_dn (by decide) h0), fun h0 => HV.out.k20 (getD_dn (by decide) h0), fun h0 => HV.out.k21 (getD_dn (by decide) h0), fun h0 => HV.out.k22 (getD_dn (by decide) h0), fun h0 => HV.out.k23 (getD_dn (by decide) h0), fun h0 => HV.out.k24 (getD_dn (by decide) h0), fun h0 => HV.out.k25 (getD_dn (by decide) h0), fun h0 => HV.out.k26 (getD_dn (by decide) h0), fun h0 => HV.out.k27 (getD_dn (by decide) h0), fun h0 => HV.out.k28 (getD_dn (by decide) h0), fun _ => rfl, fun h0 => HV.out.k30 (getD_dn (by decide) h0), fun h0 => HV.out.k31 (getD_dn (by decide) h0), fun h0 => HV.out.k32 (getD_dn (by decide) h0), fun h0 => HV.out.k33 (getD_dn (by decide) h0), fun h0 => HV.out.k34 (getD_dn (by decide) h0), fun h0 => HV.out.k36 (getD_dn (by decide) h0), fun h0 => HV.out.k37 (getD_dn (by decide) h0), fun h0 => HV.out.k38 (getD_dn (by decide) h0), fun h0 => HV.out.r35 (getD_dn (by decide) h0), HV.out.g, HV.out.d, HV.out.c, HV.out.e⟩⟩
          · simp at ho
            subst ho
            have h29x : L.getD 29 false = true := hall { on := 29, ground := Ground.data } (by simp) (by decide)
            have H29 := Lib.hid h29x
            clear hall hi h29x
            have e0 := HV.out.k29 H29.out
            subst e0
            refine wpOp_step rfl (fun K' hK' => ?_)
            have HK := Lib.hid hK'
            clear hK'
            go_simp
            exact HK.out _ _ ⟨by simp [HJ.out.sz], ⟨_, _, _, _, _, _, _, _, _, _, _, _, _, _, _, _, _, _, _, _, _, _, _, _, _, _, _, _, _, _, _, _, _, _, _, _, _, _, _, rfl, fun h0 => HV.out.k0 (getD_dn (by decide) h0), fun h0 => HV.out.k1 (getD_dn (by decide) h0), fun h0 => HV.out.k2 (getD_dn (by decide) h0), fun h0 => HV.out.k3 (getD_dn (by decide) h0), fun h0 => HV.out.k4 (getD_dn (by decide) h0), fun h0 => HV.out.k5 (getD_dn (by decide) h0), fun h0 => HV.out.k6 (getD_dn (by decide) h0), fun h0 => HV.out.k7 (getD_dn (by decide) h0), fun h0 => HV.out.k8 (getD_dn (by decide) h0), fun h0 => HV.out.k9 (getD_dn (by decide) h0), fun h0 => HV.out.k10 (getD_dn (by decide) h0), fun h0 => HV.out.k11 (getD_dn (by decide) h0), fun h0 => HV.out.k12 (getD_dn (by decide) h0), fun h0 => HV.out.k13 (getD_dn (by decide) h0), fun h0 => HV.out.k14 (getD_dn (by decide) h0), fun h0 => HV.out.k15 (getD_dn (by decide) h0), fun h0 => HV.out.k16 (getD_dn (by decide) h0), fun h0 => HV.out.k17 (getD_dn (by decide) h0), fun h0 => HV.out.k18 (getD_dn (by decide) h0), fun h0 => HV.out.k19 (getD_dn (by decide) h0), fun h0 => HV.out.k20 (getD_dn (by decide) h0), fun h0 => HV.out.k21 (getD_dn (by decide) h0), fun h0 => HV.out.k22 (getD_dn (by decide) h0), fun h0 => HV.out.k23 (getD_dn (by decide) h0), fun h0 => HV.out.k24 (getD_dn (by decide) h0), fun h0 => HV.out.k25 (getD_dn (by decide) h0), fun h0 => HV.out.k26 (getD_dn (by decide) h0), fun h0 => HV.out.k27 (getD_dn (by decide) h0), fun h0 => HV.out.k28 (getD_dn (by decide) h0), fun h0 => HV.out.k29 (getD_dn (by decide) h0), fun _ => rfl, fun h0 => HV.out.k31 (getD_dn (by decide) h0), fun h0 => HV.out.k32 (getD_dn (by decide) h0), fun h0 => HV.out.k33 (getD_dn (by decide) h0), fun h0 => HV.out.k34 (getD_dn (by decide) h0), fun h0 => HV.out.k36 (getD_dn (by decide) h0), fun h0 => HV.out.k37 (getD_dn (by decide) h0), fun h0 => HV.out.k38 (getD_dn (by decide) h0), fun h0 => HV.out.r35 (getD_dn (by decide) h0), HV.out.g, HV.out.d, HV.out.c, HV.out.e⟩⟩
          · simp at ho
            subst ho
            have h30x : L.getD 30 false = true := hall { on := 30, ground := Ground.guard } (by simp) (by decide)
            have H30 := Lib.hid h30x
            clear hall hi h30x
            have e0 := HV.out.k30 H30.out
            subst e0
            refine wpOp_step rfl (fun K' hK' => ?_)
            have HK := Lib.hid hK'
            clear hK'
            go_simp
            exact HK.out _ _ ⟨by simp [HJ.out.sz], ⟨_, _, _, _, _, _, _, _, _, _, _, _, _, _, _, _, _, _, _, _, _, _, _, _, _, _, _, _, _, _, _, _, _, _, _, _, _, _, _, rfl, fun h0 => HV.out.k0 (getD_dn (by decide) h0), fun h0 => HV.out.k1 (getD_dn (by decide) h0), fun h0 => HV.out.k2 (getD_dn (by decide) h0), fun h0 => HV.out.k3 (getD_dn (by decide) h0), fun h0 => HV.out.k4 (getD_dn (by decide) h0), fun h0 => HV.out.k5 (getD_dn (by decide) h0), fun h0 => HV.out.k6 (getD_dn (by decide) h0), fun h0 => HV.out.k7 (getD_dn (by decide) h0), fun h0 => HV.out.k8 (getD_dn (by decide) h0), fun h0 => HV.out.k9 (getD_dn (by decide) h0), fun h0 => HV.out.k10 (getD_dn (by decide) h0), fun h0 => HV.out.k11 (getD_dn (by decide) h0), fun h0 => HV.out.k12 (getD_dn (by decide) h0), fun h0 => HV.out.k13 (getD_dn (by decide) h0), fun h0 => HV.out.k14 (getD_dn (by decide) h0), fun h0 => HV.out.k15 (getD_dn (by decide) h0), fun h0 => HV.out.k16 (getD_dn (by decide) h0), fun h0 => HV.out.k17 (getD_dn (by decide) h0), fun h0 => HV.out.k18 (getD_dn (by decide) h0), fun h0 => HV.out.k19 (getD_dn (by decide) h0), fun h0 => HV.out.k20 (getD_dn (by decide) h0), fun h0 => HV.out.k21 (getD_dn (by decide) h0), fun h0 => HV.out.k22 (getD_dn (by decide) h0), fun h0 => HV.out.k23 (getD_dn (by decide) h0), fun h0 => HV.out.k24 (getD_dn (by decide) h0), fun h0 => HV.out.k25 (getD_dn (by decide) h0), fun h0 => HV.out.k26 (getD_dn (by decide) h0), fun h0 => HV.out.k27 (getD_dn (by decide) h0), fun h0 => HV.out.k28 (getD_dn (by decide) h0), fun h0 => HV.out.k29 (getD_dn (by decide) h0), fun h0 => HV.out.k30 (getD_dn (by decide) h0), fun _ => rfl, fun h0 => HV.out.k32 (getD_dn (by decide) h0), fun h0 => HV.out.k33 (getD_dn (by decide) h0), fun h0 => HV.out.k34 (getD_dn (by decide) h0), fun h0 => HV.out.k36 (getD_dn (by decide) h0), fun h0 => HV.out.k37 (getD_dn (by decide) h0), fun h0 => HV.out.k38 (getD_dn (by decide) h0), fun h0 => HV.out.r35 (getD_dn (by decide) h0), HV.out.g, HV.out.d, HV.out.c, HV.out.e⟩⟩
          · simp at ho
            subst ho
            have h30x : L.getD 30 false = true := hall { on := 30, ground := Ground.guard } (by simp) (by decide)
            have H30 := Lib.hid h30x
            clear hall hi h30x
            have e0 := HV.out.k30 H30.out
            subst e0
            refine wpOp_step rfl (fun K' hK' => ?_)
            have HK := Lib.hid hK'
            clear hK'
            go_simp
            exact HK.out _ _ ⟨by simp [HJ.out.sz], ⟨_, _, _, _, _, _, _, _, _, _, _, _, _, _, _, _, _, _, _, _, _, _, _, _, _, _, _, _, _, _, _, _, _, _, _, _, _, _, _, rfl, fun h0 => HV.out.k0 (getD_dn (by decide) h0), fun h0 => HV.out.k1 (getD_dn (by decide) h0), fun h0 => HV.out.k2 (getD_dn (by decide) h0), fun h0 => HV.out.k3 (getD_dn (by decide) h0), fun h0 => HV.out.k4 (getD_dn (by decide) h0), fun h0 => HV.out.k5 (getD_dn (by decide) h0), fun h0 => HV.out.k6 (getD_dn (by decide) h0), fun h0 => HV.out.k7 (getD_dn (by decide) h0), fun h0 => HV.out.k8 (getD_dn (by decide) h0), fun h0 => HV.out.k9 (getD_dn (by decide) h0), fun h0 => HV.out.k10 (getD_dn (by decide) h0), fun h0 => HV.out.k11 (getD_dn (by decide) h0), fun h0 => HV.out.k12 (getD_dn (by decide) h0), fun h0 => HV.out.k13 (getD_dn (by decide) h0), fun h0 => HV.out.k14 (getD_dn (by decide) h0), fun h0 => HV.out.k15 (getD_dn (by decide) h0), fun h0 => HV.out.k16 (getD_dn (by decide) h0), fun h0 => HV.out.k17 (getD_dn (by decide) h0), fun h0 => HV.out.k18 (getD_dn (by decide) h0), fun h0 => HV.out.k19 (getD_dn (by decide) h0), fun h0 => HV.out.k20 (getD_dn (by decide) h0), fun h0 => HV.out.k21 (getD_dn (by decide) h0), fun h0 => HV.out.k22 (getD_dn (by decide) h0), fun h0 => HV.out.k23 (getD_dn (by decide) h0), fun h0 => HV.out.k24 (getD_dn (by decide) h0), fun h0 => HV.out.k25 (getD_dn (by decide) h0), fun h0 => HV.out.k26 (getD_dn (by decide) h0), fun h0 => HV.out.k27 (getD_dn (by decide) h0), fun h0 => HV.out.k28 (getD_dn (by decide) h0), fun h0 => HV.out.k29 (getD_dn (by decide) h0), fun h0 => HV.out.k30 (getD_dn (by decide) h0), fun h0 => HV.out.k31 (getD_dn (by decide) h0), fun _ => rfl, fun h0 => HV.out.k33 (getD_dn (by decide) h0), fun h0 => HV.out.k34 (getD_dn (by decide) h0), fun h0 => HV.out.k36 (getD_dn (by decide) h0), fun h0 => HV.out.k37 (getD_dn (by decide) h0), fun h0 => HV.out.k38 (getD_dn (by decide) h0), fun h0 => HV.out.r35 (getD_dn (by decide) h0), HV.out.g, HV.out.d, HV.out.c, HV.out.e⟩⟩
          · simp at ho
            subst ho
            have h30x : L.getD 30 false = true := hall { on := 30, ground := Ground.guard } (by simp) (by decide)
            have H30 := Lib.hid h30x
            clear hall hi h30x
            have e0 := HV.out.k30 H30.out
            subst e0
            refine wpOp_step rfl (fun K' hK' => ?_)
            have HK := Lib.hid hK'
            clear hK'
            go_simp
            exact HK.out _ _ ⟨by simp [HJ.out.sz], ⟨_, _, _, _, _, _, _, _, _, _, _, _, _, _, _, _, _, _, _, _, _, _, _, _, _, _, _, _, _, _, _, _, _, _, _, _, _, _, _, rfl, fun h0 => HV.out.k0 (getD_dn (by decide) h0), fun h0 => HV.out.k1 (getD_dn (by decide) h0), fun h0 => HV.out.k2 (getD_dn (by decide) h0), fun h0 => HV.out.k3 (getD_dn (by decide) h0), fun h0 => HV.out.k4 (getD_dn (by decide) h0), fun h0 => HV.out.k5 (getD_dn (by decide) h0), fun h0 => HV.out.k6 (getD_dn (by decide) h0), fun h0 => HV.out.k7 (getD_dn (by decide) h0), fun h0 => HV.out.k8 (getD_dn (by decide) h0), fun h0 => HV.out.k9 (getD_dn (by decide) h0), fun h0 => HV.out.k10 (getD_dn (by decide) h0), fun h0 => HV.out.k11 (getD_dn (by decide) h0), fun h0 => HV.out.k12 (getD_dn (by decide) h0), fun h0 => HV.out.k13 (getD_dn (by decide) h0), fun h0 => HV.out.k14 (getD_dn (by decide) h0), fun h0 => HV.out.k15 (getD_dn (by decide) h0), fun h0 => HV.out.k16 (getD_dn (by decide) h0), fun h0 => HV.out.k17 (getD_dn (by decide) h0), fun h0 => HV.out.k18 (getD_dn (by decide) h0), fun h0 => HV.out.k19 (getD_dn (by decide) h0), fun h0 => HV.out.k20 (getD_dn (by decide) h0), fun h0 => HV.out.k21 (getD_dn (by decide) h0), fun h0 => HV.out.k22 (getD_dn (by decide) h0), fun h0 => HV.out.k23 (getD_dn (by decide) h0), fun h0 => HV.out.k24 (getD_dn (by decide) h0), fun h0 => HV.out.k25 (getD_dn (by decide) h0), fun h0 => HV.out.k26 (getD_dn (by decide) h0), fun h0 => HV.out.k27 (getD_dn (by decide) h0), fun h0 => HV.out.k28 (getD_dn (by decide) h0), fun h0 => HV.out.k29 (getD_dn (by decide) h0), fun h0 => HV.out.k30 (getD_dn (by decide) h0), fun h0 => HV.out.k31 (getD_dn (by decide) h0), fun h0 => HV.out.k32 (getD_dn (by decide) h0), fun _ => rfl, fun h0 => HV.out.k34 (getD_dn (by decide) h0), fun h0 => HV.out.k36 (getD_dn (by decide) h0), fun h0 => HV.out.k37 (getD_dn (by decide) h0), fun h0 => HV.out.k38 (getD_dn (by decide) h0), fun h0 => HV.out.r35 (getD_dn (by decide) h0), HV.out.g, HV.out.d, HV.out.c, HV.out.e⟩⟩
          · simp at ho
            subst ho
            have h33x : L.getD 33 false = true := hall { on := 33, ground := Ground.data } (by simp) (by decide)
            have h30x : L.getD 30 false = true := hall { on := 30, ground := Ground.guard } (by simp) (by decide)
            have H33 := Lib.hid h33x
            have H30 := Lib.hid h30x
            clear hall hi h33x h30x
            have e0 := HV.out.k33 H33.out
            subst e0
            have e1 := HV.out.k30 H30.out
            subst e1
            obtain ⟨m0, m1, m2⟩ := HV.out.c; have d0 := HV.out.e
            refine wpOp_step rfl (fun K' hK' => ?_)
            have HK := Lib.hid hK'
            clear hK'
            go_simp
            exact HK.out _ _ ⟨by simp [HJ.out.sz], ⟨_, _, _, _, _, _, _, _, _, _, _, _, _, _, _, _, _, _, _, _, _, _, _, _, _, _, _, _, _, _, _, _, _, _, _, _, _, _, _, rfl, fun h0 => HV.out.k0 (getD_dn (by decide) h0), fun h0 => HV.out.k1 (getD_dn (by decide) h0), fun h0 => HV.out.k2 (getD_dn (by decide) h0), fun h0 => HV.out.k3 (getD_dn (by decide) h0), fun h0 => HV.out.k4 (getD_dn (by decide) h0), fun h0 => HV.out.k5 (getD_dn (by decide) h0), fun h0 => HV.out.k6 (getD_dn (by decide) h0), fun h0 => HV.out.k7 (getD_dn (by decide) h0), fun h0 => HV.out.k8 (getD_dn (by decide) h0), fun h0 => HV.out.k9 (getD_dn (by decide) h0), fun h0 => HV.out.k10 (getD_dn (by decide) h0), fun h0 => HV.out.k11 (getD_dn (by decide) h0), fun h0 => HV.out.k12 (getD_dn (by decide) h0), fun h0 => HV.out.k13 (getD_dn (by decide) h0), fun h0 => HV.out.k14 (getD_dn (by decide) h0), fun h0 => HV.out.k15 (getD_dn (by decide) h0), fun h0 => HV.out.k16 (getD_dn (by decide) h0), fun h0 => HV.out.k17 (getD_dn (by decide) h0), fun h0 => HV.out.k18 (getD_dn (by decide) h0), fun h0 => HV.out.k19 (getD_dn (by decide) h0), fun h0 => HV.out.k20 (getD_dn (by decide) h0), fun h0 => HV.out.k21 (getD_dn (by decide) h0), fun h0 => HV.out.k22 (getD_dn (by decide) h0), fun h0 => HV.out.k23 (getD_dn (by decide) h0), fun h0 => HV.out.k24 (getD_dn (by decide) h0), fun h0 => HV.out.k25 (getD_dn (by decide) h0), fun h0 => HV.out.k26 (getD_dn (by decide) h0), fun h0 => HV.out.k27 (getD_dn (by decide) h0), fun h0 => HV.out.k28 (getD_dn (by decide) h0), fun h0 => HV.out.k29 (getD_dn (by decide) h0), fun h0 => HV.out.k30 (getD_dn (by decide) h0), fun h0 => HV.out.k31 (getD_dn (by decide) h0), fun h0 => HV.out.k32 (getD_dn (by decide) h0), fun h0 => HV.out.k33 (getD_dn (by decide) h0), fun _ => rfl, fun h0 => HV.out.k36 (getD_dn (by decide) h0), fun h0 => HV.out.k37 (getD_dn (by decide) h0), fun h0 => HV.out.k38 (getD_dn (by decide) h0), fun h0 => HV.out.r35 (getD_dn (by decide) h0), HV.out.g, HV.out.d, HV.out.c, HV.out.e⟩⟩
          · simp at ho
            subst ho
            have h32x : L.getD 32 false = true := hall { on := 32, ground := Ground.data } (by simp) (by decide)
            have h34x : L.getD 34 false = true := hall { on := 34, ground := Ground.data } (by simp) (by decide)
            have h30x : L.getD 30 false = true := hall { on := 30, ground := Ground.chain } (by simp) (by decide)
            have H32 := Lib.hid h32x
            have H34 := Lib.hid h34x
            have H30 := Lib.hid h30x
            clear hall hi h32x h34x h30x
            have e0 := HV.out.k32 H32.out
            subst e0
            have e1 := HV.out.k34 H34.out
            subst e1
            have e2 := HV.out.k30 H30.out
            subst e2
            refine wpOp_step rfl (fun K' hK' => ?_)
            have HK := Lib.hid hK'
            clear hK'
            go_simp
            refine (HLO2.out n2 A' c' _ HV.out.g.rd HV.out.g.n2).mono ?_
            rintro e wn ⟨A2, c2, rfl, _, _, hr2, bn⟩
            have hg := HV.out.g.below bn
            exact HK.out _ _ ⟨by simp [HJ.out.sz], ⟨_, _, _, _, _, _, _, _, _, _, _, _, _, _, _, _, _, _, _, _, _, _, _, _, _, _, _, _, _, _, _, _, _, _, _, _, _, _, _, rfl, fun h0 => HV.out.k0 (getD_dn (by decide) h0), fun h0 => HV.out.k1 (getD_dn (by decide) h0), fun h0 => HV.out.k2 (getD_dn (by decide) h0), fun h0 => HV.out.k3 (getD_dn (by decide) h0), fun h0 => HV.out.k4 (getD_dn (by decide) h0), fun h0 => HV.out.k5 (getD_dn (by decide) h0), fun h0 => HV.out.k6 (getD_dn (by decide) h0), fun h0 => HV.out.k7 (getD_dn (by decide) h0), fun h0 => HV.out.k8 (getD_dn (by decide) h0), fun h0 => HV.out.k9 (getD_dn (by decide) h0), fun h0 => HV.out.k10 (getD_dn (by decide) h0), fun h0 => HV.out.k11 (getD_dn (by decide) h0), fun h0 => HV.out.k12 (getD_dn (by decide) h0), fun h0 => HV.out.k13 (getD_dn (by decide) h0), fun h0 => HV.out.k14 (getD_dn (by decide) h0), fun h0 => HV.out.k15 (getD_dn (by decide) h0), fun h0 => HV.out.k16 (getD_dn (by decide) h0), fun h0 => HV.out.k17 (getD_dn (by decide) h0), fun h0 => HV.out.k18 (getD_dn (by decide) h0), fun h0 => HV.out.k19 (getD_dn (by decide) h0), fun h0 => HV.out.k20 (getD_dn (by decide) h0), fun h0 => HV.out.k21 (getD_dn (by decide) h0), fun h0 => HV.out.k22 (getD_dn (by decide) h0), fun h0 => HV.out.k23 (getD_dn (by decide) h0), fun h0 => HV.out.k24 (getD_dn (by decide) h0), fun h0 => HV.out.k25 (getD_dn (by decide) h0), fun h0 => HV.out.k26 (getD_dn (by decide) h0), fun h0 => HV.out.k27 (getD_dn (by decide) h0), fun h0 => HV.out.k28 (getD_dn (by decide) h0), fun h0 => HV.out.k29 (getD_dn (by decide) h0), fun h0 => HV.out.k30 (getD_dn (by decide) h0), fun h0 => HV.out.k31 (getD_dn (by decide) h0), fun h0 => HV.out.k32 (getD_dn (by decide) h0), fun h0 => HV.out.k33 (getD_dn (by decide) h0), fun h0 => HV.out.k34 (getD_dn (by decide) h0), fun h0 => HV.out.k36 (getD_dn (by decide) h0), fun h0 => HV.out.k37 (getD_dn (by decide) h0), fun h0 => HV.out.k38 (getD_dn (by decide) h0), fun _ => ⟨A2, c2, _, rfl, hr2, Nat.le_refl _⟩, hg, HV.out.d.trans (bn.mono HV.out.d.size), hg.cells, ((bn.mono HV.out.d.size).cell (p := ad.add (k' * 3)) (by rw [add_block]; exact HAD.out)).trans HV.out.e⟩⟩
          · simp at ho
            subst ho
            have h31x : L.getD 31 false = true := hall { on := 31, ground := Ground.data } (by simp) (by decide)
            have h35x : L.getD 35 false = true := hall { on := 35, ground := Ground.data } (by simp) (by decide)
            have h30x : L.getD 30 false = true := hall { on := 30, ground := Ground.guard } (by simp) (by decide)
            have H31 := Lib.hid h31x
            have H35 := Lib.hid h35x
            have H30 := Lib.hid h30x
            clear hall hi h31x h35x h30x
            have e0 := HV.out.k31 H31.out
            subst e0
            have e1 := HV.out.k30 H30.out
            subst e1
            obtain ⟨A2, c2, n3, e2, hr2, hn3⟩ := HV.out.r35 H35.out
            subst e2
            refine wpOp_step rfl (fun K' hK' => ?_)
            have HK := Lib.hid hK'
            clear hK'
            go_simp
            refine (HSAME.out w' A2 c2 n3 HV.out.g.rd hr2).mono ?_
            rintro e wn ⟨rfl, bn⟩
            have hg := HV.out.g.below bn
            exact HK.out _ _ ⟨by simp [HJ.out.sz], ⟨_, _, _, _, _, _, _, _, _, _, _, _, _, _, _, _, _, _, _, _, _, _, _, _, _, _, _, _, _, _, _, _, _, _, _, _, _, _, _, rfl, fun h0 => HV.out.k0 (getD_dn (by decide) h0), fun h0 => HV.out.k1 (getD_dn (by decide) h0), fun h0 => HV.out.k2 (getD_dn (by decide) h0), fun h0 => HV.out.k3 (getD_dn (by decide) h0), fun h0 => HV.out.k4 (getD_dn (by decide) h0), fun h0 => HV.out.k5 (getD_dn (by decide) h0), fun h0 => HV.out.k6 (getD_dn (by decide) h0), fun h0 => HV.out.k7 (getD_dn (by decide) h0), fun h0 => HV.out.k8 (getD_dn (by decide) h0), fun h0 => HV.out.k9 (getD_dn (by decide) h0), fun h0 => HV.out.k10 (getD_dn (by decide) h0), fun h0 => HV.out.k11 (getD_dn (by decide) h0), fun h0 => HV.out.k12 (getD_dn (by decide) h0), fun h0 => HV.out.k13 (getD_dn (by decide) h0), fun h0 => HV.out.k14 (getD_dn (by decide) h0), fun h0 => HV.out.k15 (getD_dn (by decide) h0), fun h0 => HV.out.k16 (getD_dn (by decide) h0), fun h0 => HV.out.k17 (getD_dn (by decide) h0), fun h0 => HV.out.k18 (getD_dn (by decide) h0), fun h0 => HV.out.k19 (getD_dn (by decide) h0), fun h0 => HV.out.k20 (getD_dn (by decide) h0), fun h0 => HV.out.k21 (getD_dn (by decide) h0), fun h0 => HV.out.k22 (getD_dn (by decide) h0), fun h0 => HV.out.k23 (getD_dn (by decide) h0), fun h0 => HV.out.k24 (getD_dn (by decide) h0), fun h0 => HV.out.k25 (getD_dn (by decide) h0), fun h0 => HV.out.k26 (getD_dn (by decide) h0), fun h0 => HV.out.k27 (getD_dn (by decide) h0), fun h0 => HV.out.k28 (getD_dn (by decide) h0), fun h0 => HV.out.k29 (getD_dn (by decide) h0), fun h0 => HV.out.k30 (getD_dn (by decide) h0), fun h0 => HV.out.k31 (getD_dn (by decide) h0), fun h0 => HV.out.k32 (getD_dn (by decide) h0), fun h0 => HV.out.k33 (getD_dn (by decide) h0), fun h0 => HV.out.k34 (getD_dn (by decide) h0), fun _ => rfl, fun h0 => HV.out.k37 (getD_dn (by decide) h0), fun h0 => HV.out.k38 (getD_dn (by decide) h0), fun _ => ⟨A2, c2, n3, rfl, hr2.below (bn.mono hn3), Nat.le_trans hn3 bn.size⟩, hg, HV.out.d.trans (bn.mono HV.out.d.size), hg.cells, ((bn.mono HV.out.d.size).cell (p := ad.add (k' * 3)) (by rw [add_block]; exact HAD.out)).trans HV.out.e⟩⟩
          · simp at ho
            subst ho
            have h36x : L.getD 36 false = true := hall { on := 36, ground := Ground.data } (by simp) (by decide)
            have h30x : L.getD 30 false = true := hall { on := 30, ground := Ground.guard } (by simp) (by decide)
            have H36 := Lib.hid h36x
            have H30 := Lib.hid h30x
            clear hall hi h36x h30x
            have e0 := HV.out.k36 H36.out
            subst e0
            have e1 := HV.out.k30 H30.out
            subst e1
            refine wpOp_step rfl (fun K' hK' => ?_)
            have HK := Lib.hid hK'
            clear hK'
            go_simp
            exact HK.out _ _ ⟨by simp [HJ.out.sz], ⟨_, _, _, _, _, _, _, _, _, _, _, _, _, _, _, _, _, _, _, _, _, _, _, _, _, _, _, _, _, _, _, _, _, _, _, _, _, _, _, rfl, fun h0 => HV.out.k0 (getD_dn (by decide) h0), fun h0 => HV.out.k1 (getD_dn (by decide) h0), fun h0 => HV.out.k2 (getD_dn (by decide) h0), fun h0 => HV.out.k3 (getD_dn (by decide) h0), fun h0 => HV.out.k4 (getD_dn (by decide) h0), fun h0 => HV.out.k5 (getD_dn (by decide) h0), fun h0 => HV.out.k6 (getD_dn (by decide) h0), fun h0 => HV.out.k7 (getD_dn (by decide) h0), fun h0 => HV.out.k8 (getD_dn (by decide) h0), fun h0 => HV.out.k9 (getD_dn (by decide) h0), fun h0 => HV.out.k10 (getD_dn (by decide) h0), fun h0 => HV.out.k11 (getD_dn (by decide) h0), fun h0 => HV.out.k12 (getD_dn (by decide) h0), fun h0 => HV.out.k13 (getD_dn (by decide) h0), fun h0 => HV.out.k14 (getD_dn (by decide) h0), fun h0 => HV.out.k15 (getD_dn (by decide) h0), fun h0 => HV.out.k16 (getD_dn (by decide) h0), fun h0 => HV.out.k17 (getD_dn (by decide) h0), fun h0 => HV.out.k18 (getD_dn (by decide) h0), fun h0 => HV.out.k19 (getD_dn (by decide) h0), fun h0 => HV.out.k20 (getD_dn (by decide) h0), fun h0 => HV.out.k21 (getD_dn (by decide) h0), fun h0 => HV.out.k22 (getD_dn (by decide) h0), fun h0 => HV.out.k23 (getD_dn (by decide) h0), fun h0 => HV.out.k24 (getD_dn (by decide) h0), fun h0 => HV.out.k25 (getD_dn (by decide) h0), fun h0 => HV.out.k26 (getD_dn (by decide) h0), fun h0 => HV.out.k27 (getD_dn (by decide) h0), fun h0 => HV.out.k28 (getD_dn (by decide) h0), fun h0 => HV.out.k29 (getD_dn (by decide) h0), fun h0 => HV.out.k30 (getD_dn (by decide) h0), fun h0 => HV.out.k31 (getD_dn (by decide) h0), fun h0 => HV.out.k32 (getD_dn (by decide) h0), fun h0 => HV.out.k33 (getD_dn (by decide) h0), fun h0 => HV.out.k34 (getD_dn (by decide) h0), fun h0 => HV.out.k36 (getD_dn (by decide) h0), fun _ => rfl, fun h0 => HV.out.k38 (getD_dn (by decide) h0), fun h0 => HV.out.r35 (getD_dn (by decide) h0), HV.out.g, HV.out.d, HV.out.c, HV.out.e⟩⟩
          · simp at ho
            subst ho
            have h30x : L.getD 30 false = true := hall { on := 30, ground := Ground.data } (by simp) (by decide)
            have h37x : L.getD 37 false = true := hall { on := 37, ground := Ground.data } (by simp) (by decide)
            have H30 := Lib.hid h30x
            have H37 := Lib.hid h37x
            clear hall hi h30x h37x
            have e0 := HV.out.k30 H30.out
            subst e0
            have e1 := HV.out.k37 H37.out
            subst e1
            refine wpOp_step rfl (fun K' hK' => ?_)
            have HK := Lib.hid hK'
            clear hK'
            go_simp
            exact HK.out _ _ ⟨by simp [HJ.out.sz], ⟨_, _, _, _, _, _, _, _, _, _, _, _, _, _, _, _, _, _, _, _, _, _, _, _, _, _, _, _, _, _, _, _, _, _, _, _, _, _, _, rfl, fun h0 => HV.out.k0 (getD_dn (by decide) h0), fun h0 => HV.out.k1 (getD_dn (by decide) h0), fun h0 => HV.out.k2 (getD_dn (by decide) h0), fun h0 => HV.out.k3 (getD_dn (by decide) h0), fun h0 => HV.out.k4 (getD_dn (by decide) h0), fun h0 => HV.out.k5 (getD_dn (by decide) h0), fun h0 => HV.out.k6 (getD_dn (by decide) h0), fun h0 => HV.out.k7 (getD_dn (by decide) h0), fun h0 => HV.out.k8 (getD_dn (by decide) h0), fun h0 => HV.out.k9 (getD_dn (by decide) h0), fun h0 => HV.out.k10 (getD_dn (by decide) h0), fun h0 => HV.out.k11 (getD_dn (by decide) h0), fun h0 => HV.out.k12 (getD_dn (by decide) h0), fun h0 => HV.out.k13 (getD_dn (by decide) h0), fun h0 => HV.out.k14 (getD_dn (by decide) h0), fun h0 => HV.out.k15 (getD_dn (by decide) h0), fun h0 => HV.out.k16 (getD_dn (by decide) h0), fun h0 => HV.out.k17 (getD_dn (by decide) h0), fun h0 => HV.out.k18 (getD_dn (by decide) h0), fun h0 => HV.out.k19 (getD_dn (by decide) h0), fun h0 => HV.out.k20 (getD_dn (by decide) h0), fun h0 => HV.out.k21 (getD_dn (by decide) h0), fun h0 => HV.out.k22 (getD_dn (by decide) h0), fun h0 => HV.out.k23 (getD_dn (by decide) h0), fun h0 => HV.out.k24 (getD_dn (by decide) h0), fun h0 => HV.out.k25 (getD_dn (by decide) h0), fun h0 => HV.out.k26 (getD_dn (by decide) h0), fun h0 => HV.out.k27 (getD_dn (by decide) h0), fun h0 => HV.out.k28 (getD_dn (by decide) h0), fun h0 => HV.out.k29 (getD_dn (by decide) h0), fun h0 => HV.out.k30 (getD_dn (by decide) h0), fun h0 => HV.out.k31 (getD_dn (by decide) h0), fun h0 => HV.out.k32 (getD_dn (by decide) h0), fun h0 => HV.out.k33 (getD_dn (by decide) h0), fun h0 => HV.out.k34 (getD_dn (by decide) h0), fun h0 => HV.out.k36 (getD_dn (by decide) h0), fun h0 => HV.out.k37 (getD_dn (by decide) h0), fun _ => rfl, fun h0 => HV.out.r35 (getD_dn (by decide) h0), HV.out.g, HV.out.d, HV.out.c, HV.out.e⟩⟩
    · obtain rfl : k = N := by omega
      have hcx : decide ((k : Int) < (k : Int)) = false := by simp
      rw [show (names sls).take k = names sls from List.take_of_length_le (by rw [← posL_len, HN.out]; omega), cnt_names]
      go_wp2_with fail
      go_loopw [11, 81] (fun _ v wr => ∃ j : Nat, v = .int .i64 (j : Int) ∧ j ≤ sls.length ∧ Below w2.heap.size w2 wr) (fun _ v _ => sls.length - (intOf v).toNat)
      case atStart => exact ⟨0, rfl, by omega, HB.out⟩
      case round =>
        obtain ⟨j, rfl, hj, hb⟩ := hrel
        have HQ := Lib.hid hb
        have HQW := Lib.hid (HB2.out.trans (hb.mono HB2.out.size))
        clear hb
        rcases Nat.lt_or_ge j sls.length with hlt | hge
        · obtain ⟨x, hl⟩ : ∃ x, sls[j]? = some x := ⟨_, List.getElem?_eq_getElem hlt⟩
          obtain ⟨ad, rfl, had, hcell⟩ := HRB.out (by intro e; rw [e] at hlt; cases hlt)
          have hcy : decide ((j : Int) < (sls.length : Int)) = true := by simp; omega
          obtain ⟨c0, c1, c2, c3, c4, c5, c6⟩ := (hcell j x hl).below HQW.out (by rw [add_block]; exact had)
          have hph := pos_has hl
          obtain ⟨W5, hW5⟩ : ∃ W5, wr.alloc (.cells x.1.cells 36) = W5 := ⟨_, rfl⟩
          have k5 : LotBox W5 wr.heap.size x.1 := by rw [← hW5]; exact heap_alloc_new wr _
          have b5 : Below wr.heap.size wr W5 := by rw [← hW5]; exact (Below.refl _ wr).alloc (Nat.le_refl _) _
          have HW5 := Lib.hid (HQ.out.trans (b5.mono HQ.out.size))
          have HHP := Lib.hid (hasPos_any w2.heap.size AP (posL sls) cP wr.heap.size x.1 (by have := HPL.out; omega) hph W5 (HRP.out.below HW5.out) HW5.out.size k5)
          rw [HN.out] at HHP
          clear b5 k5 hcell hl hph
          unfold Lot.cells at hW5
          go_wp2_with fail
          refine HHP.out.mono ?_
          rintro e w6 ⟨rfl, b6⟩
          have HW6 := Lib.hid (HW5.out.trans (b6.mono HW5.out.size))
          clear b6 HW5 HHP c0 c1 c2 c3 c4 c5 c6 hW5
          go_wp2_with fail
          go_roundw
          case rel => exact ⟨j + 1, by go_num, by omega, HW6.out⟩
          case measure => simp [intOf]; omega
        · have hcy : decide ((j : Int) < (sls.length : Int)) = false := by simp; omega
          go_wp2_with fail
          refine (awake19_any _ (HT.out.below HQW.out)).mono ?_
          rintro e wz ⟨rfl, bz⟩
          have HZ := Lib.hid (HQW.out.trans (bz.mono HQW.out.size))
          clear bz
          go_wp2_with fail
          go_ret
          exact ⟨rfl, HZ.out⟩
end Go.Proofs.YthmfkgcoocikjaaGreatDoor
