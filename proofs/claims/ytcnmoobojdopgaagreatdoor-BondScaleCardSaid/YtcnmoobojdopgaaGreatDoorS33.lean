/-
  The walk of bond.Present. (Printed by gen_bd15.py.)
-/
import Derived.Test.YtcnmoobojdopgaaGreatDoorS32
set_option linter.unusedVariables false
set_option linter.unusedSimpArgs false
set_option maxHeartbeats 16000000
set_option maxRecDepth 100000
namespace Go.Proofs.YtcnmoobojdopgaaGreatDoor
open Go.RowKit Tr Go.Shelf
attribute [local go_sem] Oper.semAt_some
theorem vl_one1 : vl one1 = 1 := by rw [one1_eq, vl_I]
structure PAV (w : World) (i : Inst) (yn yd : ByteArray) (ad : Addr) (cur : Array Value) (o1 g : Rat) (nb : Nat) (L : Array Bool) (W : World) (s10 s31 s32 s33 : Value) : Prop where
 k0 : L.getD 0 false = true → s31 = .agg #[.string (I o1.num), .string (dn o1)]
 k1 : L.getD 1 false = true → s32 = .agg #[.string yn, .string yd]
 k2 : L.getD 2 false = true → s33 = .agg #[.string (I g.num), .string (dn g)]
 k3 : L.getD 3 false = true → s10 = .pointer (some ⟨nb, 0, none⟩)
 bx : BX w [(w.heap.size, .cells i.cells 27 (0, 0)), (w.heap.size + 1, .cells #[.string yn, .string yd] 25 (0, 0)), (w.heap.size + 2, fz), (ad.block, .cells cur 60 (0, 0))] W
 o4 : L.getD 3 false = true → L.getD 4 false = false → W.heap[nb]? = some (fz)
 b4 : L.getD 3 false = true → w.heap.size ≤ nb ∧ ∀ x, x ∈ [(w.heap.size, .cells i.cells 27 (0, 0)), (w.heap.size + 1, .cells #[.string yn, .string yd] 25 (0, 0)), (w.heap.size + 2, fz), (ad.block, .cells cur 60 (0, 0))] → x.1 ≠ nb
 n4 : L.getD 4 false = true → W.heap[nb]? = some (fobj g)
 q4 : L.getD 4 false = true → L.getD 3 false = true
structure PAJ (w : World) (i : Inst) (yn yd : ByteArray) (ad : Addr) (cur : Array Value) (o1 g : Rat) (x0 x1 x2 x3 x4 x6 x7 x8 x9 x11 x12 x13 x14 x15 x16 x17 x18 x19 x20 x21 x22 x23 x24 x25 x26 x27 x28 x29 x30 x34 x35 x36 x37 x38 x39 x40 x41 x42 x43 x44 x45 x46 x47 x48 x49 x50 x51 x52 x53 x54 x55 x56 x57 x58 x59 x60 x61 x62 x63 x64 x65 x66 x67 x68 x69 x70 x71 x72 x73 x74 x75 x76 x77 x78 x79 x80 x81 x82 x83 x84 x85 x86 x87 x88 x89 x90 x91 x92 x93 x94 x95 x96 x97 x98 x99 x100 x101 x102 x103 x104 x105 x106 x107 x108 x109 x110 x111 x112 x113 x114 : Value) (L : Array Bool) (a : Act) (W : World) : Prop where
 sz : L.size = 5
 fr : ∃ nb : Nat, ∃ s10 s31 s32 s33 : Value, a = { tmps := #[x0, x1, x2, x3, x4, .pointer (some ⟨w.heap.size + 1, 0, none⟩), x6, x7, x8, x9, s10, x11, x12, x13, x14, x15, x16, x17, x18, x19, x20, x21, x22, x23, x24, x25, x26, x27, x28, x29, x30, s31, s32, s33, x34, x35, x36, x37, x38, x39, x40, x41, x42, x43, x44, x45, x46, x47, x48, x49, x50, x51, x52, x53, x54, x55, x56, x57, x58, x59, x60, x61, x62, x63, x64, x65, x66, x67, x68, x69, x70, x71, x72, x73, x74, x75, x76, x77, x78, x79, x80, x81, x82, x83, x84, x85, x86, x87, x88, x89, x90, x91, x92, x93, x94, x95, x96, x97, x98, x99, x100, x101, x102, x103, x104, x105, x106, x107, x108, x109, x110, x111, x112, x113, x114], defers := [] } ∧ PAV w i yn yd ad cur o1 g nb L W s10 s31 s32 s33
theorem num_pos' {q : Rat} : 0 < q.num ↔ 0 < q := by
 constructor
 ·intro h
  have h1 : 0 ≤ q := Rat.num_nonneg.1 (by omega)
  have h2 : q ≠ 0 := fun e => by rw [e] at h; exact absurd h (by decide)
  grind
 ·intro h
  have h1 : 0 ≤ q.num := Rat.num_nonneg.2 (by grind)
  have h2 : q.num ≠ 0 := fun e => by have := Rat.num_eq_zero.1 e; grind
  omega
theorem part_le {a b : Int} (h0 : 0 < a) (h1 : a ≤ b) : (0 : Rat) < Rat.divInt a b ∧ Rat.divInt a b ≤ 1 := by
 have hb : (0 : Rat) < (b : Rat) := by exact_mod_cast (show (0 : Int) < b by omega)
 rw [Rat.divInt_eq_div]
 refine ⟨(Rat.lt_div_iff hb).2 ?_, Rat.not_lt.1 fun h => ?_⟩
 ·rw [Rat.zero_mul]; exact_mod_cast h0
 ·have h2 := (Rat.lt_div_iff hb).1 h
  rw [Rat.one_mul] at h2
  have h3 : b < a := by exact_mod_cast h2
  omega
theorem dobj_zero : dobj 0 = .cells #[.string ⟨#[]⟩, .string ⟨#[]⟩] 91 (0, 0) := by
 unfold dobj dn
 rw [show (0 : Rat).num = 0 from rfl, show (0 : Rat).den = 1 from rfl, if_pos rfl, ← zero_eq]
theorem not_row_lt {W : World} {b n₀ size k : Nat} {e : TypeId} {v : Value} {xs : List Value} (hb : b < n₀) (hrow : W.ownsRow n₀ e size v k xs) : v.ownBlock ≠ some b := by
 rcases hrow.2 with ⟨rfl, _⟩ | ⟨g, cap, cur, rfl, hg, _⟩
 ·simp [Value.ownBlock]
 ·intro ej
  obtain rfl : g = b := by simpa [Value.ownBlock] using ej
  omega
theorem kept5 {W w1 : World} {v u : Value} {tmp o : Obj} {b BE n₀ size k : Nat} {e : TypeId} {xs : List Value} (h : W.heap[b]? = some o) (hb : b < n₀) (hrow : W.ownsRow n₀ e size v k xs) (hg : (W.alloc tmp).grownBy w1 v.ownBlock) (hne : b ≠ BE) :
 (w1.setCell ⟨BE, 0, none⟩ u).heap[b]? = some o := by
 have hlt : b < W.heap.size := (Array.getElem?_eq_some_iff.1 h).1
 rw [Below.heap_setCell _ _ _ b hne]
 refine (hg.block b (by simp; omega) (Ne.symm (not_row_lt hb hrow))).trans ?_
 exact heap_alloc_keep h tmp
theorem BX.own (w : World) (bl : List (Nat × Obj)) (hc : ∀ x, x ∈ bl → x.2.isCells = true) {β : Type} (N : Nat) (hN : w.heap.size ≤ N) : OwnFrom N (fun (_ : β) W => BX w bl W) := by
 intro s X Y row hs hg hr
 refine ⟨(ownFrom_below (β := β) (Nat.le_refl _) hN) s X Y row hs.1 hg hr, fun x hx => ?_⟩
 have h := hs.2 x hx
 refine (hg.block x.1 (Array.getElem?_eq_some_iff.1 h).1 (fun e => ?_)).trans h
 obtain ⟨_, o, ho, hcc⟩ := hr x.1 e.symm
 rw [h] at ho
 obtain rfl := Option.some.inj ho
 rw [hc x hx] at hcc; cases hcc
def PI (w : World) (n₀ Ba : Nat) (bl : List (Nat × Obj)) (pre : List (Int × Int × Rat)) (W : World) : Prop :=
 (∃ v, Boxed W Ba 71 v ∧ W.ownsRow n₀ 25 2 v pre.length (frV (pre.map fun x => x.2.2)) ∧ (∃ A' k' c', v = .slice A' k' c')) ∧ BX w bl W
theorem PI.own (w : World) (n₀ Ba : Nat) (bl : List (Nat × Obj)) (hc : ∀ x, x ∈ bl → x.2.isCells = true) (N : Nat) (hN : w.heap.size ≤ N) : OwnFrom N (PI w n₀ Ba bl) :=
 OwnFrom.and ((holdsRow_own n₀ Ba 71 25 2 (fun (pre : List (Int × Int × Rat)) => pre.length) (fun pre => frV (pre.map fun x => x.2.2)) (fun _ v => ∃ A' k' c', v = .slice A' k' c')).from _) (BX.own w bl hc N hN)
theorem Tryz.infoFrac2 : (Tryz.prog.info? 25).map (fun i => (i.zero, i.size, i.bytes)) = some (some (.agg #[.string ⟨#[]⟩, .string ⟨#[]⟩]), 2, 32) := by kernel_rfl
structure PBV (w : World) (bl : List (Nat × Obj)) (bq nb Ba D N acap m : Nat) (aa : Addr) (am g pv1 pv2 : Rat)  (L : Array Bool) (W : World) (s76 s77 s78 s79 s80 s81 s82 : Value) : Prop where
 k0 : L.getD 0 false = true → s76 = .func (.func 53) #[.pointer (some ⟨bq, 0, none⟩)] #[]
 k1 : L.getD 1 false = true → s77 = .slice (some aa) N acap
 k2 : L.getD 2 false = true → s78 = .int .i64 (m : Int)
 k3 : L.getD 3 false = true → s79 = .pointer (some (aa.add (m * 2)))
 k4 : L.getD 4 false = true → s80 = .agg #[.string (I am.num), .string (dn am)]
 k5 : L.getD 5 false = true → s81 = .agg #[.string (I g.num), .string (dn g)]
 bx : BX w bl W
 o6 : L.getD 6 false = false → W.heap[bq]? = some (dobj pv1)
 n6 : L.getD 6 false = true → W.heap[bq]? = some (dobj pv2)
structure PBJ (w : World) (bl : List (Nat × Obj)) (bq nb Ba D N acap m : Nat) (aa : Addr) (am g pv1 pv2 : Rat) (x0 x1 x2 x3 x4 x5 x6 x7 x8 x9 x12 x13 x14 x15 x18 x19 x20 x21 x22 x23 x24 x25 x26 x27 x28 x29 x30 x31 x32 x33 x34 x35 x36 x37 x38 x39 x40 x41 x42 x43 x44 x45 x46 x47 x48 x49 x50 x51 x52 x53 x54 x55 x56 x57 x58 x59 x60 x61 x62 x63 x64 x65 x66 x67 x68 x69 x70 x71 x72 x73 x74 x75 x83 x84 x85 x86 x87 x88 x89 x90 x91 x92 x93 x94 x95 x96 x97 x98 x99 x100 x101 x102 x103 x104 x105 x106 x107 x108 x109 x110 x111 x112 x113 x114 : Value) (L : Array Bool) (a : Act) (W : World) : Prop where
 sz : L.size = 7
 fr : ∃ s76 s77 s78 s79 s80 s81 s82 : Value, a = { tmps := #[x0, x1, x2, x3, x4, x5, x6, x7, x8, x9, .pointer (some ⟨nb, 0, none⟩), .pointer (some ⟨Ba, 0, none⟩), x12, x13, x14, x15, .func (.func 53) #[.pointer (some ⟨bq, 0, none⟩)] #[], .int .i64 (m : Int), x18, x19, x20, x21, x22, x23, x24, x25, x26, x27, x28, x29, x30, x31, x32, x33, x34, x35, x36, x37, x38, x39, x40, x41, x42, x43, x44, x45, x46, x47, x48, x49, x50, x51, x52, x53, x54, x55, x56, x57, x58, x59, x60, x61, x62, x63, x64, x65, x66, x67, x68, x69, x70, x71, x72, x73, x74, x75, s76, s77, s78, s79, s80, s81, s82, x83, x84, x85, x86, x87, x88, x89, x90, x91, x92, x93, x94, x95, x96, x97, x98, x99, x100, x101, x102, x103, x104, x105, x106, x107, x108, x109, x110, x111, x112, x113, x114], defers := [{ target := .collected D, args := #[] }] } ∧ PBV w bl bq nb Ba D N acap m aa am g pv1 pv2  L W s76 s77 s78 s79 s80 s81 s82
structure PCV (w : World) (bl : List (Nat × Obj)) (D N cap k : Nat) (ad : Addr) (d px py : Int) (lq : Rat) (nl : Nat) (L : Array Bool) (W : World) (s18 s83 s84 s85 s86 s87 s88 s89 s90 s91 s92 s93 s94 s95 s96 s97 s98 s99 s100 s101 : Value) : Prop where
 k0 : L.getD 0 false = true → s83 = .slice (some ad) N cap
 k1 : L.getD 1 false = true → s84 = .int .i64 (k : Int)
 k2 : L.getD 2 false = true → s85 = .pointer (some (ad.add (k * 2)))
 k3 : L.getD 3 false = true → s86 = .pointer (some ⟨(ad.add (k * 2)).block, (ad.add (k * 2)).off + 1, none⟩)
 k4 : L.getD 4 false = true → s87 = .int .i64 py
 k5 : L.getD 5 false = true → s88 = .int .i64 d
 k6 : L.getD 6 false = true → s89 = .int .i64 (py - d)
 k7 : L.getD 7 false = true → s90 = .slice (some ad) N cap
 k8 : L.getD 8 false = true → s91 = .int .i64 (k : Int)
 k9 : L.getD 9 false = true → s92 = .pointer (some (ad.add (k * 2)))
 k10 : L.getD 10 false = true → s93 = .pointer (some ⟨(ad.add (k * 2)).block, (ad.add (k * 2)).off + 1, none⟩)
 k11 : L.getD 11 false = true → s94 = .int .i64 py
 k12 : L.getD 12 false = true → s95 = .slice (some ad) N cap
 k13 : L.getD 13 false = true → s96 = .int .i64 (k : Int)
 k14 : L.getD 14 false = true → s97 = .pointer (some (ad.add (k * 2)))
 k15 : L.getD 15 false = true → s98 = .pointer (some (ad.add (k * 2)))
 k16 : L.getD 16 false = true → s99 = .int .i64 px
 k17 : L.getD 17 false = true → s100 = .int .i64 (py - px)
 k18 : L.getD 18 false = true → s101 = .agg #[.string (I lq.num), .string (dn lq)]
 k19 : L.getD 19 false = true → s18 = .pointer (some ⟨nl, 0, none⟩)
 bx : BX w bl W
 o20 : L.getD 19 false = true → L.getD 20 false = false → W.heap[nl]? = some (fz)
 b20 : L.getD 19 false = true → w.heap.size ≤ nl ∧ ∀ x, x ∈ bl → x.1 ≠ nl
 n20 : L.getD 20 false = true → W.heap[nl]? = some (fobj lq)
 q20 : L.getD 20 false = true → L.getD 19 false = true
structure PCJ (w : World) (bl : List (Nat × Obj)) (D N cap k : Nat) (ad : Addr) (d px py : Int) (lq : Rat) (x0 x2 x3 x4 x5 x6 x7 x9 x10 x11 x12 x13 x15 x16 x17 x19 x20 x21 x22 x23 x24 x25 x26 x27 x28 x29 x30 x31 x32 x33 x34 x35 x36 x37 x38 x39 x40 x41 x42 x43 x44 x45 x46 x47 x48 x49 x50 x51 x52 x53 x54 x55 x56 x57 x58 x59 x60 x61 x62 x63 x64 x65 x66 x67 x68 x69 x70 x71 x72 x73 x74 x75 x76 x77 x78 x79 x80 x81 x82 x102 x103 x104 x105 x106 x107 x108 x109 x110 x111 x112 x113 x114 : Value) (L : Array Bool) (a : Act) (W : World) : Prop where
 sz : L.size = 21
 fr : ∃ nl : Nat, ∃ s18 s83 s84 s85 s86 s87 s88 s89 s90 s91 s92 s93 s94 s95 s96 s97 s98 s99 s100 s101 : Value, a = { tmps := #[x0, .int .i64 d, x2, x3, x4, x5, x6, x7, .slice (some ad) N cap, x9, x10, x11, x12, x13, .int .i64 (k : Int), x15, x16, x17, s18, x19, x20, x21, x22, x23, x24, x25, x26, x27, x28, x29, x30, x31, x32, x33, x34, x35, x36, x37, x38, x39, x40, x41, x42, x43, x44, x45, x46, x47, x48, x49, x50, x51, x52, x53, x54, x55, x56, x57, x58, x59, x60, x61, x62, x63, x64, x65, x66, x67, x68, x69, x70, x71, x72, x73, x74, x75, x76, x77, x78, x79, x80, x81, x82, s83, s84, s85, s86, s87, s88, s89, s90, s91, s92, s93, s94, s95, s96, s97, s98, s99, s100, s101, x102, x103, x104, x105, x106, x107, x108, x109, x110, x111, x112, x113, x114], defers := [{ target := .collected D, args := #[] }] } ∧ PCV w bl D N cap k ad d px py lq nl L W s18 s83 s84 s85 s86 s87 s88 s89 s90 s91 s92 s93 s94 s95 s96 s97 s98 s99 s100 s101
structure PDV (w : World) (bl : List (Nat × Obj)) (bq nl Ba D N acap k : Nat) (aa : Addr) (yn yd : ByteArray) (ak o1 lq yl bg pvk pvr : Rat)  (L : Array Bool) (W : World) (s102 s103 s104 s105 s106 s107 s108 s109 s110 s111 s112 : Value) : Prop where
 k0 : L.getD 0 false = true → s102 = .func (.func 53) #[.pointer (some ⟨bq, 0, none⟩)] #[]
 k1 : L.getD 1 false = true → s103 = .slice (some aa) N acap
 k2 : L.getD 2 false = true → s104 = .int .i64 (k : Int)
 k3 : L.getD 3 false = true → s105 = .pointer (some (aa.add (k * 2)))
 k4 : L.getD 4 false = true → s106 = .agg #[.string (I ak.num), .string (dn ak)]
 k5 : L.getD 5 false = true → s107 = .agg #[.string (I o1.num), .string (dn o1)]
 k6 : L.getD 6 false = true → s108 = .agg #[.string yn, .string yd]
 k7 : L.getD 7 false = true → s109 = .agg #[.string (I lq.num), .string (dn lq)]
 k8 : L.getD 8 false = true → s110 = .agg #[.string (I yl.num), .string (dn yl)]
 k9 : L.getD 9 false = true → s111 = .agg #[.string (I bg.num), .string (dn bg)]
 bx : BX w bl W
 o10 : L.getD 10 false = false → W.heap[bq]? = some (dobj pvk)
 n10 : L.getD 10 false = true → W.heap[bq]? = some (dobj pvr)
structure PDJ (w : World) (bl : List (Nat × Obj)) (bq nl Ba D N acap k : Nat) (aa : Addr) (yn yd : ByteArray) (ak o1 lq yl bg pvk pvr : Rat) (x0 x1 x2 x3 x4 x6 x7 x8 x9 x10 x12 x13 x15 x17 x19 x20 x21 x22 x23 x24 x25 x26 x27 x28 x29 x30 x31 x32 x33 x34 x35 x36 x37 x38 x39 x40 x41 x42 x43 x44 x45 x46 x47 x48 x49 x50 x51 x52 x53 x54 x55 x56 x57 x58 x59 x60 x61 x62 x63 x64 x65 x66 x67 x68 x69 x70 x71 x72 x73 x74 x75 x76 x77 x78 x79 x80 x81 x82 x83 x84 x85 x86 x87 x88 x89 x90 x91 x92 x93 x94 x95 x96 x97 x98 x99 x100 x101 x113 x114 : Value) (L : Array Bool) (a : Act) (W : World) : Prop where
 sz : L.size = 11
 fr : ∃ s102 s103 s104 s105 s106 s107 s108 s109 s110 s111 s112 : Value, a = { tmps := #[x0, x1, x2, x3, x4, .pointer (some ⟨w.heap.size + 1, 0, none⟩), x6, x7, x8, x9, x10, .pointer (some ⟨Ba, 0, none⟩), x12, x13, .int .i64 (k : Int), x15, .func (.func 53) #[.pointer (some ⟨bq, 0, none⟩)] #[], x17, .pointer (some ⟨nl, 0, none⟩), x19, x20, x21, x22, x23, x24, x25, x26, x27, x28, x29, x30, x31, x32, x33, x34, x35, x36, x37, x38, x39, x40, x41, x42, x43, x44, x45, x46, x47, x48, x49, x50, x51, x52, x53, x54, x55, x56, x57, x58, x59, x60, x61, x62, x63, x64, x65, x66, x67, x68, x69, x70, x71, x72, x73, x74, x75, x76, x77, x78, x79, x80, x81, x82, x83, x84, x85, x86, x87, x88, x89, x90, x91, x92, x93, x94, x95, x96, x97, x98, x99, x100, x101, s102, s103, s104, s105, s106, s107, s108, s109, s110, s111, s112, x113, x114], defers := [{ target := .collected D, args := #[] }] } ∧ PDV w bl bq nl Ba D N acap k aa yn yd ak o1 lq yl bg pvk pvr  L W s102 s103 s104 s105 s106 s107 s108 s109 s110 s111 s112
theorem bPresent_any (i : Inst) (h : BdI i) (d : Int) (yn yd : ByteArray) (s1 : yn.size ≤ 60) (s2 : yd.size ≤ 59) (hc : CanQ yn yd) (w : World) (ht : Tabs w) :
 Calls Tryz.prog 15 #[i.enc, .int .i64 d, .agg #[.string yn, .string yd]] w (PresP w i d (fv yn yd)) := by
 refine (callsIn_wide (n := 6)).1 ?_
 have HH := hI h
 have HT := hI ht
 have HBY : Hid (BdQ (fv yn yd) 60) := fv_bd _ _ s1 (by omega)
 have HS := hI (And.intro s1 s2)
 have HCQ : Hid (.agg #[.string yn, .string yd] = fenc (fv yn yd)) := by show _ = _; unfold fenc; rw [← hc.1, ← hc.2]
 obtain ⟨Q, hQ⟩ : ∃ Q, PresP w i d (fv yn yd) = Q := ⟨_, rfl⟩
 rw [hQ]
 have HQ := hI hQ
 obtain ⟨W0, hW0', hB0, hz, k0, k1, k2⟩ := box3 w (.cells i.cells 27) (.cells #[.string yn, .string yd] 25) fz
 have hW0 := hW0'.symm
 have hg0 : BX w [(w.heap.size, .cells i.cells 27 (0, 0)), (w.heap.size + 1, .cells #[.string yn, .string yd] 25 (0, 0)), (w.heap.size + 2, fz)] W0 := ⟨hB0, fun x hx => by
  rcases List.mem_cons.1 hx with rfl | hx
  ·exact k0
  ·rcases List.mem_cons.1 hx with rfl | hx
   ·exact k1
   ·rcases List.mem_cons.1 hx with rfl | hx
    ·exact k2
    ·cases hx⟩
 have HCK : Hid (∀ W, W = W0.alloc (.cells #[.string yn, .string yd] 25) → Calls Tryz.prog 50 #[i.enc, .int .i64 d, .slice (some ⟨W0.heap.size, 0, none⟩) 1 1] W (CkPer W i d)) := fun W hW => by
  subst hW
  have b1 : Below W0.heap.size W0 (W0.alloc (.cells #[.string yn, .string yd] 25)) := (Below.refl _ W0).alloc (Nat.le_refl _) _
  refine bChk_ok i h d _ 1 1 _ (fun W' hW' => hasFrac_one W0.heap.size yn yd false (by omega) (by omega) ⟨fun _ => hc, fun _ => rfl⟩ W' (bkeep hW' (heap_alloc_new W0 _)) (ht.below (hB0.trans ((b1.trans (hW'.mono b1.size)).mono hB0.size)))) (ht.below (hB0.trans (b1.mono hB0.size)))
 have q0 := Lib.cell_of_heap k1 0
 have q1 := Lib.cell_of_heap k1 1
 simp at q0 q1
 have c0 := Lib.cell_of_heap k0 0
 have c1 := Lib.cell_of_heap k0 1
 have c2 := Lib.cell_of_heap k0 2
 have c3 := Lib.cell_of_heap k0 3
 have c4 := Lib.cell_of_heap k0 4
 have c5 := Lib.cell_of_heap k0 5
 have c6 := Lib.cell_of_heap k0 6
 have c7 := Lib.cell_of_heap k0 7
 have c8 := Lib.cell_of_heap k0 8
 have c9 := Lib.cell_of_heap k0 9
 have c10 := Lib.cell_of_heap k0 10
 have c11 := Lib.cell_of_heap k0 11
 have c12 := Lib.cell_of_heap k0 12
 have c13 := Lib.cell_of_heap k0 13
 have c14 := Lib.cell_of_heap k0 14
 simp [Inst.cells] at c0 c1 c2 c3 c4 c5 c6 c7 c8 c9 c10 c11 c12 c13 c14
 have hsz : w.heap.size + 3 ≤ W0.heap.size := by omega
 clear hB0 hz k0 k1 k2 hW0' h hc s1 s2 ht hQ
 unfold Inst.enc Inst.cells at *
 refine callsIn_of_wp_marks Tryz.func15 rfl trivial ?_ rfl
 simp only [Tryz.ntmps15, List.size_toArray, List.length_cons, List.length_nil, Nat.reduceAdd, Nat.reduceSub, Array.replicate_succ, Array.replicate_zero, List.push_toArray, List.append_toArray, List.nil_append, List.cons_append]
 gi_wp2_with fail
 refine ⟨trivial, ?_⟩
 refine (callsIn_wide.2 (HCK.out _ rfl)).mono ?_
 rintro e w1 ⟨x1, hr⟩
 have hg1 := (hg0.below ((Below.refl _ W0).alloc (Nat.le_refl _) (.cells #[.string yn, .string yd] 25))).below x1
 have k2 := hg1.get 2 rfl
 have m0 := Lib.cell_of_heap k2 0
 have m1 := Lib.cell_of_heap k2 1
 have f0 := Lib.frozen_of_heap k2 0
 have f1 := Lib.frozen_of_heap k2 1
 have k1 := hg1.get 1 rfl
 have q0 := Lib.cell_of_heap k1 0
 have q1 := Lib.cell_of_heap k1 1
 simp at m0 m1 f0 f1 q0 q1
 have HG1 := hI hg1
 have HK2 := hI k2
 have HZ := hI fenc_zero
 have HSW := hI hsz
 clear hg0 hg1 k1 k2 hW0 hsz c0 c1 c2 c3 c4 c5 c6 c7 c8 c9 c10 c11 c12 c13 c14
 rcases hr with ⟨hl, rfl⟩ | ⟨hl, ⟨hd, rfl⟩ | ⟨hd, ad, cap, rfl, hab, hrd⟩⟩
 ·have HL := hI hl
  clear hl x1
  gi_wp2
  refine ⟨_, results_row_tmp2 rfl _ _ (w.heap.size + 2) _ _ (0, 0) _ rfl (Go.Proofs.YtcnmoobojdopgaaGreatDoor.set2 HK2.out _ _) Tryz.underlying25 rfl (by kernel_rfl), ?_⟩
  rw [← HQ.out]
  exact ⟨set2_below (by omega) HG1.out.1 _ _, .inl ⟨HL.out, by rw [HZ.out]; rfl⟩⟩
 ·have HL := hI hl
  have HD := hI hd
  clear hl hd x1
  gi_wp2
  refine ⟨_, results_row_tmp2 rfl _ _ (w.heap.size + 2) _ _ (0, 0) _ rfl (Go.Proofs.YtcnmoobojdopgaaGreatDoor.set2 HK2.out _ _) Tryz.underlying25 rfl (by kernel_rfl), ?_⟩
  rw [← HQ.out]
  exact ⟨set2_below (by omega) HG1.out.1 _ _, .inr ⟨HL.out, .inl ⟨HD.out, by rw [HZ.out]; rfl⟩⟩⟩
 ·have HL := hI hl
  have HD := hI hd
  obtain ⟨N, hN⟩ : ∃ N, (perL i).length = N := ⟨_, rfl⟩
  have HN := hI hN
  rw [hN]
  obtain ⟨cur, hoo, hrr⟩ := hrd
  have HRR := hI hrr
  have hab2 : w.heap.size + 3 < ad.block := by simp only [World.size_alloc] at hab; have := HSW.out; omega
  have C1 := fun W (hW : Tabs W) => fOf_any one1 W (by decide) hW
  rw [vl_one1] at C1
  obtain ⟨o1, ho1⟩ : ∃ o1 : Rat, ((1 : Int) : Rat) = o1 := ⟨_, rfl⟩
  rw [ho1] at C1
  have ho1' : o1 = 1 := ho1.symm
  have hbo : BdQ o1 1 := by rw [ho1']; exact BdQ.int (z := 1) (by omega) (by omega)
  have C2 := fun W (hW : Tabs W) => fAddQ hbo HBY.out (by omega) (by omega) W hW
  have HBG : Hid (BdQ (o1 + fv yn yd) 70) := (BdQ.add hbo HBY.out).mono (by omega)
  obtain ⟨g, hgg⟩ : ∃ g, o1 + fv yn yd = g := ⟨_, rfl⟩
  have HGY : Hid (1 + fv yn yd = g) := by show _ = _; rw [← ho1']; exact hgg
  rw [hgg] at C2 HBG
  rw [← HCQ.out] at C2
  unfold fenc at C1 C2
  have HOF : Hid (∀ W, BX w [(w.heap.size, .cells i.cells 27 (0, 0)), (w.heap.size + 1, .cells #[.string yn, .string yd] 25 (0, 0)), (w.heap.size + 2, fz), (ad.block, .cells cur 60 (0, 0))] W → Calls Tryz.prog 29 #[.string ⟨#[49]⟩] W fun e w' => e = .returned (.agg #[.string (I o1.num), .string (dn o1)]) ∧ Below W.heap.size W w') := fun W hW => C1 W (HT.out.below hW.1)
  have HAD : Hid (∀ W, BX w [(w.heap.size, .cells i.cells 27 (0, 0)), (w.heap.size + 1, .cells #[.string yn, .string yd] 25 (0, 0)), (w.heap.size + 2, fz), (ad.block, .cells cur 60 (0, 0))] W → Calls Tryz.prog 51 #[.agg #[.string (I o1.num), .string (dn o1)], .agg #[.string yn, .string yd]] W fun e w' => e = .returned (.agg #[.string (I g.num), .string (dn g)]) ∧ Below W.heap.size W w') := fun W hW => C2 W (HT.out.below hW.1)
  have hg : BX w [(w.heap.size, .cells i.cells 27 (0, 0)), (w.heap.size + 1, .cells #[.string yn, .string yd] 25 (0, 0)), (w.heap.size + 2, fz), (ad.block, .cells cur 60 (0, 0))] w1.drew := ⟨HG1.out.1.drew, fun z hz => by
   rcases List.mem_cons.1 hz with rfl | hz
   ·exact HG1.out.get 0 rfl
   ·rcases List.mem_cons.1 hz with rfl | hz
    ·exact HG1.out.get 1 rfl
    ·rcases List.mem_cons.1 hz with rfl | hz
     ·exact HG1.out.get 2 rfl
     ·rcases List.mem_cons.1 hz with rfl | hz
      ·exact hoo
      ·cases hz⟩
  have HO1 := hI ho1'
  clear hl x1 hd hN hrr hoo C1 C2 hbo hgg ho1 ho1'
  gi_wp2
  have mixed : Tryz.prog.follows .mixedOrders = true := by kernel_rfl
  refine wpIn_region_any mixed (wpAnyIn_inv (PAJ w i yn yd ad cur o1 g _ _ _ _ _ _ _ _ _ _ _ _ _ _ _ _ _ _ _ _ _ _ _ _ _ _ _ _ _ _ _ _ _ _ _ _ _ _ _ _ _ _ _ _ _ _ _ _ _ _ _ _ _ _ _ _ _ _ _ _ _ _ _ _ _ _ _ _ _ _ _ _ _ _ _ _ _ _ _ _ _ _ _ _ _ _ _ _ _ _ _ _ _ _ _ _ _ _ _ _ _ _ _ _ _ _ _ _ _ _) ?stPA ?dnPA _ _ _ _ ⟨by simp, ⟨0, _, _, _, _, rfl, fun h => by simp at h, fun h => by simp at h, fun h => by simp at h, fun h => by simp at h, hg, fun h => by simp at h, fun h => by simp at h, fun h => by simp at h, fun h => by simp at h⟩⟩ (by decide))
  case dnPA =>
   intro L a w' hj hr
   have all := all_on hr hj.sz (by kernel_rfl)
   obtain ⟨nb, s10, s31, s32, s33, rfl, hv⟩ := hj.fr
   have HF := hI (And.intro (hv.n4 (all 4 (by omega))) (And.intro hv.bx (hv.b4 (all 3 (by omega)))))
   have e10 := hv.k3 (all 3 (by omega))
   clear all hv hj hr
   subst e10
   have hn4 := HF.out.1
   have HB4 := hI HF.out.2.1
   have g0 := Lib.cell_of_heap hn4 0
   have g1 := Lib.cell_of_heap hn4 1
   simp at g0 g1
   clear hn4 q0 q1 m0 m1 f0 f1
   have C3 := fCompare_any (I g.num) (dn g) ⟨#[]⟩ ⟨#[]⟩ w' (Nat.le_trans HBG.out.num (by omega)) (Nat.le_trans HBG.out.dn (by omega)) (by decide) (by decide) (HT.out.below HB4.out.1)
   rw [show fv (I g.num) (dn g) - fv ⟨#[]⟩ ⟨#[]⟩ = g from by rw [fv_enc, fv_zero]; grind] at C3
   obtain ⟨cz, hcz⟩ : ∃ cz, cmpI g.num 0 = cz := ⟨_, rfl⟩
   rw [hcz] at C3
   have HC3 := hI C3
   have HCZ := hI hcz
   clear C3 hcz
   gi_wp2_with fail
   refine ⟨trivial, ?_⟩
   refine (callsIn_wide.2 HC3.out).mono ?_
   rintro e w5 ⟨rfl, x5⟩
   have HB5 := hI (HB4.out.below x5)
   have HN5 := hI (bkeep x5 HF.out.1)
   clear g0 g1 HC3 x5
   have k2 := HB5.out.get 2 rfl
   have m0 := Lib.cell_of_heap k2 0
   have m1 := Lib.cell_of_heap k2 1
   have f0 := Lib.frozen_of_heap k2 0
   have f1 := Lib.frozen_of_heap k2 1
   simp at m0 m1 f0 f1
   have k0 := HB5.out.get 0 rfl
   have c0 := Lib.cell_of_heap k0 0
   have c1 := Lib.cell_of_heap k0 1
   have c2 := Lib.cell_of_heap k0 2
   have c3 := Lib.cell_of_heap k0 3
   have c4 := Lib.cell_of_heap k0 4
   have c5 := Lib.cell_of_heap k0 5
   have c6 := Lib.cell_of_heap k0 6
   have c7 := Lib.cell_of_heap k0 7
   have c8 := Lib.cell_of_heap k0 8
   have c9 := Lib.cell_of_heap k0 9
   have c10 := Lib.cell_of_heap k0 10
   have c11 := Lib.cell_of_heap k0 11
   have c12 := Lib.cell_of_heap k0 12
   have c13 := Lib.cell_of_heap k0 13
   have c14 := Lib.cell_of_heap k0 14
   simp [Inst.cells] at c0 c1 c2 c3 c4 c5 c6 c7 c8 c9 c10 c11 c12 c13 c14
   clear k0 k2
   by_cases hgp : 0 < g
   ·have t5 : decide (cz ≤ 0) = false := decide_eq_false (by have := cmpI_gt.2 (num_pos'.2 hgp); have := HCZ.out; omega)
    have HGP := hI hgp
    have HGY1 : Hid (0 < 1 + fv yn yd) := by show (0 : Rat) < _; rw [HGY.out]; exact hgp
    clear hgp
    by_cases hlife : i.issued ≤ d ∧ d ≤ i.matures
    ·have t1 : decide (d < i.issued) = false := decide_eq_false (by omega)
     have t2 : decide (i.matures < d) = false := decide_eq_false (by omega)
     have HLF := hI hlife
     clear hlife
     by_cases hm : d = i.matures
     ·have t3 : decide (d = i.matures) = true := decide_eq_true hm
      have t4 : (d == i.matures) = true := by simpa using hm
      have HM := hI hm
      clear hm
      gi_wp2
      have k2 := HB5.out.get 2 rfl
      refine ⟨_, results_row_tmp2 rfl _ _ (w.heap.size + 2) _ _ (0, 0) _ rfl (Go.Proofs.YtcnmoobojdopgaaGreatDoor.set2 k2 _ _) Tryz.underlying25 rfl (by kernel_rfl), ?_⟩
      rw [← HQ.out]
      exact ⟨set2_below (by omega) HB5.out.1 _ _, .inr ⟨HL.out, .inr ⟨HD.out, .inr ⟨HGY1.out, .inr ⟨HLF.out, .inl ⟨HM.out, by rw [HZ.out]; rfl⟩⟩⟩⟩⟩⟩
     ·have t3 : decide (d = i.matures) = false := decide_eq_false hm
      have t4 : (d == i.matures) = false := by simpa using hm
      have HDM : Hid (d < i.matures) := by have := HLF.out; show d < _; omega
      have hl5 : w.heap.size + 3 < w5.heap.size := by have := HB5.out.lt 3 rfl; omega
      have hl6 : w.heap.size < w5.heap.size := by omega
      have hn5a : w5.heap.size ≠ w.heap.size := by omega
      clear hm
      gi_wp2_with fail
      refine ⟨trivial, ?_⟩
      refine (callsIn_wide.2 (bPay_any i _ _ ⟨_, _, _, rfl⟩)).mono ?_
      rintro e W3 ⟨rfl, hW3⟩
      simp only [World.size_alloc] at hW3 ⊢
      obtain ⟨W3', e3, b3, z3, q0, q1, q2⟩ := box3 w5 (.cells #[.slice none 0 0] 71) (.cells i.cells 27) (.cells #[.slice (some ad) N cap] 55)
      have eW : W3 = W3' := hW3.trans e3.symm
      clear hW3 e3
      subst eW
      obtain ⟨Ba, hBa⟩ : ∃ Ba, w5.heap.size = Ba := ⟨_, rfl⟩
      obtain ⟨bj, hbj⟩ : ∃ bj, w5.heap.size + 1 = bj := ⟨_, rfl⟩
      obtain ⟨bk, hbk⟩ : ∃ bk, w5.heap.size + 1 + 1 = bk := ⟨_, rfl⟩
      rw [hBa] at q0
      rw [hbj] at q1
      rw [hbk] at q2
      rw [hbk, hbj, hBa]
      have hbx3 : BX w ((nb, fobj g) :: [(w.heap.size, .cells i.cells 27 (0, 0)), (w.heap.size + 1, .cells #[.string yn, .string yd] 25 (0, 0)), (w.heap.size + 2, fz), (ad.block, .cells cur 60 (0, 0))]) W3 := ⟨(HB5.out.below b3).1, fun z hz => by
       rcases List.mem_cons.1 hz with rfl | hz
       ·exact bkeep b3 HN5.out
       ·exact (HB5.out.below b3).2 z hz⟩
      have hI0 : PI w Ba Ba ((nb, fobj g) :: [(w.heap.size, .cells i.cells 27 (0, 0)), (w.heap.size + 1, .cells #[.string yn, .string yd] 25 (0, 0)), (w.heap.size + 2, fz), (ad.block, .cells cur 60 (0, 0))]) [] W3 := ⟨⟨_, q0, World.ownsRow_nil _ _ _ _, ⟨_, _, _, rfl⟩⟩, hbx3⟩
      have hN4 : N ≤ 400 := by
       have h1 := pers_len i.issued i.matures i.months
       have h2 := HL.out
       have h3 := HN.out
       unfold perL at h3
       omega
      have hN0 : 0 < N := by
       have h1 := pers_len i.issued i.matures i.months
       have h3 := HN.out
       unfold perL at h3
       omega
      have HSEQ := hI (pay1_seq 5 bk bj i HH.out ad N cap _ W3 (by omega) HN.out (by omega) hN0 q1 q2 (hbx3.get 4 rfl) HRR.out w HT.out hbx3.1)
      have hadb : ad.block < w5.heap.size := HB5.out.lt 3 rfl
      have hnbb : nb < w5.heap.size := (Array.getElem?_eq_some_iff.1 HN5.out).1
      have hwb : w.heap.size ≤ W3.heap.size := hbx3.1.size
      have z3' : W3.heap.size = Ba + 3 := by rw [z3, hBa]
      have hcells : ∀ x, x ∈ ((nb, fobj g) :: [(w.heap.size, .cells i.cells 27 (0, 0)), (w.heap.size + 1, .cells #[.string yn, .string yd] 25 (0, 0)), (w.heap.size + 2, fz), (ad.block, .cells cur 60 (0, 0))]) → x.2.isCells = true := by simp [Obj.isCells]
      have hblt : ∀ x, x ∈ ((nb, fobj g) :: [(w.heap.size, .cells i.cells 27 (0, 0)), (w.heap.size + 1, .cells #[.string yn, .string yd] 25 (0, 0)), (w.heap.size + 2, fz), (ad.block, .cells cur 60 (0, 0))]) → x.1 < Ba := by
       intro x hx
       rcases List.mem_cons.1 hx with rfl | hx
       ·show nb < Ba; omega
       ·have := HB5.out.2 x hx
        have := (Array.getElem?_eq_some_iff.1 this).1
        omega
      have HCL := hI hcells
      have HBL := hI hblt
      obtain ⟨i0, hi, hz0, hz1, hz2⟩ := info_parts Tryz.infoFrac2
      clear q0 q1 q2 b3 z3 hn5a c0 c1 c2 c3 c4 c5 c6 c7 c8 c9 c10 c11 c12 c13 c14 m0 m1 f0 f1 hblt
      unfold Inst.cells at HSEQ
      gi_wp2
      refine wpIn_rangeFunc_ownH rfl (by omega) (gf := 107) (lb := #[.pointer (some ⟨bk, 0, none⟩), .pointer (some ⟨bj, 0, none⟩)]) rfl trivial (enters_of Tryz.func107 (by kernel_rfl) rfl)
       HSEQ.out KpL.trans (fun W l o o' hl' hl ho _ => KpL.put (by simp [Obj.isCells]) (by omega) o' hl ho) (Below.refl _ _) (fun _ => rfl) (PI w Ba Ba ((nb, fobj g) :: [(w.heap.size, .cells i.cells 27 (0, 0)), (w.heap.size + 1, .cells #[.string yn, .string yd] 25 (0, 0)), (w.heap.size + 2, fz), (ad.block, .cells cur 60 (0, 0))])) (fun _ _ _ => False) (PI.own _ _ _ _ HCL.out _ hwb) (fun _ => ownFrom_pure _ _) hI0
       (fun x a' W => ∃ Bq, Ba < Bq ∧ W.heap[Bq]? = some (fobj x.2.2) ∧ a' = { tmps := #[.agg #[.string i.id, .int .i64 i.kind, .string i.cur, .int .i64 i.places, .int .i64 i.issued, .int .i64 i.matures, .string i.fn, .string i.fd, .string i.cn, .string i.cd, .int .i64 i.months, .int .i64 i.count, .string i.other, .string i.sn, .string i.sd], .int .i64 d, .agg #[.string yn, .string yd], .pointer (some ⟨w.heap.size, 0, none⟩), undef, .pointer (some ⟨w.heap.size + 1, 0, none⟩), .pointer (some ⟨w.heap.size + 1 + 1, 0, none⟩), .int .i64 0, .slice (some ad) N cap, .int .i64 0, .pointer (some ⟨nb, 0, none⟩), .pointer (some ⟨Ba, 0, none⟩), undef, .pointer (some ⟨Bq, 0, none⟩), undef, undef, undef, undef, undef, .tuple #[.slice (some ad) N cap, .int .i64 0], .agg #[.string i.id, .int .i64 i.kind, .string i.cur, .int .i64 i.places, .int .i64 i.issued, .int .i64 i.matures, .string i.fn, .string i.fd, .string i.cn, .string i.cd, .int .i64 i.months, .int .i64 i.count, .string i.other, .string i.sn, .string i.sd], .int .i64 d, .agg #[.string yn, .string yd], .slice (some ⟨W0.heap.size, 0, none⟩) 1 1, .tuple #[.slice (some ad) N cap, .int .i64 0], .slice (some ad) N cap, .int .i64 0, .int .i64 0, .bool false, undef, undef, s31, s32, s33, .agg #[.string (I g.num), .string (dn g)], .agg #[.string ⟨#[]⟩, .string ⟨#[]⟩], .int .i64 cz, .bool false, undef, .int .i64 d, .pointer (some ⟨w.heap.size, 4, none⟩), .int .i64 i.issued, .bool false, .bool false, .int .i64 d, .pointer (some ⟨w.heap.size, 5, none⟩), .int .i64 i.matures, .bool false, .bool false, undef, .int .i64 d, .pointer (some ⟨w.heap.size, 5, none⟩), .int .i64 i.matures, .bool false, undef, .agg #[.string i.id, .int .i64 i.kind, .string i.cur, .int .i64 i.places, .int .i64 i.issued, .int .i64 i.matures, .string i.fn, .string i.fd, .string i.cn, .string i.cd, .int .i64 i.months, .int .i64 i.count, .string i.other, .string i.sn, .string i.sd], .slice (some ad) N cap, .func (.func 107) #[] #[.pointer (some ⟨bk, 0, none⟩), .pointer (some ⟨bj, 0, none⟩)], .agg #[.int .i64 x.1, .int .i64 x.2.1], .agg #[.string (I x.2.2.num), .string (dn x.2.2)], undef, undef, undef, undef, undef, undef, undef, undef, undef, undef, undef, undef, undef, undef, undef, undef, undef, undef, undef, undef, undef, undef, undef, undef, undef, undef, undef, undef, undef, undef, undef, undef, undef, undef, undef, undef, undef, undef, undef, undef, undef, undef, undef, undef, undef, undef, undef, undef, undef, undef, undef, undef, undef, undef, undef], defers := [] })
       (fun x a' => ?hAx) ?assign ?body ?done ?stop
      case hAx =>
       rintro _ X Y row ⟨Bq, h1, h2, rfl⟩ hg hr
       exact ⟨Bq, h1, ((own_cells (β := Unit) _ _ _ _).from _) () X Y row h2 hg hr, rfl⟩
      case assign =>
       rintro l pre x W K ⟨⟨v, hv, hrow, hvs⟩, hB⟩ hK
       have hltv := hv.lt
       obtain ⟨Bq, hBq⟩ : ∃ Bq, W.heap.size = Bq := ⟨_, rfl⟩
       obtain ⟨W6, hW6⟩ : ∃ W6, W.alloc (fobj x.2.2) = W6 := ⟨_, rfl⟩
       have b6 : Below W.heap.size W W6 := by rw [← hW6]; exact (Below.refl _ W).alloc (Nat.le_refl _) _
       have hf6 : W6.heap[Bq]? = some (fobj x.2.2) := by rw [← hW6, ← hBq]; exact heap_alloc_new W _
       have HF6 : Hid (KeepsFrom W3.heap.size W W6 ∧ KpL w.heap.size [(bj, .cells #[.string i.id, .int .i64 i.kind, .string i.cur, .int .i64 i.places, .int .i64 i.issued, .int .i64 i.matures, .string i.fn, .string i.fd, .string i.cn, .string i.cd, .int .i64 i.months, .int .i64 i.count, .string i.other, .string i.sn, .string i.sd] 27 (0, 0)), (bk, .cells #[.slice (some ad) N cap] 55 (0, 0)), (ad.block, .cells cur 60 (0, 0))] W W6 ∧ PI w Ba Ba ((nb, fobj g) :: [(w.heap.size, .cells i.cells 27 (0, 0)), (w.heap.size + 1, .cells #[.string yn, .string yd] 25 (0, 0)), (w.heap.size + 2, fz), (ad.block, .cells cur 60 (0, 0))]) pre W6 ∧ W6.heap[Bq]? = some (fobj x.2.2)) := by
        refine ⟨?_, KpL.below b6 hB.1.size, ⟨⟨v, boxed_keep hv b6, by rw [← hW6]; exact hrow.alloc _, hvs⟩, hB.below b6⟩, hf6⟩
        rw [← hW6]; exact (KeepsOthers.alloc _ _).from _
       clear b6 hf6 hv hrow hvs hB
       simp only [encP, fenc]
       gi_wp2
       obtain ⟨r1, r2, r3, r4⟩ := HF6.out
       exact hK _ _ r1 r2 r3 ⟨Bq, by omega, r4, rfl⟩
      case body =>
       rintro l pre x a' W hl ⟨r, hr⟩ ⟨⟨v, hv, hrow, ⟨A', k', c', rfl⟩⟩, hB⟩ ⟨Bq, hBq, bQ, rfl⟩ hlt
       have hc := hv.cell
       have hltv := hv.lt
       have q0 := Lib.cell_of_heap bQ 0
       have q1 := Lib.cell_of_heap bQ 1
       simp at q0 q1
       have hnW : Ba ≤ W.heap.size := by omega
       obtain ⟨mm, hmm⟩ : ∃ mm, pre.length = mm := ⟨_, rfl⟩
       rw [hmm] at hrow hlt
       gi_wp2_with (gi_at_builtin; refine wpListIn_append_own _ rfl _ _ 71 rfl Ba 25 i0 (.agg #[.string ⟨#[]⟩, .string ⟨#[]⟩]) 2 32 Tryz.underlying71 hi hz0 hz1 hz2 rfl (by decide) _ _ _ rfl (hrow.alloc _) ⟨W.heap.size, 0, none⟩ 1 1 [.string (I x.2.2.num), .string (dn x.2.2)] rfl rfl (cells_new _ _ _) (by simp [Value.oneCell']) (by unfold maxLen; omega) (by omega) (by simp; omega) ?_; intro v' w1 hown' hgrow _; obtain ⟨g', cap', rfl⟩ := ownsRow_succ hown'; obtain ⟨hv1, hv2, hr2, hk2, hb2⟩ := hv.appended (by decide) hrow hnW (Nat.le_refl _) hown' hgrow; have hc1 := hv1.cell; have hf1 := hv1.frozen)
       refine ⟨hk2.from _, ⟨hb2.mono (by have := hbx3.1.size; omega), fun y hy h => ?_⟩, ⟨⟨_, hv2, ?_, ⟨_, _, _, rfl⟩⟩, hB.1.trans (hb2.mono (by omega)), fun y hy => kept5 (hB.2 y hy) (HBL.out y hy) hrow hgrow (by have := HBL.out y hy; omega)⟩⟩
       ·rcases List.mem_cons.1 hy with rfl | hy
        ·exact kept4 h (fun _ _ e => by cases e) hrow hgrow (by omega)
        ·rcases List.mem_cons.1 hy with rfl | hy
         ·exact kept4 h (fun _ _ e => by cases e) hrow hgrow (by omega)
         ·rcases List.mem_cons.1 hy with rfl | hy
          ·exact kept4 h (fun _ _ e => by cases e) hrow hgrow (by show ad.block ≠ Ba; omega)
          ·cases hy
       ·have e2 : frV ((pre ++ [x]).map fun x => x.2.2) = frV (pre.map fun x => x.2.2) ++ [.string (I x.2.2.num), .string (dn x.2.2)] := by simp [frV]
        rw [List.length_append, e2, hmm]
        exact hr2
      case stop =>
       rintro D c pre W _ _ h _
       exact h.elim
      case done =>
       rintro D xs W hD rfl ⟨⟨v, hv, hrow, hvs⟩, hbxW⟩ hK
       have hrow2 : W.ownsRow Ba 25 2 v (amtL i).length (frV (amtL i)) := by unfold amtL; rw [List.length_map, HN.out]; exact hrow
       have hne : amtL i ≠ [] := fun e => by have h1 := amtL_len i; rw [e, HN.out] at h1; simp at h1; omega
       obtain ⟨aa, acap, acur, hve, hcap, hab4, haa, hfr⟩ := RdF.own_box hrow2 hne
       rw [amtL_len, HN.out] at hve hcap
       subst hve
       have HFR : Hid (∀ W' : World, W'.heap[aa.block]? = some (.cells acur 25 (0, 0)) → RdF W' aa (amtL i)) := hfr
       have hbL : BX w ((D, .deferred (some [])) :: ((Ba, .cells #[.slice (some aa) N acap] 71 (0, 0)) :: (aa.block, .cells acur 25 (0, 0)) :: (nb, fobj g) :: [(w.heap.size, .cells i.cells 27 (0, 0)), (w.heap.size + 1, .cells #[.string yn, .string yd] 25 (0, 0)), (w.heap.size + 2, fz), (ad.block, .cells cur 60 (0, 0))])) W := ⟨hbxW.1, fun z hz => by
        rcases List.mem_cons.1 hz with rfl | hz
        ·exact hK
        ·rcases List.mem_cons.1 hz with rfl | hz
         ·exact hv
         ·rcases List.mem_cons.1 hz with rfl | hz
          ·exact haa
          ·exact hbxW.2 z hz⟩
       obtain ⟨k, ⟨px, py⟩, hk, hpk, hpd, hdp⟩ := at_life HLF.out.1 HDM.out
       simp only at hpd hdp
       have HAT := hI (bAt_any ad (perL i) N cap d HN.out (by omega) W (HRR.out W (hbxW.get 4 rfl)))
       rw [hk] at HAT
       have HPK := hI hpk
       have HKE := hI hk
       have HPD := hI (And.intro hpd hdp)
       have hkl : k < N := by rw [← HN.out]; exact (List.getElem?_eq_some_iff.1 hpk).1
       have hplt : px < py := by omega
       have HG0 : Hid (g ≠ 0) := fun e => by have := HGP.out; rw [e] at this; exact absurd this (by decide)
       have HDW : Hid (w.heap.size + 3 < D) := by show _ < _; omega
       clear hrow hrow2 hfr haa hab4 hcap hne hpk hk hv hbxW hpd hdp hvs hI0 hbx3 HSEQ hi hz0 hz1 hz2 HCL hcells hK hg
       gi_wp2_with fail
       refine ⟨trivial, ?_⟩
       refine (callsIn_wide.2 HAT.out).mono ?_
       rintro e W7 ⟨rfl, x7⟩
       have hbM := hbL.below x7
       clear hbL x7 HAT
       obtain ⟨W8, hW8⟩ : ∃ W8, W7.alloc (.cells #[.string ⟨#[]⟩, .string ⟨#[]⟩] 91 (0, 0)) = W8 := ⟨_, rfl⟩
       have HQ8 : Hid (W8.heap[W7.heap.size]? = some (dobj 0)) := by show _ = _; rw [← hW8, dobj_zero]; exact heap_alloc_new W7 _
       have HB8 : Hid (BX w ((D, .deferred (some [])) :: ((Ba, .cells #[.slice (some aa) N acap] 71 (0, 0)) :: (aa.block, .cells acur 25 (0, 0)) :: (nb, fobj g) :: [(w.heap.size, .cells i.cells 27 (0, 0)), (w.heap.size + 1, .cells #[.string yn, .string yd] 25 (0, 0)), (w.heap.size + 2, fz), (ad.block, .cells cur 60 (0, 0))])) W8) := hbM.below (by rw [← hW8]; exact (Below.refl _ W7).alloc (Nat.le_refl _) _)
       have HLT : Hid (∀ x, x ∈ ((D, .deferred (some [])) :: ((Ba, .cells #[.slice (some aa) N acap] 71 (0, 0)) :: (aa.block, .cells acur 25 (0, 0)) :: (nb, fobj g) :: [(w.heap.size, .cells i.cells 27 (0, 0)), (w.heap.size + 1, .cells #[.string yn, .string yd] 25 (0, 0)), (w.heap.size + 2, fz), (ad.block, .cells cur 60 (0, 0))])) → x.1 ≠ W7.heap.size) := fun x hx e => by have := (Array.getElem?_eq_some_iff.1 (hbM.2 x hx)).1; omega
       have HSB : Hid (w.heap.size ≤ W7.heap.size) := hbM.1.size
       have tw0 : IntKind.i64.wrap ((N : Int) - 1) = ((N - 1 : Nat) : Int) := by rw [IntKind.wrap_i64]; omega
       clear hbM
       gi_wp2
       obtain ⟨bq, hbq⟩ : ∃ bq, W7.heap.size = bq := ⟨_, rfl⟩
       rw [hbq] at HQ8 HLT HSB ⊢
       clear hW8 hbq
       gi_loopw [17] (fun v wr => ∃ m : Nat, v = .int .i64 (m : Int) ∧ k ≤ m ∧ m < N ∧ Hid (BX w ((D, .deferred (some [])) :: ((Ba, .cells #[.slice (some aa) N acap] 71 (0, 0)) :: (aa.block, .cells acur 25 (0, 0)) :: (nb, fobj g) :: [(w.heap.size, .cells i.cells 27 (0, 0)), (w.heap.size + 1, .cells #[.string yn, .string yd] 25 (0, 0)), (w.heap.size + 2, fz), (ad.block, .cells cur 60 (0, 0))])) wr) ∧ Hid (wr.heap[bq]? = some (dobj (pv g ((amtL i).drop (m + 1)))))) (fun v _ => (intOf v).toNat)
       case atStart => exact ⟨N - 1, by first | rfl | (congr 1; omega) | (congr 1; rw [IntKind.wrap_i64]; omega), by omega, by omega, HB8.out, by rw [show N - 1 + 1 = N from by omega, List.drop_of_length_le (by rw [amtL_len, HN.out]; omega), pv]; exact HQ8.out⟩
       case round =>
        obtain ⟨m, rfl, hkm, hmN, HBm, HQm⟩ := hrel
        clear HB8 HQ8 tw0
        rcases Nat.lt_or_ge k m with hlt | hge
        ·have tc : decide ((k : Int) < (m : Int)) = true := decide_eq_true (by omega)
         have tw : IntKind.i64.wrap ((m : Int) - 1) = ((m - 1 : Nat) : Int) := by rw [IntKind.wrap_i64]; omega
         obtain ⟨am, ham⟩ : ∃ am, (amtL i)[m]? = some am := ⟨_, List.getElem?_eq_getElem (by rw [amtL_len, HN.out]; omega)⟩
         have HAK := hI ham
         obtain ⟨pv1, h1⟩ : ∃ q, pv g ((amtL i).drop (m + 1)) = q := ⟨_, rfl⟩
         obtain ⟨pv2, h2⟩ : ∃ q, (pv1 + am) / g = q := ⟨_, rfl⟩
         have HPV : Hid (pv g ((amtL i).drop m) = pv2) := by
          show _ = _
          obtain ⟨hm, he⟩ := List.getElem?_eq_some_iff.1 ham
          rw [List.drop_eq_getElem_cons hm, pv, h1, he, ← h2, Rat.add_comm]
         have hbo1 : BdQ pv1 100000 := by rw [← h1]; exact (pv_bd HBG.out HG0.out _ (fun x hx => amt_bd HH.out (List.mem_of_mem_drop hx))).mono (by rw [List.length_drop, amtL_len, HN.out]; omega)
         have HBK : Hid (∀ W', BX w ((D, .deferred (some [])) :: ((Ba, .cells #[.slice (some aa) N acap] 71 (0, 0)) :: (aa.block, .cells acur 25 (0, 0)) :: (nb, fobj g) :: [(w.heap.size, .cells i.cells 27 (0, 0)), (w.heap.size + 1, .cells #[.string yn, .string yd] 25 (0, 0)), (w.heap.size + 2, fz), (ad.block, .cells cur 60 (0, 0))])) W' → W'.heap[bq]? = some (dobj pv1) → Calls Tryz.prog 53 #[.pointer (some ⟨bq, 0, none⟩), .agg #[.string (I am.num), .string (dn am)], .agg #[.string (I g.num), .string (dn g)]] W' fun e w' => (∃ v, e = .returned v) ∧ w'.heap[bq]? = some (dobj pv2) ∧ BX w ((D, .deferred (some [])) :: ((Ba, .cells #[.slice (some aa) N acap] 71 (0, 0)) :: (aa.block, .cells acur 25 (0, 0)) :: (nb, fobj g) :: [(w.heap.size, .cells i.cells 27 (0, 0)), (w.heap.size + 1, .cells #[.string yn, .string yd] 25 (0, 0)), (w.heap.size + 2, fz), (ad.block, .cells cur 60 (0, 0))])) w') := fun W' hW' hd => by
          have h3 := bBack_any w HT.out bq HSB.out _ pv1 am g 100000 (by omega) hbo1 ((amt_bd HH.out (List.mem_of_getElem? HAK.out)).mono (by omega)) (HBG.out.mono (by omega)) HG0.out W' hW' HLT.out hd
          unfold fenc at h3
          rw [h2] at h3; exact h3
         have HQ1 := HQm
         rw [h1] at HQ1
         have hg : BX w ((D, .deferred (some [])) :: ((Ba, .cells #[.slice (some aa) N acap] 71 (0, 0)) :: (aa.block, .cells acur 25 (0, 0)) :: (nb, fobj g) :: [(w.heap.size, .cells i.cells 27 (0, 0)), (w.heap.size + 1, .cells #[.string yn, .string yd] 25 (0, 0)), (w.heap.size + 2, fz), (ad.block, .cells cur 60 (0, 0))])) wr.drew := ⟨HBm.out.1.drew, HBm.out.2⟩
         have hko6 : wr.drew.heap[bq]? = some (dobj pv1) := HQ1.out
         clear HBm HQm HQ1 ham h1 h2 hbo1
         gi_wp2
         have mixed : Tryz.prog.follows .mixedOrders = true := by kernel_rfl
         refine wpIn_region_any mixed (wpAnyIn_inv (PBJ w ((D, .deferred (some [])) :: ((Ba, .cells #[.slice (some aa) N acap] 71 (0, 0)) :: (aa.block, .cells acur 25 (0, 0)) :: (nb, fobj g) :: [(w.heap.size, .cells i.cells 27 (0, 0)), (w.heap.size + 1, .cells #[.string yn, .string yd] 25 (0, 0)), (w.heap.size + 2, fz), (ad.block, .cells cur 60 (0, 0))])) bq nb Ba D N acap m aa am g pv1 pv2 _ _ _ _ _ _ _ _ _ _ _ _ _ _ _ _ _ _ _ _ _ _ _ _ _ _ _ _ _ _ _ _ _ _ _ _ _ _ _ _ _ _ _ _ _ _ _ _ _ _ _ _ _ _ _ _ _ _ _ _ _ _ _ _ _ _ _ _ _ _ _ _ _ _ _ _ _ _ _ _ _ _ _ _ _ _ _ _ _ _ _ _ _ _ _ _ _ _ _ _ _ _ _ _) ?stPB ?dnPB _ _ _ _ ⟨by simp, ⟨_, _, _, _, _, _, _, rfl, fun h => by simp at h, fun h => by simp at h, fun h => by simp at h, fun h => by simp at h, fun h => by simp at h, fun h => by simp at h, hg, fun _ => hko6, fun h => by simp at h⟩⟩ (by decide))
         case dnPB =>
          intro L a w' hj hr
          have all := all_on hr hj.sz (by kernel_rfl)
          obtain ⟨s76, s77, s78, s79, s80, s81, s82, rfl, hv⟩ := hj.fr
          have HF6 := hI (And.intro (hv.n6 (all 6 (by omega))) hv.bx)
          clear all hv hj hr
          gi_wp2
          go_roundw
          case rel => exact ⟨.int .i64 ((m - 1 : Nat) : Int), _, _, _, _, _, _, _, _, _, _, _, _, ⟨m - 1, rfl, by omega, by omega, HF6.out.2, by rw [show m - 1 + 1 = m from by omega, HPV.out]; exact HF6.out.1⟩, rfl⟩
          case measure => simp [intOf]; omega
         case stPB =>
          intro L a w' hj i hi
          obtain ⟨hun, o, ho, hall⟩ := mem_ready.1 hi
          have hoff := getD_off hun
          have hlt := (Array.getElem?_eq_some_iff.1 ho).1
          simp at hlt
          obtain ⟨s76, s77, s78, s79, s80, s81, s82, rfl, hv⟩ := hj.fr
          have HV := hI hv
          have HJ := hI hj
          clear hv hj
          rcases (show i = 0 ∨ i = 1 ∨ i = 2 ∨ i = 3 ∨ i = 4 ∨ i = 5 ∨ i = 6 from by omega) with rfl | rfl | rfl | rfl | rfl | rfl | rfl
          ·simp at ho
           subst ho
           clear hall hi
           refine wpOpIn_step rfl (fun K' hK' => ?_)
           have HK := hI hK'
           clear hK'
           go_simp
           cases HV.out
           refine HK.out _ _ ⟨by simp [HJ.out.sz], ⟨_, _, _, _, _, _, _, rfl, fun _ => rfl, ?_, ?_, ?_, ?_, ?_, HV.out.bx, fun h0 => HV.out.o6 (getD_df (by decide) h0), ?_⟩⟩
           all_goals exact Um (by assumption)
          ·simp at ho
           subst ho
           clear hall hi
           have hb := HV.out.bx.get 1 rfl; have c0 := Lib.cell_of_heap hb 0
           simp at c0
           refine wpOpIn_step rfl (fun K' hK' => ?_)
           have HK := hI hK'
           clear hK'
           go_simp
           cases HV.out
           refine HK.out _ _ ⟨by simp [HJ.out.sz], ⟨_, _, _, _, _, _, _, rfl, ?_, fun _ => rfl, ?_, ?_, ?_, ?_, HV.out.bx, fun h0 => HV.out.o6 (getD_df (by decide) h0), ?_⟩⟩
           all_goals exact Um (by assumption)
          ·simp at ho
           subst ho
           clear hall hi
           refine wpOpIn_step rfl (fun K' hK' => ?_)
           have HK := hI hK'
           clear hK'
           go_simp
           cases HV.out
           refine HK.out _ _ ⟨by simp [HJ.out.sz], ⟨_, _, _, _, _, _, _, rfl, ?_, ?_, fun _ => rfl, ?_, ?_, ?_, HV.out.bx, fun h0 => HV.out.o6 (getD_df (by decide) h0), ?_⟩⟩
           all_goals exact Um (by assumption)
          ·simp at ho
           subst ho
           have h1x : L.getD 1 false = true := hall { on := 1, ground := Ground.data } (by simp) (by decide)
           have h2x : L.getD 2 false = true := hall { on := 2, ground := Ground.data } (by simp) (by decide)
           have H1 := hI h1x
           have H2 := hI h2x
           clear hall hi h1x h2x
           have e0 := HV.out.k1 H1.out
           subst e0
           have e1 := HV.out.k2 H2.out
           subst e1
           have hmi : (m : Int) < (N : Int) := by omega
           refine wpOpIn_step rfl (fun K' hK' => ?_)
           have HK := hI hK'
           clear hK'
           go_simp
           cases HV.out
           refine HK.out _ _ ⟨by simp [HJ.out.sz], ⟨_, _, _, _, _, _, _, rfl, ?_, ?_, ?_, fun _ => rfl, ?_, ?_, HV.out.bx, fun h0 => HV.out.o6 (getD_df (by decide) h0), ?_⟩⟩
           all_goals exact Um (by assumption)
          ·simp at ho
           subst ho
           have h3x : L.getD 3 false = true := hall { on := 3, ground := Ground.data } (by simp) (by decide)
           have H3 := hI h3x
           clear hall hi h3x
           have e0 := HV.out.k3 H3.out
           subst e0
           have hcc := (HFR.out _ (HV.out.bx.get 2 rfl)).2 m am HAK.out
           obtain ⟨cx, cy⟩ := hcc
           refine wpOpIn_step rfl (fun K' hK' => ?_)
           have HK := hI hK'
           clear hK'
           go_simp
           cases HV.out
           refine HK.out _ _ ⟨by simp [HJ.out.sz], ⟨_, _, _, _, _, _, _, rfl, ?_, ?_, ?_, ?_, fun _ => rfl, ?_, HV.out.bx, fun h0 => HV.out.o6 (getD_df (by decide) h0), ?_⟩⟩
           all_goals exact Um (by assumption)
          ·simp at ho
           subst ho
           clear hall hi
           have hb := HV.out.bx.get 3 rfl; have c0 := Lib.cell_of_heap hb 0; have c1 := Lib.cell_of_heap hb 1
           simp at c0 c1
           refine wpOpIn_step rfl (fun K' hK' => ?_)
           have HK := hI hK'
           clear hK'
           go_simp
           cases HV.out
           refine HK.out _ _ ⟨by simp [HJ.out.sz], ⟨_, _, _, _, _, _, _, rfl, ?_, ?_, ?_, ?_, ?_, fun _ => rfl, HV.out.bx, fun h0 => HV.out.o6 (getD_df (by decide) h0), ?_⟩⟩
           all_goals exact Um (by assumption)
          ·simp at ho
           subst ho
           have h0x : L.getD 0 false = true := hall { on := 0, ground := Ground.data } (by simp) (by decide)
           have h4x : L.getD 4 false = true := hall { on := 4, ground := Ground.data } (by simp) (by decide)
           have h5x : L.getD 5 false = true := hall { on := 5, ground := Ground.data } (by simp) (by decide)
           have H0 := hI h0x
           have H4 := hI h4x
           have H5 := hI h5x
           clear hall hi h0x h4x h5x
           have e0 := HV.out.k0 H0.out
           subst e0
           have e1 := HV.out.k4 H4.out
           subst e1
           have e2 := HV.out.k5 H5.out
           subst e2
           have hko := HV.out.o6 hoff
           refine wpOpIn_step rfl (fun K' hK' => ?_)
           have HK := hI hK'
           clear hK'
           go_simp
           refine ⟨trivial, ?_⟩
           refine (callsIn_wide.2 (HBK.out _ HV.out.bx hko)).mono ?_
           rintro e wn ⟨⟨v, rfl⟩, hdn, hbn⟩
           cases HV.out
           refine HK.out _ _ ⟨by simp [HJ.out.sz], ⟨_, _, _, _, _, _, _, rfl, ?_, ?_, ?_, ?_, ?_, ?_, hbn, fun h => (not_on h (getD_set_same hun)).elim, fun _ => hdn⟩⟩
           all_goals exact Um (by assumption)
        ·have tc : decide ((k : Int) < (m : Int)) = false := decide_eq_false (by omega)
         have hmk : k = m := by omega
         subst hmk
         have hpo := HH.out.per (List.mem_of_getElem? HPK.out)
         simp only at hpo
         obtain ⟨⟨b0, b1⟩, b2, b3⟩ := hpo
         obtain ⟨b4, b5⟩ := HD.out
         obtain ⟨b6, b7⟩ := HPD.out
         obtain ⟨pvk, h1⟩ : ∃ q, pv g ((amtL i).drop (k + 1)) = q := ⟨_, rfl⟩
         obtain ⟨ak, hak⟩ : ∃ am, (amtL i)[k]? = some am := ⟨_, List.getElem?_eq_getElem (by rw [amtL_len, HN.out]; omega)⟩
         have HAK := hI hak
         obtain ⟨lq, hlq⟩ : ∃ q, Rat.divInt (py - d) (py - px) = q := ⟨_, rfl⟩
         have hlq0 : BdQ lq 6 := by rw [← hlq]; exact BdQ.divInt (by omega) (by omega) (by omega)
         have hlq1 : 0 < lq ∧ lq ≤ 1 := by rw [← hlq]; exact part_le (by omega) (by omega)
         have hpos : (0 : Rat) < 1 + fv yn yd * lq := by
          have e1 := Rat.mul_pos hlq1.1 HGY1.out
          have e2 := hlq1.2
          grind
         obtain ⟨yl, hyl⟩ : ∃ q, fv yn yd * lq = q := ⟨_, rfl⟩
         have hbo : BdQ o1 1 := by rw [HO1.out]; exact BdQ.int (z := 1) (by omega) (by omega)
         have hby : BdQ yl 66 := by rw [← hyl]; exact BdQ.mul HBY.out hlq0
         obtain ⟨bg, hbg⟩ : ∃ q, o1 + yl = q := ⟨_, rfl⟩
         have hbb : BdQ bg 68 := by rw [← hbg]; exact (BdQ.add hbo hby).mono (by omega)
         have hbg0 : bg ≠ 0 := fun e => by rw [hyl] at hpos; rw [HO1.out, e] at hbg; rw [hbg] at hpos; exact absurd hpos (by decide)
         obtain ⟨pvr, hpvr⟩ : ∃ q, (pvk + ak) / bg = q := ⟨_, rfl⟩
         have HFIN : Hid (presQ i d (fv yn yd) = pvr) := by
          show _ = _
          have h := presQ_some (y := fv yn yd) HKE.out HPK.out HAK.out
          simp only at h
          rw [HO1.out] at hbg
          rw [h, hlq, hyl, HGY.out, h1, hbg, hpvr]
         have hbk : BdQ pvk 100000 := by rw [← h1]; exact (pv_bd HBG.out HG0.out _ (fun x hx => amt_bd HH.out (List.mem_of_mem_drop hx))).mono (by rw [List.length_drop, amtL_len, HN.out]; omega)
         have HBK0 := hI (And.intro hbk (And.intro hbb hbg0))
         have HQO : Hid (∀ W', BX w ((bq, dobj pvk) :: ((D, .deferred (some [])) :: ((Ba, .cells #[.slice (some aa) N acap] 71 (0, 0)) :: (aa.block, .cells acur 25 (0, 0)) :: (nb, fobj g) :: [(w.heap.size, .cells i.cells 27 (0, 0)), (w.heap.size + 1, .cells #[.string yn, .string yd] 25 (0, 0)), (w.heap.size + 2, fz), (ad.block, .cells cur 60 (0, 0))]))) W' → Calls Tryz.prog 54 #[.int .i64 (py - d), .int .i64 (py - px)] W' fun e w' => e = .returned (.agg #[.string (I lq.num), .string (dn lq)]) ∧ Below W'.heap.size W' w') := fun W' hW' => by
          have h := bQuot_any (py - d) (py - px) (by omega) (by omega) (by omega) (by omega) (by omega) W' (HT.out.below hW'.1)
          rw [hlq] at h; exact h
         have HML0 : Hid (∀ W', Tabs W' → Calls Tryz.prog 12 #[.agg #[.string yn, .string yd], .agg #[.string (I lq.num), .string (dn lq)]] W' fun e w' => e = .returned (.agg #[.string (I yl.num), .string (dn yl)]) ∧ Below W'.heap.size W' w') := fun W' hW' => by
          have h := fMulQ HBY.out hlq0 (by omega) (by omega) W' hW'
          rw [hyl, ← HCQ.out] at h; exact h
         have HAD0 : Hid (∀ W', Tabs W' → Calls Tryz.prog 51 #[.agg #[.string (I o1.num), .string (dn o1)], .agg #[.string (I yl.num), .string (dn yl)]] W' fun e w' => e = .returned (.agg #[.string (I bg.num), .string (dn bg)]) ∧ Below W'.heap.size W' w') := fun W' hW' => by
          have h := fAddQ hbo hby (by omega) (by omega) W' hW'
          rw [hbg] at h; exact h
         have HQ1 := HQm
         rw [h1] at HQ1
         have hg : BX w ((bq, dobj pvk) :: ((D, .deferred (some [])) :: ((Ba, .cells #[.slice (some aa) N acap] 71 (0, 0)) :: (aa.block, .cells acur 25 (0, 0)) :: (nb, fobj g) :: [(w.heap.size, .cells i.cells 27 (0, 0)), (w.heap.size + 1, .cells #[.string yn, .string yd] 25 (0, 0)), (w.heap.size + 2, fz), (ad.block, .cells cur 60 (0, 0))]))) wr.drew := ⟨HBm.out.1.drew, fun z hz => by
          rcases List.mem_cons.1 hz with rfl | hz
          ·exact HQ1.out
          ·exact HBm.out.2 z hz⟩
         have HPR := hI hpvr
         clear HBm HQm HQ1 hak h1 hlq hlq0 hlq1 hpos hyl hbo hby hbg hbb hbg0 hpvr hbk
         gi_wp2
         have mixed : Tryz.prog.follows .mixedOrders = true := by kernel_rfl
         refine wpIn_region_any mixed (wpAnyIn_inv (PCJ w ((bq, dobj pvk) :: ((D, .deferred (some [])) :: ((Ba, .cells #[.slice (some aa) N acap] 71 (0, 0)) :: (aa.block, .cells acur 25 (0, 0)) :: (nb, fobj g) :: [(w.heap.size, .cells i.cells 27 (0, 0)), (w.heap.size + 1, .cells #[.string yn, .string yd] 25 (0, 0)), (w.heap.size + 2, fz), (ad.block, .cells cur 60 (0, 0))]))) D N cap k ad d px py lq _ _ _ _ _ _ _ _ _ _ _ _ _ _ _ _ _ _ _ _ _ _ _ _ _ _ _ _ _ _ _ _ _ _ _ _ _ _ _ _ _ _ _ _ _ _ _ _ _ _ _ _ _ _ _ _ _ _ _ _ _ _ _ _ _ _ _ _ _ _ _ _ _ _ _ _ _ _ _ _ _ _ _ _ _ _ _ _ _ _ _ _) ?stPC ?dnPC _ _ _ _ ⟨by simp, ⟨0, _, _, _, _, _, _, _, _, _, _, _, _, _, _, _, _, _, _, _, _, rfl, fun h => by simp at h, fun h => by simp at h, fun h => by simp at h, fun h => by simp at h, fun h => by simp at h, fun h => by simp at h, fun h => by simp at h, fun h => by simp at h, fun h => by simp at h, fun h => by simp at h, fun h => by simp at h, fun h => by simp at h, fun h => by simp at h, fun h => by simp at h, fun h => by simp at h, fun h => by simp at h, fun h => by simp at h, fun h => by simp at h, fun h => by simp at h, fun h => by simp at h, hg, fun h => by simp at h, fun h => by simp at h, fun h => by simp at h, fun h => by simp at h⟩⟩ (by decide))
         case dnPC =>
          intro L a w' hj hr
          have all := all_on hr hj.sz (by kernel_rfl)
          obtain ⟨nl, s18, s83, s84, s85, s86, s87, s88, s89, s90, s91, s92, s93, s94, s95, s96, s97, s98, s99, s100, s101, rfl, hv⟩ := hj.fr
          have HF22 := hI (And.intro (hv.n20 (all 20 (by omega))) (And.intro hv.bx (hv.b20 (all 19 (by omega)))))
          have e18 := hv.k19 (all 19 (by omega))
          clear all hv hj hr
          subst e18
          have HB22 : Hid (BX w ((nl, fobj lq) :: ((D, .deferred (some [])) :: ((Ba, .cells #[.slice (some aa) N acap] 71 (0, 0)) :: (aa.block, .cells acur 25 (0, 0)) :: (nb, fobj g) :: [(w.heap.size, .cells i.cells 27 (0, 0)), (w.heap.size + 1, .cells #[.string yn, .string yd] 25 (0, 0)), (w.heap.size + 2, fz), (ad.block, .cells cur 60 (0, 0))]))) w') := ⟨HF22.out.2.1.1, fun z hz => by
           rcases List.mem_cons.1 hz with rfl | hz
           ·exact HF22.out.1
           ·exact HF22.out.2.1.2 z (List.mem_cons_of_mem _ hz)⟩
          have HDK : Hid (w'.heap[bq]? = some (dobj pvk)) := HF22.out.2.1.get 0 rfl
          have HLT2 : Hid (∀ x, x ∈ ((nl, fobj lq) :: ((D, .deferred (some [])) :: ((Ba, .cells #[.slice (some aa) N acap] 71 (0, 0)) :: (aa.block, .cells acur 25 (0, 0)) :: (nb, fobj g) :: [(w.heap.size, .cells i.cells 27 (0, 0)), (w.heap.size + 1, .cells #[.string yn, .string yd] 25 (0, 0)), (w.heap.size + 2, fz), (ad.block, .cells cur 60 (0, 0))]))) → x.1 ≠ bq) := fun x hx => by
           rcases List.mem_cons.1 hx with rfl | hx
           ·exact fun e => HF22.out.2.2.2 _ (List.mem_cons_self ..) e.symm
           ·exact HLT.out x hx
          have HOF4 : Hid (∀ W', BX w ((nl, fobj lq) :: ((D, .deferred (some [])) :: ((Ba, .cells #[.slice (some aa) N acap] 71 (0, 0)) :: (aa.block, .cells acur 25 (0, 0)) :: (nb, fobj g) :: [(w.heap.size, .cells i.cells 27 (0, 0)), (w.heap.size + 1, .cells #[.string yn, .string yd] 25 (0, 0)), (w.heap.size + 2, fz), (ad.block, .cells cur 60 (0, 0))]))) W' → Calls Tryz.prog 29 #[.string ⟨#[49]⟩] W' fun e w' => e = .returned (.agg #[.string (I o1.num), .string (dn o1)]) ∧ Below W'.heap.size W' w') := fun W' hW' => HOF.out W' ⟨hW'.1, fun z hz => hW'.2 z (List.mem_cons_of_mem _ (List.mem_cons_of_mem _ (List.mem_cons_of_mem _ (List.mem_cons_of_mem _ (List.mem_cons_of_mem _ hz)))))⟩
          have HML : Hid (∀ W', BX w ((nl, fobj lq) :: ((D, .deferred (some [])) :: ((Ba, .cells #[.slice (some aa) N acap] 71 (0, 0)) :: (aa.block, .cells acur 25 (0, 0)) :: (nb, fobj g) :: [(w.heap.size, .cells i.cells 27 (0, 0)), (w.heap.size + 1, .cells #[.string yn, .string yd] 25 (0, 0)), (w.heap.size + 2, fz), (ad.block, .cells cur 60 (0, 0))]))) W' → Calls Tryz.prog 12 #[.agg #[.string yn, .string yd], .agg #[.string (I lq.num), .string (dn lq)]] W' fun e w' => e = .returned (.agg #[.string (I yl.num), .string (dn yl)]) ∧ Below W'.heap.size W' w') := fun W' hW' => HML0.out W' (HT.out.below hW'.1)
          have HAD4 : Hid (∀ W', BX w ((nl, fobj lq) :: ((D, .deferred (some [])) :: ((Ba, .cells #[.slice (some aa) N acap] 71 (0, 0)) :: (aa.block, .cells acur 25 (0, 0)) :: (nb, fobj g) :: [(w.heap.size, .cells i.cells 27 (0, 0)), (w.heap.size + 1, .cells #[.string yn, .string yd] 25 (0, 0)), (w.heap.size + 2, fz), (ad.block, .cells cur 60 (0, 0))]))) W' → Calls Tryz.prog 51 #[.agg #[.string (I o1.num), .string (dn o1)], .agg #[.string (I yl.num), .string (dn yl)]] W' fun e w' => e = .returned (.agg #[.string (I bg.num), .string (dn bg)]) ∧ Below W'.heap.size W' w') := fun W' hW' => HAD0.out W' (HT.out.below hW'.1)
          have HBK4 : Hid (∀ W', BX w ((nl, fobj lq) :: ((D, .deferred (some [])) :: ((Ba, .cells #[.slice (some aa) N acap] 71 (0, 0)) :: (aa.block, .cells acur 25 (0, 0)) :: (nb, fobj g) :: [(w.heap.size, .cells i.cells 27 (0, 0)), (w.heap.size + 1, .cells #[.string yn, .string yd] 25 (0, 0)), (w.heap.size + 2, fz), (ad.block, .cells cur 60 (0, 0))]))) W' → W'.heap[bq]? = some (dobj pvk) → Calls Tryz.prog 53 #[.pointer (some ⟨bq, 0, none⟩), .agg #[.string (I ak.num), .string (dn ak)], .agg #[.string (I bg.num), .string (dn bg)]] W' fun e w' => (∃ v, e = .returned v) ∧ w'.heap[bq]? = some (dobj pvr) ∧ BX w ((nl, fobj lq) :: ((D, .deferred (some [])) :: ((Ba, .cells #[.slice (some aa) N acap] 71 (0, 0)) :: (aa.block, .cells acur 25 (0, 0)) :: (nb, fobj g) :: [(w.heap.size, .cells i.cells 27 (0, 0)), (w.heap.size + 1, .cells #[.string yn, .string yd] 25 (0, 0)), (w.heap.size + 2, fz), (ad.block, .cells cur 60 (0, 0))]))) w') := fun W' hW' hd => by
           have h3 := bBack_any w HT.out bq HSB.out _ pvk ak bg 100000 (by omega) HBK0.out.1 ((amt_bd HH.out (List.mem_of_getElem? HAK.out)).mono (by omega)) (HBK0.out.2.1.mono (by omega)) HBK0.out.2.2 W' hW' HLT2.out hd
           unfold fenc at h3
           rw [HPR.out] at h3; exact h3
          have hg : BX w ((nl, fobj lq) :: ((D, .deferred (some [])) :: ((Ba, .cells #[.slice (some aa) N acap] 71 (0, 0)) :: (aa.block, .cells acur 25 (0, 0)) :: (nb, fobj g) :: [(w.heap.size, .cells i.cells 27 (0, 0)), (w.heap.size + 1, .cells #[.string yn, .string yd] 25 (0, 0)), (w.heap.size + 2, fz), (ad.block, .cells cur 60 (0, 0))]))) w'.drew := ⟨HB22.out.1.drew, HB22.out.2⟩
          have hko10 : w'.drew.heap[bq]? = some (dobj pvk) := HDK.out
          clear HF22 HB22 HDK
          gi_wp2
          have mixed : Tryz.prog.follows .mixedOrders = true := by kernel_rfl
          refine wpIn_region_any mixed (wpAnyIn_inv (PDJ w ((nl, fobj lq) :: ((D, .deferred (some [])) :: ((Ba, .cells #[.slice (some aa) N acap] 71 (0, 0)) :: (aa.block, .cells acur 25 (0, 0)) :: (nb, fobj g) :: [(w.heap.size, .cells i.cells 27 (0, 0)), (w.heap.size + 1, .cells #[.string yn, .string yd] 25 (0, 0)), (w.heap.size + 2, fz), (ad.block, .cells cur 60 (0, 0))]))) bq nl Ba D N acap k aa yn yd ak o1 lq yl bg pvk pvr _ _ _ _ _ _ _ _ _ _ _ _ _ _ _ _ _ _ _ _ _ _ _ _ _ _ _ _ _ _ _ _ _ _ _ _ _ _ _ _ _ _ _ _ _ _ _ _ _ _ _ _ _ _ _ _ _ _ _ _ _ _ _ _ _ _ _ _ _ _ _ _ _ _ _ _ _ _ _ _ _ _ _ _ _ _ _ _ _ _ _ _ _ _ _ _ _ _ _) ?stPD ?dnPD _ _ _ _ ⟨by simp, ⟨_, _, _, _, _, _, _, _, _, _, _, rfl, fun h => by simp at h, fun h => by simp at h, fun h => by simp at h, fun h => by simp at h, fun h => by simp at h, fun h => by simp at h, fun h => by simp at h, fun h => by simp at h, fun h => by simp at h, fun h => by simp at h, hg, fun _ => hko10, fun h => by simp at h⟩⟩ (by decide))
          case dnPD =>
           intro L a w' hj hr
           have all := all_on hr hj.sz (by kernel_rfl)
           obtain ⟨s102, s103, s104, s105, s106, s107, s108, s109, s110, s111, s112, rfl, hv⟩ := hj.fr
           have HF10 := hI (And.intro (hv.n10 (all 10 (by omega))) hv.bx)
           clear all hv hj hr
           have hq := HF10.out.1
           have c0 := Lib.cell_of_heap hq 0
           have c1 := Lib.cell_of_heap hq 1
           simp at c0 c1
           have k2 := HF10.out.2.get 7 rfl
           have m0 := Lib.cell_of_heap k2 0
           have m1 := Lib.cell_of_heap k2 1
           have f0 := Lib.frozen_of_heap k2 0
           have f1 := Lib.frozen_of_heap k2 1
           simp at m0 m1 f0 f1
           have HK2 := hI k2
           clear hq k2
           gi_wp2
           have hdw := HDW.out
           have hK9 := fun x y => (set2_far (W := w') (B := w.heap.size + 2) (k := D) (by omega) x y).trans (HF10.out.2.get 1 rfl)
           refine ⟨by simp, .inl ⟨_, _, rfl, run_takeDeferred (hK9 _ _), ?_⟩⟩
           refine ⟨_, results_row_tmp2 rfl _ _ (w.heap.size + 2) _ _ (0, 0) _ rfl (heap_put _ (Go.Proofs.YtcnmoobojdopgaaGreatDoor.set2 HK2.out _ _) rfl (hK9 _ _) rfl) Tryz.underlying25 rfl (by kernel_rfl), ?_⟩
           rw [← HQ.out]
           exact ⟨(set2_below (by omega) HF10.out.2.1 _ _).trans (belowK_b (w := w) (Nat.le_refl _) _ D _ _ (by omega) (hK9 _ _) rfl rfl), .inr ⟨HL.out, .inr ⟨HD.out, .inr ⟨HGY1.out, .inr ⟨HLF.out, .inr ⟨HDM.out, by rw [HFIN.out]; rfl⟩⟩⟩⟩⟩⟩
          case stPD =>
           intro L a w' hj i hi
           obtain ⟨hun, o, ho, hall⟩ := mem_ready.1 hi
           have hoff := getD_off hun
           have hlt := (Array.getElem?_eq_some_iff.1 ho).1
           simp at hlt
           obtain ⟨s102, s103, s104, s105, s106, s107, s108, s109, s110, s111, s112, rfl, hv⟩ := hj.fr
           have HV := hI hv
           have HJ := hI hj
           clear hv hj
           rcases (show i = 0 ∨ i = 1 ∨ i = 2 ∨ i = 3 ∨ i = 4 ∨ i = 5 ∨ i = 6 ∨ i = 7 ∨ i = 8 ∨ i = 9 ∨ i = 10 from by omega) with rfl | rfl | rfl | rfl | rfl | rfl | rfl | rfl | rfl | rfl | rfl
           ·simp at ho
            subst ho
            clear hall hi
            refine wpOpIn_step rfl (fun K' hK' => ?_)
            have HK := hI hK'
            clear hK'
            go_simp
            cases HV.out
            refine HK.out _ _ ⟨by simp [HJ.out.sz], ⟨_, _, _, _, _, _, _, _, _, _, _, rfl, fun _ => rfl, ?_, ?_, ?_, ?_, ?_, ?_, ?_, ?_, ?_, HV.out.bx, fun h0 => HV.out.o10 (getD_df (by decide) h0), ?_⟩⟩
            all_goals exact Um (by assumption)
           ·simp at ho
            subst ho
            clear hall hi
            have hb := HV.out.bx.get 2 rfl; have c0 := Lib.cell_of_heap hb 0
            simp at c0
            refine wpOpIn_step rfl (fun K' hK' => ?_)
            have HK := hI hK'
            clear hK'
            go_simp
            cases HV.out
            refine HK.out _ _ ⟨by simp [HJ.out.sz], ⟨_, _, _, _, _, _, _, _, _, _, _, rfl, ?_, fun _ => rfl, ?_, ?_, ?_, ?_, ?_, ?_, ?_, ?_, HV.out.bx, fun h0 => HV.out.o10 (getD_df (by decide) h0), ?_⟩⟩
            all_goals exact Um (by assumption)
           ·simp at ho
            subst ho
            clear hall hi
            refine wpOpIn_step rfl (fun K' hK' => ?_)
            have HK := hI hK'
            clear hK'
            go_simp
            cases HV.out
            refine HK.out _ _ ⟨by simp [HJ.out.sz], ⟨_, _, _, _, _, _, _, _, _, _, _, rfl, ?_, ?_, fun _ => rfl, ?_, ?_, ?_, ?_, ?_, ?_, ?_, HV.out.bx, fun h0 => HV.out.o10 (getD_df (by decide) h0), ?_⟩⟩
            all_goals exact Um (by assumption)
           ·simp at ho
            subst ho
            have h1x : L.getD 1 false = true := hall { on := 1, ground := Ground.data } (by simp) (by decide)
            have h2x : L.getD 2 false = true := hall { on := 2, ground := Ground.data } (by simp) (by decide)
            have H1 := hI h1x
            have H2 := hI h2x
            clear hall hi h1x h2x
            have e0 := HV.out.k1 H1.out
            subst e0
            have e1 := HV.out.k2 H2.out
            subst e1
            have hmi : (k : Int) < (N : Int) := by omega
            refine wpOpIn_step rfl (fun K' hK' => ?_)
            have HK := hI hK'
            clear hK'
            go_simp
            cases HV.out
            refine HK.out _ _ ⟨by simp [HJ.out.sz], ⟨_, _, _, _, _, _, _, _, _, _, _, rfl, ?_, ?_, ?_, fun _ => rfl, ?_, ?_, ?_, ?_, ?_, ?_, HV.out.bx, fun h0 => HV.out.o10 (getD_df (by decide) h0), ?_⟩⟩
            all_goals exact Um (by assumption)
           ·simp at ho
            subst ho
            have h3x : L.getD 3 false = true := hall { on := 3, ground := Ground.data } (by simp) (by decide)
            have H3 := hI h3x
            clear hall hi h3x
            have e0 := HV.out.k3 H3.out
            subst e0
            have hcc := (HFR.out _ (HV.out.bx.get 3 rfl)).2 k ak HAK.out
            obtain ⟨cx, cy⟩ := hcc
            refine wpOpIn_step rfl (fun K' hK' => ?_)
            have HK := hI hK'
            clear hK'
            go_simp
            cases HV.out
            refine HK.out _ _ ⟨by simp [HJ.out.sz], ⟨_, _, _, _, _, _, _, _, _, _, _, rfl, ?_, ?_, ?_, ?_, fun _ => rfl, ?_, ?_, ?_, ?_, ?_, HV.out.bx, fun h0 => HV.out.o10 (getD_df (by decide) h0), ?_⟩⟩
            all_goals exact Um (by assumption)
           ·simp at ho
            subst ho
            clear hall hi
            refine wpOpIn_step rfl (fun K' hK' => ?_)
            have HK := hI hK'
            clear hK'
            go_simp
            refine ⟨trivial, ?_⟩
            refine (callsIn_wide.2 (HOF4.out _ HV.out.bx)).mono ?_
            rintro e wn ⟨rfl, hbn⟩
            cases HV.out
            refine HK.out _ _ ⟨by simp [HJ.out.sz], ⟨_, _, _, _, _, _, _, _, _, _, _, rfl, ?_, ?_, ?_, ?_, ?_, fun _ => rfl, ?_, ?_, ?_, ?_, HV.out.bx.below hbn, fun h => bkeep hbn (HV.out.o10 (getD_df (by decide) h)), fun h => bkeep hbn (HV.out.n10 (getD_dn (by decide) h))⟩⟩
            all_goals exact Um (by assumption)
           ·simp at ho
            subst ho
            clear hall hi
            have hb := HV.out.bx.get 6 rfl; have c0 := Lib.cell_of_heap hb 0; have c1 := Lib.cell_of_heap hb 1
            simp at c0 c1
            refine wpOpIn_step rfl (fun K' hK' => ?_)
            have HK := hI hK'
            clear hK'
            go_simp
            cases HV.out
            refine HK.out _ _ ⟨by simp [HJ.out.sz], ⟨_, _, _, _, _, _, _, _, _, _, _, rfl, ?_, ?_, ?_, ?_, ?_, ?_, fun _ => rfl, ?_, ?_, ?_, HV.out.bx, fun h0 => HV.out.o10 (getD_df (by decide) h0), ?_⟩⟩
            all_goals exact Um (by assumption)
           ·simp at ho
            subst ho
            clear hall hi
            have hb := HV.out.bx.get 0 rfl; have c0 := Lib.cell_of_heap hb 0; have c1 := Lib.cell_of_heap hb 1
            simp at c0 c1
            refine wpOpIn_step rfl (fun K' hK' => ?_)
            have HK := hI hK'
            clear hK'
            go_simp
            cases HV.out
            refine HK.out _ _ ⟨by simp [HJ.out.sz], ⟨_, _, _, _, _, _, _, _, _, _, _, rfl, ?_, ?_, ?_, ?_, ?_, ?_, ?_, fun _ => rfl, ?_, ?_, HV.out.bx, fun h0 => HV.out.o10 (getD_df (by decide) h0), ?_⟩⟩
            all_goals exact Um (by assumption)
           ·simp at ho
            subst ho
            have h6x : L.getD 6 false = true := hall { on := 6, ground := Ground.data } (by simp) (by decide)
            have h7x : L.getD 7 false = true := hall { on := 7, ground := Ground.data } (by simp) (by decide)
            have H6 := hI h6x
            have H7 := hI h7x
            clear hall hi h6x h7x
            have e0 := HV.out.k6 H6.out
            subst e0
            have e1 := HV.out.k7 H7.out
            subst e1
            refine wpOpIn_step rfl (fun K' hK' => ?_)
            have HK := hI hK'
            clear hK'
            go_simp
            refine ⟨trivial, ?_⟩
            refine (callsIn_wide.2 (HML.out _ HV.out.bx)).mono ?_
            rintro e wn ⟨rfl, hbn⟩
            cases HV.out
            refine HK.out _ _ ⟨by simp [HJ.out.sz], ⟨_, _, _, _, _, _, _, _, _, _, _, rfl, ?_, ?_, ?_, ?_, ?_, ?_, ?_, ?_, fun _ => rfl, ?_, HV.out.bx.below hbn, fun h => bkeep hbn (HV.out.o10 (getD_df (by decide) h)), fun h => bkeep hbn (HV.out.n10 (getD_dn (by decide) h))⟩⟩
            all_goals exact Um (by assumption)
           ·simp at ho
            subst ho
            have h5x : L.getD 5 false = true := hall { on := 5, ground := Ground.data } (by simp) (by decide)
            have h8x : L.getD 8 false = true := hall { on := 8, ground := Ground.data } (by simp) (by decide)
            have H5 := hI h5x
            have H8 := hI h8x
            clear hall hi h5x h8x
            have e0 := HV.out.k5 H5.out
            subst e0
            have e1 := HV.out.k8 H8.out
            subst e1
            refine wpOpIn_step rfl (fun K' hK' => ?_)
            have HK := hI hK'
            clear hK'
            go_simp
            refine ⟨trivial, ?_⟩
            refine (callsIn_wide.2 (HAD4.out _ HV.out.bx)).mono ?_
            rintro e wn ⟨rfl, hbn⟩
            cases HV.out
            refine HK.out _ _ ⟨by simp [HJ.out.sz], ⟨_, _, _, _, _, _, _, _, _, _, _, rfl, ?_, ?_, ?_, ?_, ?_, ?_, ?_, ?_, ?_, fun _ => rfl, HV.out.bx.below hbn, fun h => bkeep hbn (HV.out.o10 (getD_df (by decide) h)), fun h => bkeep hbn (HV.out.n10 (getD_dn (by decide) h))⟩⟩
            all_goals exact Um (by assumption)
           ·simp at ho
            subst ho
            have h0x : L.getD 0 false = true := hall { on := 0, ground := Ground.data } (by simp) (by decide)
            have h4x : L.getD 4 false = true := hall { on := 4, ground := Ground.data } (by simp) (by decide)
            have h9x : L.getD 9 false = true := hall { on := 9, ground := Ground.data } (by simp) (by decide)
            have H0 := hI h0x
            have H4 := hI h4x
            have H9 := hI h9x
            clear hall hi h0x h4x h9x
            have e0 := HV.out.k0 H0.out
            subst e0
            have e1 := HV.out.k4 H4.out
            subst e1
            have e2 := HV.out.k9 H9.out
            subst e2
            have hko := HV.out.o10 hoff
            refine wpOpIn_step rfl (fun K' hK' => ?_)
            have HK := hI hK'
            clear hK'
            go_simp
            refine ⟨trivial, ?_⟩
            refine (callsIn_wide.2 (HBK4.out _ HV.out.bx hko)).mono ?_
            rintro e wn ⟨⟨v, rfl⟩, hdn, hbn⟩
            cases HV.out
            refine HK.out _ _ ⟨by simp [HJ.out.sz], ⟨_, _, _, _, _, _, _, _, _, _, _, rfl, ?_, ?_, ?_, ?_, ?_, ?_, ?_, ?_, ?_, ?_, hbn, fun h => (not_on h (getD_set_same hun)).elim, fun _ => hdn⟩⟩
            all_goals exact Um (by assumption)
         case stPC =>
          intro L a w' hj i hi
          obtain ⟨hun, o, ho, hall⟩ := mem_ready.1 hi
          have hoff := getD_off hun
          have hlt := (Array.getElem?_eq_some_iff.1 ho).1
          simp at hlt
          obtain ⟨nl, s18, s83, s84, s85, s86, s87, s88, s89, s90, s91, s92, s93, s94, s95, s96, s97, s98, s99, s100, s101, rfl, hv⟩ := hj.fr
          have HV := hI hv
          have HJ := hI hj
          clear hv hj
          rcases (show i = 0 ∨ i = 1 ∨ i = 2 ∨ i = 3 ∨ i = 4 ∨ i = 5 ∨ i = 6 ∨ i = 7 ∨ i = 8 ∨ i = 9 ∨ i = 10 ∨ i = 11 ∨ i = 12 ∨ i = 13 ∨ i = 14 ∨ i = 15 ∨ i = 16 ∨ i = 17 ∨ i = 18 ∨ i = 19 ∨ i = 20 from by omega) with rfl | rfl | rfl | rfl | rfl | rfl | rfl | rfl | rfl | rfl | rfl | rfl | rfl | rfl | rfl | rfl | rfl | rfl | rfl | rfl | rfl
          ·simp at ho
           subst ho
           clear hall hi
           refine wpOpIn_step rfl (fun K' hK' => ?_)
           have HK := hI hK'
           clear hK'
           go_simp
           cases HV.out
           refine HK.out _ _ ⟨by simp [HJ.out.sz], ?_⟩
           iterate 21 apply Exists.intro
           refine ⟨rfl, ?_⟩
           constructor
           case k0 => exact fun _ => rfl
           case bx => exact HV.out.bx
           case o20 => exact fun h0 h1 => HV.out.o20 (getD_dn (by decide) h0) (getD_df (by decide) h1)
           case q20 => exact fun h => getD_up hun (HV.out.q20 (getD_dn (by decide) h))
           all_goals exact Um (by assumption)
          ·simp at ho
           subst ho
           clear hall hi
           refine wpOpIn_step rfl (fun K' hK' => ?_)
           have HK := hI hK'
           clear hK'
           go_simp
           cases HV.out
           refine HK.out _ _ ⟨by simp [HJ.out.sz], ?_⟩
           iterate 21 apply Exists.intro
           refine ⟨rfl, ?_⟩
           constructor
           case k1 => exact fun _ => rfl
           case bx => exact HV.out.bx
           case o20 => exact fun h0 h1 => HV.out.o20 (getD_dn (by decide) h0) (getD_df (by decide) h1)
           case q20 => exact fun h => getD_up hun (HV.out.q20 (getD_dn (by decide) h))
           all_goals exact Um (by assumption)
          ·simp at ho
           subst ho
           have h0x : L.getD 0 false = true := hall { on := 0, ground := Ground.data } (by simp) (by decide)
           have h1x : L.getD 1 false = true := hall { on := 1, ground := Ground.data } (by simp) (by decide)
           have H0 := hI h0x
           have H1 := hI h1x
           clear hall hi h0x h1x
           have e0 := HV.out.k0 H0.out
           subst e0
           have e1 := HV.out.k1 H1.out
           subst e1
           have hki : (k : Int) < (N : Int) := by omega
           refine wpOpIn_step rfl (fun K' hK' => ?_)
           have HK := hI hK'
           clear hK'
           go_simp
           cases HV.out
           refine HK.out _ _ ⟨by simp [HJ.out.sz], ?_⟩
           iterate 21 apply Exists.intro
           refine ⟨rfl, ?_⟩
           constructor
           case k2 => exact fun _ => rfl
           case bx => exact HV.out.bx
           case o20 => exact fun h0 h1 => HV.out.o20 (getD_dn (by decide) h0) (getD_df (by decide) h1)
           case q20 => exact fun h => getD_up hun (HV.out.q20 (getD_dn (by decide) h))
           all_goals exact Um (by assumption)
          ·simp at ho
           subst ho
           have h2x : L.getD 2 false = true := hall { on := 2, ground := Ground.data } (by simp) (by decide)
           have H2 := hI h2x
           clear hall hi h2x
           have e0 := HV.out.k2 H2.out
           subst e0
           refine wpOpIn_step rfl (fun K' hK' => ?_)
           have HK := hI hK'
           clear hK'
           go_simp
           cases HV.out
           refine HK.out _ _ ⟨by simp [HJ.out.sz], ?_⟩
           iterate 21 apply Exists.intro
           refine ⟨rfl, ?_⟩
           constructor
           case k3 => exact fun _ => rfl
           case bx => exact HV.out.bx
           case o20 => exact fun h0 h1 => HV.out.o20 (getD_dn (by decide) h0) (getD_df (by decide) h1)
           case q20 => exact fun h => getD_up hun (HV.out.q20 (getD_dn (by decide) h))
           all_goals exact Um (by assumption)
          ·simp at ho
           subst ho
           have h3x : L.getD 3 false = true := hall { on := 3, ground := Ground.data } (by simp) (by decide)
           have H3 := hI h3x
           clear hall hi h3x
           have e0 := HV.out.k3 H3.out
           subst e0
           obtain ⟨cx, cy⟩ := (HRR.out _ (HV.out.bx.get 8 rfl)).2 k (px, py) HPK.out
           simp only at cx cy
           refine wpOpIn_step rfl (fun K' hK' => ?_)
           have HK := hI hK'
           clear hK'
           go_simp
           cases HV.out
           refine HK.out _ _ ⟨by simp [HJ.out.sz], ?_⟩
           iterate 21 apply Exists.intro
           refine ⟨rfl, ?_⟩
           constructor
           case k4 => exact fun _ => rfl
           case bx => exact HV.out.bx
           case o20 => exact fun h0 h1 => HV.out.o20 (getD_dn (by decide) h0) (getD_df (by decide) h1)
           case q20 => exact fun h => getD_up hun (HV.out.q20 (getD_dn (by decide) h))
           all_goals exact Um (by assumption)
          ·simp at ho
           subst ho
           clear hall hi
           refine wpOpIn_step rfl (fun K' hK' => ?_)
           have HK := hI hK'
           clear hK'
           go_simp
           cases HV.out
           refine HK.out _ _ ⟨by simp [HJ.out.sz], ?_⟩
           iterate 21 apply Exists.intro
           refine ⟨rfl, ?_⟩
           constructor
           case k5 => exact fun _ => rfl
           case bx => exact HV.out.bx
           case o20 => exact fun h0 h1 => HV.out.o20 (getD_dn (by decide) h0) (getD_df (by decide) h1)
           case q20 => exact fun h => getD_up hun (HV.out.q20 (getD_dn (by decide) h))
           all_goals exact Um (by assumption)
          ·simp at ho
           subst ho
           have h4x : L.getD 4 false = true := hall { on := 4, ground := Ground.data } (by simp) (by decide)
           have h5x : L.getD 5 false = true := hall { on := 5, ground := Ground.data } (by simp) (by decide)
           have H4 := hI h4x
           have H5 := hI h5x
           clear hall hi h4x h5x
           have e0 := HV.out.k4 H4.out
           subst e0
           have e1 := HV.out.k5 H5.out
           subst e1
           refine wpOpIn_step rfl (fun K' hK' => ?_)
           have HK := hI hK'
           clear hK'
           go_simp
           cases HV.out
           refine HK.out _ _ ⟨by simp [HJ.out.sz], ?_⟩
           iterate 21 apply Exists.intro
           refine ⟨rfl, ?_⟩
           constructor
           case k6 => exact fun _ => by rw [show IntKind.i64.wrap (py - d) = py - d from by rw [IntKind.wrap_i64]; omega]
           case bx => exact HV.out.bx
           case o20 => exact fun h0 h1 => HV.out.o20 (getD_dn (by decide) h0) (getD_df (by decide) h1)
           case q20 => exact fun h => getD_up hun (HV.out.q20 (getD_dn (by decide) h))
           all_goals exact Um (by assumption)
          ·simp at ho
           subst ho
           clear hall hi
           refine wpOpIn_step rfl (fun K' hK' => ?_)
           have HK := hI hK'
           clear hK'
           go_simp
           cases HV.out
           refine HK.out _ _ ⟨by simp [HJ.out.sz], ?_⟩
           iterate 21 apply Exists.intro
           refine ⟨rfl, ?_⟩
           constructor
           case k7 => exact fun _ => rfl
           case bx => exact HV.out.bx
           case o20 => exact fun h0 h1 => HV.out.o20 (getD_dn (by decide) h0) (getD_df (by decide) h1)
           case q20 => exact fun h => getD_up hun (HV.out.q20 (getD_dn (by decide) h))
           all_goals exact Um (by assumption)
          ·simp at ho
           subst ho
           clear hall hi
           refine wpOpIn_step rfl (fun K' hK' => ?_)
           have HK := hI hK'
           clear hK'
           go_simp
           cases HV.out
           refine HK.out _ _ ⟨by simp [HJ.out.sz], ?_⟩
           iterate 21 apply Exists.intro
           refine ⟨rfl, ?_⟩
           constructor
           case k8 => exact fun _ => rfl
           case bx => exact HV.out.bx
           case o20 => exact fun h0 h1 => HV.out.o20 (getD_dn (by decide) h0) (getD_df (by decide) h1)
           case q20 => exact fun h => getD_up hun (HV.out.q20 (getD_dn (by decide) h))
           all_goals exact Um (by assumption)
          ·simp at ho
           subst ho
           have h7x : L.getD 7 false = true := hall { on := 7, ground := Ground.data } (by simp) (by decide)
           have h8x : L.getD 8 false = true := hall { on := 8, ground := Ground.data } (by simp) (by decide)
           have H7 := hI h7x
           have H8 := hI h8x
           clear hall hi h7x h8x
           have e0 := HV.out.k7 H7.out
           subst e0
           have e1 := HV.out.k8 H8.out
           subst e1
           have hki : (k : Int) < (N : Int) := by omega
           refine wpOpIn_step rfl (fun K' hK' => ?_)
           have HK := hI hK'
           clear hK'
           go_simp
           cases HV.out
           refine HK.out _ _ ⟨by simp [HJ.out.sz], ?_⟩
           iterate 21 apply Exists.intro
           refine ⟨rfl, ?_⟩
           constructor
           case k9 => exact fun _ => rfl
           case bx => exact HV.out.bx
           case o20 => exact fun h0 h1 => HV.out.o20 (getD_dn (by decide) h0) (getD_df (by decide) h1)
           case q20 => exact fun h => getD_up hun (HV.out.q20 (getD_dn (by decide) h))
           all_goals exact Um (by assumption)
          ·simp at ho
           subst ho
           have h9x : L.getD 9 false = true := hall { on := 9, ground := Ground.data } (by simp) (by decide)
           have H9 := hI h9x
           clear hall hi h9x
           have e0 := HV.out.k9 H9.out
           subst e0
           refine wpOpIn_step rfl (fun K' hK' => ?_)
           have HK := hI hK'
           clear hK'
           go_simp
           cases HV.out
           refine HK.out _ _ ⟨by simp [HJ.out.sz], ?_⟩
           iterate 21 apply Exists.intro
           refine ⟨rfl, ?_⟩
           constructor
           case k10 => exact fun _ => rfl
           case bx => exact HV.out.bx
           case o20 => exact fun h0 h1 => HV.out.o20 (getD_dn (by decide) h0) (getD_df (by decide) h1)
           case q20 => exact fun h => getD_up hun (HV.out.q20 (getD_dn (by decide) h))
           all_goals exact Um (by assumption)
          ·simp at ho
           subst ho
           have h10x : L.getD 10 false = true := hall { on := 10, ground := Ground.data } (by simp) (by decide)
           have H10 := hI h10x
           clear hall hi h10x
           have e0 := HV.out.k10 H10.out
           subst e0
           obtain ⟨cx, cy⟩ := (HRR.out _ (HV.out.bx.get 8 rfl)).2 k (px, py) HPK.out
           simp only at cx cy
           refine wpOpIn_step rfl (fun K' hK' => ?_)
           have HK := hI hK'
           clear hK'
           go_simp
           cases HV.out
           refine HK.out _ _ ⟨by simp [HJ.out.sz], ?_⟩
           iterate 21 apply Exists.intro
           refine ⟨rfl, ?_⟩
           constructor
           case k11 => exact fun _ => rfl
           case bx => exact HV.out.bx
           case o20 => exact fun h0 h1 => HV.out.o20 (getD_dn (by decide) h0) (getD_df (by decide) h1)
           case q20 => exact fun h => getD_up hun (HV.out.q20 (getD_dn (by decide) h))
           all_goals exact Um (by assumption)
          ·simp at ho
           subst ho
           clear hall hi
           refine wpOpIn_step rfl (fun K' hK' => ?_)
           have HK := hI hK'
           clear hK'
           go_simp
           cases HV.out
           refine HK.out _ _ ⟨by simp [HJ.out.sz], ?_⟩
           iterate 21 apply Exists.intro
           refine ⟨rfl, ?_⟩
           constructor
           case k12 => exact fun _ => rfl
           case bx => exact HV.out.bx
           case o20 => exact fun h0 h1 => HV.out.o20 (getD_dn (by decide) h0) (getD_df (by decide) h1)
           case q20 => exact fun h => getD_up hun (HV.out.q20 (getD_dn (by decide) h))
           all_goals exact Um (by assumption)
          ·simp at ho
           subst ho
           clear hall hi
           refine wpOpIn_step rfl (fun K' hK' => ?_)
           have HK := hI hK'
           clear hK'
           go_simp
           cases HV.out
           refine HK.out _ _ ⟨by simp [HJ.out.sz], ?_⟩
           iterate 21 apply Exists.intro
           refine ⟨rfl, ?_⟩
           constructor
           case k13 => exact fun _ => rfl
           case bx => exact HV.out.bx
           case o20 => exact fun h0 h1 => HV.out.o20 (getD_dn (by decide) h0) (getD_df (by decide) h1)
           case q20 => exact fun h => getD_up hun (HV.out.q20 (getD_dn (by decide) h))
           all_goals exact Um (by assumption)
          ·simp at ho
           subst ho
           have h12x : L.getD 12 false = true := hall { on := 12, ground := Ground.data } (by simp) (by decide)
           have h13x : L.getD 13 false = true := hall { on := 13, ground := Ground.data } (by simp) (by decide)
           have H12 := hI h12x
           have H13 := hI h13x
           clear hall hi h12x h13x
           have e0 := HV.out.k12 H12.out
           subst e0
           have e1 := HV.out.k13 H13.out
           subst e1
           have hki : (k : Int) < (N : Int) := by omega
           refine wpOpIn_step rfl (fun K' hK' => ?_)
           have HK := hI hK'
           clear hK'
           go_simp
           cases HV.out
           refine HK.out _ _ ⟨by simp [HJ.out.sz], ?_⟩
           iterate 21 apply Exists.intro
           refine ⟨rfl, ?_⟩
           constructor
           case k14 => exact fun _ => rfl
           case bx => exact HV.out.bx
           case o20 => exact fun h0 h1 => HV.out.o20 (getD_dn (by decide) h0) (getD_df (by decide) h1)
           case q20 => exact fun h => getD_up hun (HV.out.q20 (getD_dn (by decide) h))
           all_goals exact Um (by assumption)
          ·simp at ho
           subst ho
           have h14x : L.getD 14 false = true := hall { on := 14, ground := Ground.data } (by simp) (by decide)
           have H14 := hI h14x
           clear hall hi h14x
           have e0 := HV.out.k14 H14.out
           subst e0
           refine wpOpIn_step rfl (fun K' hK' => ?_)
           have HK := hI hK'
           clear hK'
           go_simp
           cases HV.out
           refine HK.out _ _ ⟨by simp [HJ.out.sz], ?_⟩
           iterate 21 apply Exists.intro
           refine ⟨rfl, ?_⟩
           constructor
           case k15 => exact fun _ => rfl
           case bx => exact HV.out.bx
           case o20 => exact fun h0 h1 => HV.out.o20 (getD_dn (by decide) h0) (getD_df (by decide) h1)
           case q20 => exact fun h => getD_up hun (HV.out.q20 (getD_dn (by decide) h))
           all_goals exact Um (by assumption)
          ·simp at ho
           subst ho
           have h15x : L.getD 15 false = true := hall { on := 15, ground := Ground.data } (by simp) (by decide)
           have H15 := hI h15x
           clear hall hi h15x
           have e0 := HV.out.k15 H15.out
           subst e0
           obtain ⟨cx, cy⟩ := (HRR.out _ (HV.out.bx.get 8 rfl)).2 k (px, py) HPK.out
           simp only at cx cy
           refine wpOpIn_step rfl (fun K' hK' => ?_)
           have HK := hI hK'
           clear hK'
           go_simp
           cases HV.out
           refine HK.out _ _ ⟨by simp [HJ.out.sz], ?_⟩
           iterate 21 apply Exists.intro
           refine ⟨rfl, ?_⟩
           constructor
           case k16 => exact fun _ => rfl
           case bx => exact HV.out.bx
           case o20 => exact fun h0 h1 => HV.out.o20 (getD_dn (by decide) h0) (getD_df (by decide) h1)
           case q20 => exact fun h => getD_up hun (HV.out.q20 (getD_dn (by decide) h))
           all_goals exact Um (by assumption)
          ·simp at ho
           subst ho
           have h11x : L.getD 11 false = true := hall { on := 11, ground := Ground.data } (by simp) (by decide)
           have h16x : L.getD 16 false = true := hall { on := 16, ground := Ground.data } (by simp) (by decide)
           have H11 := hI h11x
           have H16 := hI h16x
           clear hall hi h11x h16x
           have e0 := HV.out.k11 H11.out
           subst e0
           have e1 := HV.out.k16 H16.out
           subst e1
           refine wpOpIn_step rfl (fun K' hK' => ?_)
           have HK := hI hK'
           clear hK'
           go_simp
           cases HV.out
           refine HK.out _ _ ⟨by simp [HJ.out.sz], ?_⟩
           iterate 21 apply Exists.intro
           refine ⟨rfl, ?_⟩
           constructor
           case k17 => exact fun _ => by rw [show IntKind.i64.wrap (py - px) = py - px from by rw [IntKind.wrap_i64]; omega]
           case bx => exact HV.out.bx
           case o20 => exact fun h0 h1 => HV.out.o20 (getD_dn (by decide) h0) (getD_df (by decide) h1)
           case q20 => exact fun h => getD_up hun (HV.out.q20 (getD_dn (by decide) h))
           all_goals exact Um (by assumption)
          ·simp at ho
           subst ho
           have h6x : L.getD 6 false = true := hall { on := 6, ground := Ground.data } (by simp) (by decide)
           have h17x : L.getD 17 false = true := hall { on := 17, ground := Ground.data } (by simp) (by decide)
           have H6 := hI h6x
           have H17 := hI h17x
           clear hall hi h6x h17x
           have e0 := HV.out.k6 H6.out
           subst e0
           have e1 := HV.out.k17 H17.out
           subst e1
           refine wpOpIn_step rfl (fun K' hK' => ?_)
           have HK := hI hK'
           clear hK'
           go_simp
           refine ⟨trivial, ?_⟩
           refine (callsIn_wide.2 (HQO.out _ HV.out.bx)).mono ?_
           rintro e wn ⟨rfl, hbn⟩
           cases HV.out
           refine HK.out _ _ ⟨by simp [HJ.out.sz], ?_⟩
           iterate 21 apply Exists.intro
           refine ⟨rfl, ?_⟩
           constructor
           case k18 => exact fun _ => rfl
           case bx => exact HV.out.bx.below hbn
           case o20 => exact fun h j => bkeep hbn (HV.out.o20 (getD_dn (by decide) h) (getD_df (by decide) j))
           case n20 => exact fun h => bkeep hbn (HV.out.n20 (getD_dn (by decide) h))
           case q20 => exact fun h => getD_up hun (HV.out.q20 (getD_dn (by decide) h))
           all_goals exact Um (by assumption)
          ·simp at ho
           subst ho
           clear hall hi
           refine wpOpIn_step rfl (fun K' hK' => ?_)
           have HK := hI hK'
           clear hK'
           go_simp
           cases HV.out
           refine HK.out _ _ ⟨by simp [HJ.out.sz], w'.heap.size, ?_⟩
           iterate 20 apply Exists.intro
           refine ⟨rfl, ?_⟩
           constructor
           case k19 => exact fun _ => rfl
           case bx => exact HV.out.bx.below ((Below.refl _ w').alloc (Nat.le_refl _) _)
           case o20 => exact fun _ _ => heap_alloc_new w' _
           case b20 => exact fun _ => ⟨HV.out.bx.1.size, fun x hx e => by have := (Array.getElem?_eq_some_iff.1 (HV.out.bx.2 x hx)).1; omega⟩
           case n20 => exact fun h => (not_on hoff (HV.out.q20 (getD_dn (by decide) h))).elim
           case q20 => exact fun h => getD_up hun (HV.out.q20 (getD_dn (by decide) h))
           all_goals exact Um (by assumption)
          ·simp at ho
           subst ho
           have h19x : L.getD 19 false = true := hall { on := 19, ground := Ground.data } (by simp) (by decide)
           have h18x : L.getD 18 false = true := hall { on := 18, ground := Ground.data } (by simp) (by decide)
           have H19 := hI h19x
           have H18 := hI h18x
           clear hall hi h19x h18x
           have e0 := HV.out.k19 H19.out
           subst e0
           have e1 := HV.out.k18 H18.out
           subst e1
           have hko := HV.out.o20 H19.out hoff
           have m0 := Lib.cell_of_heap hko 0; have m1 := Lib.cell_of_heap hko 1; have f0 := Lib.frozen_of_heap hko 0; have f1 := Lib.frozen_of_heap hko 1
           simp at m0 m1 f0 f1
           refine wpOpIn_step rfl (fun K' hK' => ?_)
           have HK := hI hK'
           clear hK'
           go_simp
           cases HV.out
           refine HK.out _ _ ⟨by simp [HJ.out.sz], ?_⟩
           iterate 21 apply Exists.intro
           refine ⟨rfl, ?_⟩
           constructor
           case bx => exact HV.out.bx.far (b := nl) (HV.out.b20 H19.out).1 (HV.out.b20 H19.out).2 _ _
           case o20 => exact fun _ h => (not_on h (getD_set_same hun)).elim
           case b20 => exact fun _ => HV.out.b20 H19.out
           case n20 => exact fun _ => set2 hko _ _
           case q20 => exact fun _ => getD_up hun H19.out
           all_goals exact Um (by assumption)
    ·have HLF := hI hlife
     have hx : decide (d < i.issued) = true ∨ (decide (d < i.issued) = false ∧ decide (d > i.matures) = true ∧ decide (i.matures < d) = true) := by
      rcases Int.lt_or_le d i.issued with h | h
      ·exact .inl (decide_eq_true h)
      ·exact .inr ⟨decide_eq_false (by omega), decide_eq_true (by omega), decide_eq_true (by omega)⟩
     clear hlife
     rcases hx with t1 | ⟨t1, t2, t3⟩
     all_goals
      gi_wp2
      have k2 := HB5.out.get 2 rfl
      refine ⟨_, results_row_tmp2 rfl _ _ (w.heap.size + 2) _ _ (0, 0) _ rfl (Go.Proofs.YtcnmoobojdopgaaGreatDoor.set2 k2 _ _) Tryz.underlying25 rfl (by kernel_rfl), ?_⟩
      rw [← HQ.out]
      exact ⟨set2_below (by omega) HB5.out.1 _ _, .inr ⟨HL.out, .inr ⟨HD.out, .inr ⟨HGY1.out, .inl ⟨HLF.out, by rw [HZ.out]; rfl⟩⟩⟩⟩⟩
   ·have t5 : decide (cz ≤ 0) = true := decide_eq_true (by
     have h1 : ¬ 0 < g.num := fun h => hgp (num_pos'.1 h)
     have h2 := HCZ.out
     have := (cmpI_le (x := g.num) (y := 0)).2 (by omega)
     omega)
    have HGP : Hid (1 + fv yn yd ≤ 0) := by show _ ≤ (0 : Rat); rw [HGY.out]; grind
    clear hgp
    gi_wp2
    have k2 := HB5.out.get 2 rfl
    refine ⟨_, results_row_tmp2 rfl _ _ (w.heap.size + 2) _ _ (0, 0) _ rfl (Go.Proofs.YtcnmoobojdopgaaGreatDoor.set2 k2 _ _) Tryz.underlying25 rfl (by kernel_rfl), ?_⟩
    rw [← HQ.out]
    exact ⟨set2_below (by omega) HB5.out.1 _ _, .inr ⟨HL.out, .inr ⟨HD.out, .inl ⟨HGP.out, by rw [HZ.out]; rfl⟩⟩⟩⟩
  case stPA =>
   intro L a w' hj i hi
   obtain ⟨hun, o, ho, hall⟩ := mem_ready.1 hi
   have hoff := getD_off hun
   have hlt := (Array.getElem?_eq_some_iff.1 ho).1
   simp at hlt
   obtain ⟨nb, s10, s31, s32, s33, rfl, hv⟩ := hj.fr
   have HV := hI hv
   have HJ := hI hj
   clear hv hj
   rcases (show i = 0 ∨ i = 1 ∨ i = 2 ∨ i = 3 ∨ i = 4 from by omega) with rfl | rfl | rfl | rfl | rfl
   ·simp at ho
    subst ho
    clear hall hi
    refine wpOpIn_step rfl (fun K' hK' => ?_)
    have HK := hI hK'
    clear hK'
    go_simp
    refine ⟨trivial, ?_⟩
    refine (callsIn_wide.2 (HOF.out _ HV.out.bx)).mono ?_
    rintro e wn ⟨rfl, hbn⟩
    exact HK.out _ _ ⟨by simp [HJ.out.sz], ⟨_, _, _, _, _, rfl, fun _ => rfl, fun h0 => HV.out.k1 (getD_dn (by decide) h0), fun h0 => HV.out.k2 (getD_dn (by decide) h0), fun h0 => HV.out.k3 (getD_dn (by decide) h0), HV.out.bx.below hbn, fun h j => bkeep hbn (HV.out.o4 (getD_dn (by decide) h) (getD_df (by decide) j)), fun h0 => HV.out.b4 (getD_dn (by decide) h0), fun h => bkeep hbn (HV.out.n4 (getD_dn (by decide) h)), fun h => getD_up hun (HV.out.q4 (getD_dn (by decide) h))⟩⟩
   ·simp at ho
    subst ho
    clear hall hi
    have hb := HV.out.bx.get 1 rfl; have c0 := Lib.cell_of_heap hb 0; have c1 := Lib.cell_of_heap hb 1
    simp at c0 c1
    refine wpOpIn_step rfl (fun K' hK' => ?_)
    have HK := hI hK'
    clear hK'
    go_simp
    cases HV.out
    refine HK.out _ _ ⟨by simp [HJ.out.sz], ?_⟩
    iterate 5 apply Exists.intro
    refine ⟨rfl, ?_⟩
    constructor
    case k1 => exact fun _ => rfl
    case bx => exact HV.out.bx
    case o4 => exact fun h0 h1 => HV.out.o4 (getD_dn (by decide) h0) (getD_df (by decide) h1)
    case q4 => exact fun h => getD_up hun (HV.out.q4 (getD_dn (by decide) h))
    all_goals exact Um (by assumption)
   ·simp at ho
    subst ho
    have h0x : L.getD 0 false = true := hall { on := 0, ground := Ground.data } (by simp) (by decide)
    have h1x : L.getD 1 false = true := hall { on := 1, ground := Ground.data } (by simp) (by decide)
    have H0 := hI h0x
    have H1 := hI h1x
    clear hall hi h0x h1x
    have e0 := HV.out.k0 H0.out
    subst e0
    have e1 := HV.out.k1 H1.out
    subst e1
    refine wpOpIn_step rfl (fun K' hK' => ?_)
    have HK := hI hK'
    clear hK'
    go_simp
    refine ⟨trivial, ?_⟩
    refine (callsIn_wide.2 (HAD.out _ HV.out.bx)).mono ?_
    rintro e wn ⟨rfl, hbn⟩
    exact HK.out _ _ ⟨by simp [HJ.out.sz], ⟨_, _, _, _, _, rfl, fun h0 => HV.out.k0 (getD_dn (by decide) h0), fun h0 => HV.out.k1 (getD_dn (by decide) h0), fun _ => rfl, fun h0 => HV.out.k3 (getD_dn (by decide) h0), HV.out.bx.below hbn, fun h j => bkeep hbn (HV.out.o4 (getD_dn (by decide) h) (getD_df (by decide) j)), fun h0 => HV.out.b4 (getD_dn (by decide) h0), fun h => bkeep hbn (HV.out.n4 (getD_dn (by decide) h)), fun h => getD_up hun (HV.out.q4 (getD_dn (by decide) h))⟩⟩
   ·simp at ho
    subst ho
    clear hall hi
    refine wpOpIn_step rfl (fun K' hK' => ?_)
    have HK := hI hK'
    clear hK'
    go_simp
    exact HK.out _ _ ⟨by simp [HJ.out.sz], ⟨w'.heap.size, _, _, _, _, rfl, fun h0 => HV.out.k0 (getD_dn (by decide) h0), fun h0 => HV.out.k1 (getD_dn (by decide) h0), fun h0 => HV.out.k2 (getD_dn (by decide) h0), fun _ => rfl, HV.out.bx.below ((Below.refl _ w').alloc (Nat.le_refl _) _), fun _ _ => heap_alloc_new w' _, fun _ => ⟨HV.out.bx.1.size, fun x hx e => by have := (Array.getElem?_eq_some_iff.1 (HV.out.bx.2 x hx)).1; omega⟩, fun h => (not_on hoff (HV.out.q4 (getD_dn (by decide) h))).elim, fun h => getD_up hun (HV.out.q4 (getD_dn (by decide) h))⟩⟩
   ·simp at ho
    subst ho
    have h3x : L.getD 3 false = true := hall { on := 3, ground := Ground.data } (by simp) (by decide)
    have h2x : L.getD 2 false = true := hall { on := 2, ground := Ground.data } (by simp) (by decide)
    have H3 := hI h3x
    have H2 := hI h2x
    clear hall hi h3x h2x
    have e0 := HV.out.k3 H3.out
    subst e0
    have e1 := HV.out.k2 H2.out
    subst e1
    have hko := HV.out.o4 H3.out hoff
    have m0 := Lib.cell_of_heap hko 0; have m1 := Lib.cell_of_heap hko 1; have f0 := Lib.frozen_of_heap hko 0; have f1 := Lib.frozen_of_heap hko 1
    simp at m0 m1 f0 f1
    refine wpOpIn_step rfl (fun K' hK' => ?_)
    have HK := hI hK'
    clear hK'
    go_simp
    exact HK.out _ _ ⟨by simp [HJ.out.sz], ⟨_, _, _, _, _, rfl, fun h0 => HV.out.k0 (getD_dn (by decide) h0), fun h0 => HV.out.k1 (getD_dn (by decide) h0), fun h0 => HV.out.k2 (getD_dn (by decide) h0), fun h0 => HV.out.k3 (getD_dn (by decide) h0), HV.out.bx.far (b := nb) (HV.out.b4 H3.out).1 (HV.out.b4 H3.out).2 _ _, fun _ h => (not_on h (getD_set_same hun)).elim, fun _ => HV.out.b4 H3.out, fun _ => set2 hko _ _, fun _ => getD_up hun H3.out⟩⟩
end Go.Proofs.YtcnmoobojdopgaaGreatDoor
