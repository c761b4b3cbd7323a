/-
  tranchelaw20.ReliefSums returns true.
-/
import Derived.Test.YtdnmpgoigagjmaaGreatDoorU42
set_option linter.unusedVariables false
set_option linter.unusedSimpArgs false
set_option maxHeartbeats 16000000
set_option maxRecDepth 100000
namespace Go.Proofs.YtdnmpgoigagjmaaGreatDoor
open Go.RowKit Tr Go.Shelf
structure RS1V (wS : World) (ad ad2 : Addr) (N c M c2 i k : Nat) (m : Int) (Bp : Nat) (qx : ByteArray)  (L : Array Bool) (W : World) (s62 s63 s64 s65 s66 s67 s68 s69 s70 s71 s72 s73 s74 s75 s76 s77 s78 s79 s80 s81 s82 s83 s84 s85 s86 s87 s88 s89 s90 s91 s92 s93 s94 : Value) : Prop where
 k0 : L.getD 0 false = true → s62 = .bool true
 k1 : L.getD 1 false = true → s63 = .bool false
 k2 : L.getD 2 false = true → s64 = .bool false
 k3 : L.getD 3 false = true → s65 = .int .i64 (i : Int)
 k4 : L.getD 4 false = true → s66 = .bool false
 k5 : L.getD 5 false = true → s67 = .bool false
 k6 : L.getD 6 false = true → s68 = .bool false
 k7 : L.getD 7 false = true → s69 = .int .i64 (i : Int)
 k8 : L.getD 8 false = true → s70 = .slice (some ad) N c
 k9 : L.getD 9 false = true → s71 = .int .i64 (N : Int)
 k10 : L.getD 10 false = true → s72 = .bool false
 k11 : L.getD 11 false = true → s73 = .bool false
 k12 : L.getD 12 false = true → s74 = .bool false
 k13 : L.getD 13 false = true → s75 = .int .i64 m
 k14 : L.getD 14 false = true → s76 = .bool false
 k15 : L.getD 15 false = true → s77 = .bool false
 k16 : L.getD 16 false = true → s78 = undef
 k17 : L.getD 17 false = true → s79 = undef
 k18 : L.getD 18 false = true → s80 = undef
 k19 : L.getD 19 false = true → s81 = undef
 k20 : L.getD 20 false = true → s82 = undef
 k21 : L.getD 21 false = true → s83 = .bool false
 k22 : L.getD 22 false = true → s84 = .bool false
 k23 : L.getD 23 false = true → s85 = undef
 k24 : L.getD 24 false = true → s86 = undef
 k25 : L.getD 25 false = true → s87 = undef
 k26 : L.getD 26 false = true → s88 = undef
 k27 : L.getD 27 false = true → s89 = undef
 k28 : L.getD 28 false = true → s90 = undef
 k29 : L.getD 29 false = true → s91 = undef
 k30 : L.getD 30 false = true → s92 = undef
 k31 : L.getD 31 false = true → s93 = .bool false
 k32 : L.getD 32 false = true → s94 = .bool false
 g : W = wS
structure RS1J (wS : World) (ad ad2 : Addr) (N c M c2 i k : Nat) (m : Int) (Bp : Nat) (qx : ByteArray) (x1 x2 x4 x5 x6 x7 x8 x9 x10 x12 x13 x18 x19 x20 x21 x22 x23 x24 x25 x26 x27 x28 x29 x30 x31 x32 x33 x34 x35 x36 x37 x38 x39 x40 x41 x42 x43 x44 x45 x46 x47 x48 x49 x50 x51 x52 x53 x54 x55 x56 x57 x58 x59 x60 x61 x95 x96 x97 x98 x99 x100 x101 x102 x103 x104 x105 x106 x107 x108 x109 x110 x111 x112 x113 x114 x115 x116 x117 x118 x119 x120 x121 x122 x123 x124 x125 x126 : Value) (L : Array Bool) (a : Act) (W : World) : Prop where
 sz : L.size = 33
 fr : ∃ s62 s63 s64 s65 s66 s67 s68 s69 s70 s71 s72 s73 s74 s75 s76 s77 s78 s79 s80 s81 s82 s83 s84 s85 s86 s87 s88 s89 s90 s91 s92 s93 s94 : Value, a = { tmps := #[.slice (some ad) N c, x1, x2, .int .i64 m, x4, x5, x6, x7, x8, x9, x10, .slice (some ad2) M c2, x12, x13, .int .i64 (k : Int), .pointer (some ⟨Bp, 0, none⟩), .int .i64 (i : Int), .bool true, x18, x19, x20, x21, x22, x23, x24, x25, x26, x27, x28, x29, x30, x31, x32, x33, x34, x35, x36, x37, x38, x39, x40, x41, x42, x43, x44, x45, x46, x47, x48, x49, x50, x51, x52, x53, x54, x55, x56, x57, x58, x59, x60, x61, s62, s63, s64, s65, s66, s67, s68, s69, s70, s71, s72, s73, s74, s75, s76, s77, s78, s79, s80, s81, s82, s83, s84, s85, s86, s87, s88, s89, s90, s91, s92, s93, s94, x95, x96, x97, x98, x99, x100, x101, x102, x103, x104, x105, x106, x107, x108, x109, x110, x111, x112, x113, x114, x115, x116, x117, x118, x119, x120, x121, x122, x123, x124, x125, x126], defers := [] } ∧ RS1V wS ad ad2 N c M c2 i k m Bp qx  L W s62 s63 s64 s65 s66 s67 s68 s69 s70 s71 s72 s73 s74 s75 s76 s77 s78 s79 s80 s81 s82 s83 s84 s85 s86 s87 s88 s89 s90 s91 s92 s93 s94
structure RS2V (wS : World) (ad ad2 : Addr) (N c M c2 i k : Nat) (m : Int) (Bp : Nat) (qx : ByteArray)  (L : Array Bool) (W : World) (s62 s63 s64 s65 s66 s67 s68 s69 s70 s71 s72 s73 s74 s75 s76 s77 s78 s79 s80 s81 s82 s83 s84 s85 s86 s87 s88 s89 s90 s91 s92 s93 s94 : Value) : Prop where
 k0 : L.getD 0 false = true → s62 = .bool true
 k1 : L.getD 1 false = true → s63 = .bool false
 k2 : L.getD 2 false = true → s64 = .bool false
 k3 : L.getD 3 false = true → s65 = .int .i64 (i : Int)
 k4 : L.getD 4 false = true → s66 = .bool false
 k5 : L.getD 5 false = true → s67 = .bool false
 k6 : L.getD 6 false = true → s68 = .bool false
 k7 : L.getD 7 false = true → s69 = .int .i64 (i : Int)
 k8 : L.getD 8 false = true → s70 = .slice (some ad) N c
 k9 : L.getD 9 false = true → s71 = .int .i64 (N : Int)
 k10 : L.getD 10 false = true → s72 = .bool false
 k11 : L.getD 11 false = true → s73 = .bool false
 k12 : L.getD 12 false = true → s74 = .bool false
 k13 : L.getD 13 false = true → s75 = .int .i64 m
 k14 : L.getD 14 false = true → s76 = .bool true
 k15 : L.getD 15 false = true → s77 = .bool true
 k16 : L.getD 16 false = true → s78 = .int .i64 (k : Int)
 k17 : L.getD 17 false = true → s79 = .int .i64 ((k : Int) + 1)
 k18 : L.getD 18 false = true → s80 = .slice (some ad2) M c2
 k19 : L.getD 19 false = true → s81 = .int .i64 (M : Int)
 k20 : L.getD 20 false = true → s82 = .bool true
 k21 : L.getD 21 false = true → s83 = .bool true
 k22 : L.getD 22 false = true → s84 = .bool true
 k23 : L.getD 23 false = true → s85 = .pointer (some ⟨Bp, 1, none⟩)
 k24 : L.getD 24 false = true → s86 = .string qx
 k25 : L.getD 25 false = true → s87 = .slice (some ad) N c
 k26 : L.getD 26 false = true → s88 = .int .i64 (i : Int)
 k27 : L.getD 27 false = true → s89 = .pointer (some (ad.add (i * 7)))
 k28 : L.getD 28 false = true → s90 = .pointer (some ⟨(ad.add (i * 7)).block, (ad.add (i * 7)).off + 4, none⟩)
 k29 : L.getD 29 false = true → s91 = .string qx
 k30 : L.getD 30 false = true → s92 = .bool false
 k31 : L.getD 31 false = true → s93 = .bool false
 k32 : L.getD 32 false = true → s94 = .bool false
 g : W = wS
structure RS2J (wS : World) (ad ad2 : Addr) (N c M c2 i k : Nat) (m : Int) (Bp : Nat) (qx : ByteArray) (x1 x2 x4 x5 x6 x7 x8 x9 x10 x12 x13 x18 x19 x20 x21 x22 x23 x24 x25 x26 x27 x28 x29 x30 x31 x32 x33 x34 x35 x36 x37 x38 x39 x40 x41 x42 x43 x44 x45 x46 x47 x48 x49 x50 x51 x52 x53 x54 x55 x56 x57 x58 x59 x60 x61 x95 x96 x97 x98 x99 x100 x101 x102 x103 x104 x105 x106 x107 x108 x109 x110 x111 x112 x113 x114 x115 x116 x117 x118 x119 x120 x121 x122 x123 x124 x125 x126 : Value) (L : Array Bool) (a : Act) (W : World) : Prop where
 sz : L.size = 33
 fr : ∃ s62 s63 s64 s65 s66 s67 s68 s69 s70 s71 s72 s73 s74 s75 s76 s77 s78 s79 s80 s81 s82 s83 s84 s85 s86 s87 s88 s89 s90 s91 s92 s93 s94 : Value, a = { tmps := #[.slice (some ad) N c, x1, x2, .int .i64 m, x4, x5, x6, x7, x8, x9, x10, .slice (some ad2) M c2, x12, x13, .int .i64 (k : Int), .pointer (some ⟨Bp, 0, none⟩), .int .i64 (i : Int), .bool true, x18, x19, x20, x21, x22, x23, x24, x25, x26, x27, x28, x29, x30, x31, x32, x33, x34, x35, x36, x37, x38, x39, x40, x41, x42, x43, x44, x45, x46, x47, x48, x49, x50, x51, x52, x53, x54, x55, x56, x57, x58, x59, x60, x61, s62, s63, s64, s65, s66, s67, s68, s69, s70, s71, s72, s73, s74, s75, s76, s77, s78, s79, s80, s81, s82, s83, s84, s85, s86, s87, s88, s89, s90, s91, s92, s93, s94, x95, x96, x97, x98, x99, x100, x101, x102, x103, x104, x105, x106, x107, x108, x109, x110, x111, x112, x113, x114, x115, x116, x117, x118, x119, x120, x121, x122, x123, x124, x125, x126], defers := [] } ∧ RS2V wS ad ad2 N c M c2 i k m Bp qx  L W s62 s63 s64 s65 s66 s67 s68 s69 s70 s71 s72 s73 s74 s75 s76 s77 s78 s79 s80 s81 s82 s83 s84 s85 s86 s87 s88 s89 s90 s91 s92 s93 s94
structure RS3V (wS : World) (ad ad2 : Addr) (N c M c2 i k : Nat) (m : Int) (Bp : Nat) (qx : ByteArray)  (L : Array Bool) (W : World) (s62 s63 s64 s65 s66 s67 s68 s69 s70 s71 s72 s73 s74 s75 s76 s77 s78 s79 s80 s81 s82 s83 s84 s85 s86 s87 s88 s89 s90 s91 s92 s93 s94 : Value) : Prop where
 k0 : L.getD 0 false = true → s62 = .bool true
 k1 : L.getD 1 false = true → s63 = .bool false
 k2 : L.getD 2 false = true → s64 = .bool false
 k3 : L.getD 3 false = true → s65 = .int .i64 (i : Int)
 k4 : L.getD 4 false = true → s66 = .bool false
 k5 : L.getD 5 false = true → s67 = .bool false
 k6 : L.getD 6 false = true → s68 = .bool false
 k7 : L.getD 7 false = true → s69 = .int .i64 (i : Int)
 k8 : L.getD 8 false = true → s70 = .slice (some ad) N c
 k9 : L.getD 9 false = true → s71 = .int .i64 (N : Int)
 k10 : L.getD 10 false = true → s72 = .bool false
 k11 : L.getD 11 false = true → s73 = .bool false
 k12 : L.getD 12 false = true → s74 = .bool false
 k13 : L.getD 13 false = true → s75 = .int .i64 m
 k14 : L.getD 14 false = true → s76 = .bool true
 k15 : L.getD 15 false = true → s77 = .bool true
 k16 : L.getD 16 false = true → s78 = .int .i64 (k : Int)
 k17 : L.getD 17 false = true → s79 = .int .i64 ((k : Int) + 1)
 k18 : L.getD 18 false = true → s80 = .slice (some ad2) M c2
 k19 : L.getD 19 false = true → s81 = .int .i64 (M : Int)
 k20 : L.getD 20 false = true → s82 = .bool false
 k21 : L.getD 21 false = true → s83 = .bool false
 k22 : L.getD 22 false = true → s84 = .bool false
 k23 : L.getD 23 false = true → s85 = undef
 k24 : L.getD 24 false = true → s86 = undef
 k25 : L.getD 25 false = true → s87 = undef
 k26 : L.getD 26 false = true → s88 = undef
 k27 : L.getD 27 false = true → s89 = undef
 k28 : L.getD 28 false = true → s90 = undef
 k29 : L.getD 29 false = true → s91 = undef
 k30 : L.getD 30 false = true → s92 = undef
 k31 : L.getD 31 false = true → s93 = .bool false
 k32 : L.getD 32 false = true → s94 = .bool false
 g : W = wS
structure RS3J (wS : World) (ad ad2 : Addr) (N c M c2 i k : Nat) (m : Int) (Bp : Nat) (qx : ByteArray) (x1 x2 x4 x5 x6 x7 x8 x9 x10 x12 x13 x18 x19 x20 x21 x22 x23 x24 x25 x26 x27 x28 x29 x30 x31 x32 x33 x34 x35 x36 x37 x38 x39 x40 x41 x42 x43 x44 x45 x46 x47 x48 x49 x50 x51 x52 x53 x54 x55 x56 x57 x58 x59 x60 x61 x95 x96 x97 x98 x99 x100 x101 x102 x103 x104 x105 x106 x107 x108 x109 x110 x111 x112 x113 x114 x115 x116 x117 x118 x119 x120 x121 x122 x123 x124 x125 x126 : Value) (L : Array Bool) (a : Act) (W : World) : Prop where
 sz : L.size = 33
 fr : ∃ s62 s63 s64 s65 s66 s67 s68 s69 s70 s71 s72 s73 s74 s75 s76 s77 s78 s79 s80 s81 s82 s83 s84 s85 s86 s87 s88 s89 s90 s91 s92 s93 s94 : Value, a = { tmps := #[.slice (some ad) N c, x1, x2, .int .i64 m, x4, x5, x6, x7, x8, x9, x10, .slice (some ad2) M c2, x12, x13, .int .i64 (k : Int), .pointer (some ⟨Bp, 0, none⟩), .int .i64 (i : Int), .bool true, x18, x19, x20, x21, x22, x23, x24, x25, x26, x27, x28, x29, x30, x31, x32, x33, x34, x35, x36, x37, x38, x39, x40, x41, x42, x43, x44, x45, x46, x47, x48, x49, x50, x51, x52, x53, x54, x55, x56, x57, x58, x59, x60, x61, s62, s63, s64, s65, s66, s67, s68, s69, s70, s71, s72, s73, s74, s75, s76, s77, s78, s79, s80, s81, s82, s83, s84, s85, s86, s87, s88, s89, s90, s91, s92, s93, s94, x95, x96, x97, x98, x99, x100, x101, x102, x103, x104, x105, x106, x107, x108, x109, x110, x111, x112, x113, x114, x115, x116, x117, x118, x119, x120, x121, x122, x123, x124, x125, x126], defers := [] } ∧ RS3V wS ad ad2 N c M c2 i k m Bp qx  L W s62 s63 s64 s65 s66 s67 s68 s69 s70 s71 s72 s73 s74 s75 s76 s77 s78 s79 s80 s81 s82 s83 s84 s85 s86 s87 s88 s89 s90 s91 s92 s93 s94
theorem ReliefSums_any (A : Option Addr) (ls : List Lot) (c : Nat) (hcap : ls.length ≤ c) (h1 : ls.length ≤ 9223372036854775807) (hA : A = none → ls.length = 0 ∧ c = 0) (s q : ByteArray) (m : Int) (Ap : Option Addr) (ps : List Pk) (cp : Nat) (hcp : ps.length ≤ cp) (hp1 : ps.length ≤ 9223372036854775807) (w : World)
 (hR : RdL w A ls) (hK : RdK w.heap.size w Ap ps) (ht : Tabs w) : Calls Tryz.prog 4 #[.slice A ls.length c, .string s, .string q, .int .i64 m, .slice Ap ps.length cp] w (TruePost19 w) := by
 have HAW := hI (fun W (hW : Below w.heap.size w W) => awake20_any W (ht.below hW))
 have HGR := hI (great20_any w.heap.size A ls c h1 Ap ps cp hp1 s q w hR hK (Nat.le_refl _))
 by_cases hsm : Sml ls ps s q
 case neg =>
  have HN := hI hsm
  obtain ⟨N, hN⟩ : ∃ N, ls.length = N := ⟨_, rfl⟩
  obtain ⟨P, hP⟩ : ∃ P, ps.length = P := ⟨_, rfl⟩
  rw [hN, hP] at HGR ⊢
  clear hR hK ht hcap h1 hA hcp hp1 hsm hN hP
  go_enter Tryz.func4, Tryz.ntmps4
  go_wp2_with fail
  refine HGR.out.mono ?_
  rintro e w1 ⟨b, rfl, hb, b1⟩
  have hbt : b = true := by cases b; exact (HN.out (hb rfl)).elim; rfl
  subst hbt
  have HB1 := hI b1
  have HA1 := hI (HAW.out w1 b1)
  clear b1 hb
  go_wp2_with fail
  refine HA1.out.mono ?_
  rintro e w2 ⟨rfl, b2⟩
  have HB2 := hI (HB1.out.trans (b2.mono HB1.out.size))
  clear b2
  go_wp2_with fail
  go_ret
  exact ⟨rfl, HB2.out⟩
 obtain ⟨sl, hsl⟩ := sl_of ls (fun l hl => (hsm.tiny l hl).sized)
 have hll : sl.length = ls.length := by rw [← hsl, List.length_map]
 have hrb : RdB w.heap.size w A sl := by
  intro hl
  obtain ⟨ad, e, q1, q2⟩ := hR (by rw [← hsl]; intro h; exact hl (List.map_eq_nil_iff.1 h))
  exact ⟨ad, e, q1, fun j l hj => q2 j l.1 (by rw [← hsl, List.getElem?_map, hj]; rfl)⟩
 have hpq : ∀ p ∈ ps, p.qty.size ≤ 1000 := fun p hp => by have := (hsm.p p hp).2; omega
 have hl2 := hsm.len.2
 have hp2 := hsm.pl
 have hq2 := hsm.q
 have HCK := fun (A2 : Option Addr) (l2 : List Pk) (c2 : Nat) (hl2 : l2.length ≤ 10000) (hc2 : l2.length ≤ c2) (hs2 : ∀ p ∈ l2, p.qty.size ≤ 1000) W (hW : Below w.heap.size w W) (hk : RdK W.heap.size W A2 l2) => Check20_any W.heap.size A sl c (by omega) (by omega) s A2 l2 c2 hl2 hc2 hs2 W (fun h => by obtain ⟨ad, e, h1, h2⟩ := hrb.below hW h; exact ⟨ad, e, Nat.lt_of_lt_of_le h1 hW.size, h2⟩) (Nat.le_refl _) hk (ht.below hW)
 have HCH := fun W (hW : Below w.heap.size w W) => Choose20_any w.heap.size A sl c (by omega) (by omega) s q (by omega) m Ap ps cp (by omega) hpq W (hrb.below hW) hW.size (by rw [hll]; exact hA) (hK.below hW) (ht.below hW)
 have HCN := fun W (hW : Below w.heap.size w W) => Choose20_any w.heap.size A sl c (by omega) (by omega) s q (by omega) m none [] 0 (by decide) (fun p h => by cases h) W (hrb.below hW) hW.size (by rw [hll]; exact hA) (RdK.nil _ _ _) (ht.below hW)
 have HFI := fun (id : ByteArray) W (hW : Below w.heap.size w W) => lFind_any w.heap.size A (sl.map Subtype.val) c id (by rw [List.length_map]; omega) W ((hrb.below hW).rdb') hW.size
 rw [List.length_map] at HFI
 rw [hsl, hll] at HCK HCH HCN HFI
 have HT := hI ht
 have HRL := hI hR
 have HSM := hI hsm
 obtain ⟨N, hN⟩ : ∃ N, ls.length = N := ⟨_, rfl⟩
 obtain ⟨P, hP⟩ : ∃ P, ps.length = P := ⟨_, rfl⟩
 rw [hN] at HGR HCK HCH HCN HFI hl2 ⊢
 rw [hP] at HGR HCH hp2 ⊢
 replace HCK := hI HCK
 replace HCH := hI HCH
 replace HCN := hI HCN
 replace HFI := hI HFI
 have HN := hI hN
 have HP := hI hP
 clear hR hK ht hcap h1 hA hcp hp1 hsm hN hP sl hsl hll hrb hpq hq2
 go_enter Tryz.func4, Tryz.ntmps4
 go_wp2_with fail
 refine HGR.out.mono ?_
 rintro e w1 ⟨b, rfl, _, b1⟩
 have HB1 := hI b1
 clear b1 HGR
 cases b
 case true =>
  have HA1 := hI (HAW.out w1 HB1.out)
  go_wp2_with fail
  refine HA1.out.mono ?_
  rintro e w2 ⟨rfl, b2⟩
  have HB2 := hI (HB1.out.trans (b2.mono HB1.out.size))
  clear b2
  go_wp2_with fail
  go_ret
  exact ⟨rfl, HB2.out⟩
 have HCC := hI (HCH.out w1 HB1.out)
 clear HCH
 go_wp2_with fail
 refine HCC.out.mono ?_
 rintro e w2 ⟨A2, c2, res, rfl, b2, hk2, hc2, hr0, hr1⟩
 have HB2 := hI (HB1.out.trans (b2.mono HB1.out.size))
 have HA1 := hI (HAW.out w2 HB2.out)
 by_cases hce : chsE ls s q m ps = 0
 case neg =>
  obtain rfl := hr0 hce
  generalize chsE ls s q m ps = z at hce ⊢
  have t1 : (z == 0) = false := beq_eq_false_iff_ne.2 hce
  have t2 : (z != 0) = true := by rw [bne, t1]; rfl
  clear hce b2 hk2 hc2 hr0 hr1 HCC
  go_wp2_with fail
  refine HA1.out.mono ?_
  rintro e w3 ⟨rfl, b3⟩
  have HB3 := hI (HB2.out.trans (b3.mono HB2.out.size))
  clear b3
  go_wp2_with fail
  go_ret
  exact ⟨rfl, HB3.out⟩
 have hres : res = chsR ls s q m ps := hr1 hce
 have hok := chsE_zero hce
 have hrl : res.length ≤ 1010 := by rw [hres]; have := chsR_len ls s q m ps; have := HN.out; have := HP.out; omega
 have hrs : ∀ p ∈ res, p.qty.size ≤ 1000 := fun p hp => by rw [hres] at hp; have := hok.size HSM.out.tiny p hp; omega
 have hchk : chkE ls s res = 0 := by rw [hres]; exact hok.chk
 have hsum : sumPk res = vl q := by rw [hres]; exact hok.sum
 have HK2 := hI hk2
 have HC2 := hI hc2
 have HRES := hI hres
 have HOK := hI hok
 have HRS := hI hrs
 have HCHK := hI hchk
 have HSUM := hI hsum
 rw [hce]
 obtain ⟨M, hM⟩ : ∃ M, res.length = M := ⟨_, rfl⟩
 rw [hM] at hrl ⊢
 have HM := hI hM
 have HOF := hI (Of_any 0 (by decide) (by decide) w2 (HT.out.below HB2.out))
 clear hce b2 hk2 hc2 hr0 hr1 HCC hres hok hrs hchk hsum hM HA1
 go_wp2_with fail
 refine HOF.out.mono ?_
 rintro e w3 ⟨rfl, b3⟩
 have HB3 := hI (HB2.out.trans (b3.mono HB2.out.size))
 have HB23 := hI b3
 clear b3 HOF
 go_wp2_with fail
 go_loopw [13, 46] (fun v7 v wr => ∃ k : Nat, v = .int .i64 (k : Int) ∧ k ≤ M ∧ v7 = .string (I (sumPk (res.take k))) ∧ Below w2.heap.size w2 wr) (fun _ v _ => M - (intOf v).toNat)
 case atStart => exact ⟨0, rfl, Nat.zero_le _, rfl, HB23.out⟩
 case round =>
  clear HB3 HB23
  obtain ⟨k, rfl, hk, rfl, hb⟩ := hrel
  have HB := hI hb
  clear hb
  rcases Nat.lt_or_ge k M with hlt | hge
  ·obtain ⟨p, hp⟩ : ∃ p, res[k]? = some p := ⟨_, List.getElem?_eq_getElem (by rw [HM.out]; exact hlt)⟩
   obtain ⟨ad, rfl, had, hcell⟩ := HK2.out (by intro e; rw [e] at hp; cases hp)
   have hcx : decide ((k : Int) < (M : Int)) = true := by simp; omega
   obtain ⟨c0, c1⟩ := (hcell k p hp).below HB.out (by rw [add_block]; exact had)
   have HTK := hI (sumPk_take hp)
   obtain ⟨z, hz⟩ : ∃ z, sumPk (res.take k) = z := ⟨_, rfl⟩
   have hzs : (I z).size ≤ 4000000 := by
    rw [← hz]
    have h := sumPk_bd 1000 (res.take k) (by rw [List.length_take]; omega) (fun y hy => HRS.out y (List.mem_of_mem_take hy))
    omega
   rw [hz]
   have HZ := hI hz
   have hpm := List.mem_of_getElem? hp
   obtain ⟨x, hx⟩ := (HOK.out.pks none (fun t e => by cases e)).ok p (by rw [← HRES.out]; exact hpm)
   obtain ⟨g1, g2⟩ := findR_lotOf_some hx.lot
   have HWH : Hid (m ≠ 5 → k + 1 < M → p.qty = x.qty) := fun hm hi => HOK.out.whole hm (i := k) (by rw [← HRES.out]; exact hp) (by rw [← HRES.out, HM.out]; exact hi) hx.lot
   obtain ⟨W5, hW5⟩ : ∃ W5, wr.alloc (.cells p.cells 43) = W5 := ⟨_, rfl⟩
   have b5 : Below wr.heap.size wr W5 := by rw [← hW5]; exact (Below.refl _ wr).alloc (Nat.le_refl _) _
   have k5 : PkBox W5 wr.heap.size p := by rw [← hW5]; exact heap_alloc_new wr _
   have HB5 := hI (HB.out.trans (b5.mono HB.out.size))
   have HK5 := hI k5
   have HBW := hI (HB2.out.trans (HB5.out.mono HB2.out.size))
   have d1 := Lib.cell_of_heap k5 1
   simp [Pk.cells] at d1
   have hadd := Add_any (I z) p.qty W5 hzs (by have := HRS.out p hpm; omega) (HT.out.below HBW.out)
   rw [vl_I] at hadd
   have HADD := hI hadd
   have HXL := hI hx.lot
   generalize hfr : findR ls p.lot 0 = fr at g1 g2
   obtain ⟨i, is⟩ := fr
   obtain rfl : is = true := g1
   have HFR := hI hfr
   have hiN : i < N := by rw [← HN.out]; exact (List.getElem?_eq_some_iff.1 g2).1
   have HG2 := hI g2
   clear b5 k5 hcell hp had hadd hz hzs hx hpm hfr g2
   unfold Pk.cells at hW5
   go_wp2_with fail
   refine HADD.out.mono ?_
   rintro e w6 ⟨rfl, b6⟩
   have HB6 := hI (HB5.out.trans (b6.mono HB5.out.size))
   have HBW6 := hI (HBW.out.trans (b6.mono HBW.out.size))
   have HK6 := hI (HK5.out.below b6)
   clear b6 HADD d1 c0 c1 HB5 HK5 HBW
   have d0 := Lib.cell_of_heap HK6.out 0
   simp [Pk.cells] at d0
   have hfi := HFI.out p.lot w6 HBW6.out
   rw [HFR.out] at hfi
   have HFC := hI hfi
   clear hfi
   go_wp2_with fail
   refine HFC.out.mono ?_
   rintro e w7 ⟨rfl, b7⟩
   have HB7 := hI (HB6.out.trans (b7.mono HB6.out.size))
   have HBW7 := hI (HBW6.out.trans (b7.mono HBW6.out.size))
   have d1 := Lib.cell_of_heap (HK6.out.below b7) 1
   simp [Pk.cells] at d1
   clear b7 HFC d0 HB6 HBW6 HK6
   obtain ⟨ad2, rfl, had2, hcell2⟩ := HRL.out (by intro e; have := HG2.out; rw [e] at this; cases this)
   obtain ⟨x0, x1, x2, x3, x4, x5, x6⟩ := (hcell2 i x HG2.out).below HBW7.out (by rw [add_block]; exact had2)
   clear had2 hcell2
   have t1 : decide ((i : Int) < 0) = false := decide_eq_false (by omega)
   have t2 : decide ((i : Int) ≥ (N : Int)) = false := decide_eq_false (by omega)
   have t3 : decide ((N : Int) ≤ (i : Int)) = false := t2
   have HFI2 : Hid (sumPk (res.take (k + 1)) = z + vl p.qty ∧ Below w2.heap.size w2 w7) := ⟨by rw [HTK.out, HZ.out], HB7.out⟩
   go_wp2_with fail
   obtain ⟨qx, hqx⟩ : ∃ qx, x.qty = qx := ⟨_, rfl⟩
   rw [hqx] at x4
   have HX4 := hI x4
   have HD1 := hI d1
   have HI0 : Hid (decide ((i : Int) < 0) = false ∧ decide ((i : Int) ≥ (N : Int)) = false ∧ decide ((N : Int) ≤ (i : Int)) = false ∧ decide (N ≤ i) = false) := ⟨t1, t2, t3, decide_eq_false (by omega)⟩
   have HIN := hI hiN
   have HWR : Hid (IntKind.i64.wrap ((k : Int) + 1) = (k : Int) + 1) := by rw [Hid, IntKind.wrap_i64]; omega
   clear x0 x1 x2 x3 x4 x5 x6 d1 t1 t2 t3 hcx
   by_cases hm5 : m = 5
   ·have HMB : Hid ((m == 5) = true ∧ (m != 5) = false) := by
     have t4 : (m == 5) = true := beq_iff_eq.2 hm5
     exact ⟨t4, by rw [bne, t4]; rfl⟩
    clear hm5 hiN hqx
    have mixed : Tryz.prog.follows .mixedOrders = true := by kernel_rfl
    refine wp_region_any mixed (wpAny_inv (RS1J w7.drew ad2 ad N c M c2 i k m wr.heap.size qx _ _ _ _ _ _ _ _ _ _ _ _ _ _ _ _ _ _ _ _ _ _ _ _ _ _ _ _ _ _ _ _ _ _ _ _ _ _ _ _ _ _ _ _ _ _ _ _ _ _ _ _ _ _ _ _ _ _ _ _ _ _ _ _ _ _ _ _ _ _ _ _ _ _ _ _ _ _ _ _ _ _ _ _ _ _ _) ?stRS1 ?dnRS1 _ _ _ _ ⟨by simp, ⟨_, _, _, _, _, _, _, _, _, _, _, _, _, _, _, _, _, _, _, _, _, _, _, _, _, _, _, _, _, _, _, _, _, rfl, fun h => by simp at h, fun h => by simp at h, fun h => by simp at h, fun h => by simp at h, fun h => by simp at h, fun h => by simp at h, fun h => by simp at h, fun h => by simp at h, fun h => by simp at h, fun h => by simp at h, fun h => by simp at h, fun h => by simp at h, fun h => by simp at h, fun h => by simp at h, fun h => by simp at h, fun h => by simp at h, fun h => by simp at h, fun h => by simp at h, fun h => by simp at h, fun h => by simp at h, fun h => by simp at h, fun h => by simp at h, fun h => by simp at h, fun h => by simp at h, fun h => by simp at h, fun h => by simp at h, fun h => by simp at h, fun h => by simp at h, fun h => by simp at h, fun h => by simp at h, fun h => by simp at h, fun h => by simp at h, fun h => by simp at h, rfl⟩⟩ (by decide))
    case dnRS1 =>
     intro L a w' hj hr
     have all := all_on hr hj.sz (by kernel_rfl)
     obtain ⟨s62, s63, s64, s65, s66, s67, s68, s69, s70, s71, s72, s73, s74, s75, s76, s77, s78, s79, s80, s81, s82, s83, s84, s85, s86, s87, s88, s89, s90, s91, s92, s93, s94, rfl, hv⟩ := hj.fr
     have e32 := hv.k32 (all 32 (by omega))
     have ew := hv.g
     subst e32
     subst ew
     clear all hv hj hr
     dsimp only
     go_wp2_with fail
     go_roundw
     case rel => exact ⟨k + 1, by go_num, by omega, by rw [HFI2.out.1], HFI2.out.2.drew⟩
     case measure => simp [intOf]; omega
    case stRS1 =>
     intro L a w' hj i hi
     obtain ⟨hun, o, ho, hall⟩ := mem_ready.1 hi
     have hoff := getD_off hun
     have hlt := (Array.getElem?_eq_some_iff.1 ho).1
     simp at hlt
     obtain ⟨s62, s63, s64, s65, s66, s67, s68, s69, s70, s71, s72, s73, s74, s75, s76, s77, s78, s79, s80, s81, s82, s83, s84, s85, s86, s87, s88, s89, s90, s91, s92, s93, s94, rfl, hv⟩ := hj.fr
     have HV := hI hv
     have HJ := hI hj
     clear hv hj
     rcases (show i = 0 ∨ i = 1 ∨ i = 2 ∨ i = 3 ∨ i = 4 ∨ i = 5 ∨ i = 6 ∨ i = 7 ∨ i = 8 ∨ i = 9 ∨ i = 10 ∨ i = 11 ∨ i = 12 ∨ i = 13 ∨ i = 14 ∨ i = 15 ∨ i = 16 ∨ i = 17 ∨ i = 18 ∨ i = 19 ∨ i = 20 ∨ i = 21 ∨ i = 22 ∨ i = 23 ∨ i = 24 ∨ i = 25 ∨ i = 26 ∨ i = 27 ∨ i = 28 ∨ i = 29 ∨ i = 30 ∨ i = 31 ∨ i = 32 from by omega) with rfl | rfl | rfl | rfl | rfl | rfl | rfl | rfl | rfl | rfl | rfl | rfl | rfl | rfl | rfl | rfl | rfl | rfl | rfl | rfl | rfl | rfl | rfl | rfl | rfl | rfl | rfl | rfl | rfl | rfl | rfl | rfl | rfl
     ·simp at ho
      subst ho
      clear hall hi
      refine wpOp_hid rfl fun K' HK => ?_
      go_simp
      cases HV.out
      refine HK.out _ _ ⟨by simp [HJ.out.sz], ?_⟩
      iterate 33 apply Exists.intro
      refine ⟨rfl, ?_⟩
      constructor
      case k0 => exact fun _ => rfl
      case g => exact HV.out.g
      all_goals exact Um (by assumption)
     ·simp at ho
      subst ho
      have H0 := Hq hall 0
      clear hall hi
      have e0 := HV.out.k0 H0.out
      subst e0
      refine wpOp_hid rfl fun K' HK => ?_
      go_simp
      cases HV.out
      refine HK.out _ _ ⟨by simp [HJ.out.sz], ?_⟩
      iterate 33 apply Exists.intro
      refine ⟨rfl, ?_⟩
      constructor
      case k1 => exact fun _ => rfl
      case g => exact HV.out.g
      all_goals exact Um (by assumption)
     ·simp at ho
      subst ho
      have H1 := Hq hall 1
      clear hall hi
      have e0 := HV.out.k1 H1.out
      subst e0
      refine wpOp_hid rfl fun K' HK => ?_
      go_simp
      cases HV.out
      refine HK.out _ _ ⟨by simp [HJ.out.sz], ?_⟩
      iterate 33 apply Exists.intro
      refine ⟨rfl, ?_⟩
      constructor
      case k2 => exact fun _ => rfl
      case g => exact HV.out.g
      all_goals exact Um (by assumption)
     ·simp at ho
      subst ho
      have H2 := Hq hall 2
      clear hall hi
      have e0 := HV.out.k2 H2.out
      subst e0
      refine wpOp_hid rfl fun K' HK => ?_
      go_simp
      cases HV.out
      refine HK.out _ _ ⟨by simp [HJ.out.sz], ?_⟩
      iterate 33 apply Exists.intro
      refine ⟨rfl, ?_⟩
      constructor
      case k3 => exact fun _ => rfl
      case g => exact HV.out.g
      all_goals exact Um (by assumption)
     ·simp at ho
      subst ho
      have H3 := Hq hall 3
      have H2 := Hq hall 2
      clear hall hi
      have e0 := HV.out.k3 H3.out
      subst e0
      have e1 := HV.out.k2 H2.out
      subst e1
      obtain ⟨t1, t2, t3, t3n⟩ := HI0.out
      refine wpOp_hid rfl fun K' HK => ?_
      go_simp
      cases HV.out
      refine HK.out _ _ ⟨by simp [HJ.out.sz], ?_⟩
      iterate 33 apply Exists.intro
      refine ⟨rfl, ?_⟩
      constructor
      case k4 => exact fun _ => rfl
      case g => exact HV.out.g
      all_goals exact Um (by assumption)
     ·simp at ho
      subst ho
      have H2 := Hq hall 2
      have H4 := Hq hall 4
      clear hall hi
      have e0 := HV.out.k2 H2.out
      subst e0
      have e1 := HV.out.k4 H4.out
      subst e1
      refine wpOp_hid rfl fun K' HK => ?_
      go_simp
      cases HV.out
      refine HK.out _ _ ⟨by simp [HJ.out.sz], ?_⟩
      iterate 33 apply Exists.intro
      refine ⟨rfl, ?_⟩
      constructor
      case k5 => exact fun _ => rfl
      case g => exact HV.out.g
      all_goals exact Um (by assumption)
     ·simp at ho
      subst ho
      have H5 := Hq hall 5
      clear hall hi
      have e0 := HV.out.k5 H5.out
      subst e0
      refine wpOp_hid rfl fun K' HK => ?_
      go_simp
      cases HV.out
      refine HK.out _ _ ⟨by simp [HJ.out.sz], ?_⟩
      iterate 33 apply Exists.intro
      refine ⟨rfl, ?_⟩
      constructor
      case k6 => exact fun _ => rfl
      case g => exact HV.out.g
      all_goals exact Um (by assumption)
     ·simp at ho
      subst ho
      have H6 := Hq hall 6
      clear hall hi
      have e0 := HV.out.k6 H6.out
      subst e0
      refine wpOp_hid rfl fun K' HK => ?_
      go_simp
      cases HV.out
      refine HK.out _ _ ⟨by simp [HJ.out.sz], ?_⟩
      iterate 33 apply Exists.intro
      refine ⟨rfl, ?_⟩
      constructor
      case k7 => exact fun _ => rfl
      case g => exact HV.out.g
      all_goals exact Um (by assumption)
     ·simp at ho
      subst ho
      have H6 := Hq hall 6
      clear hall hi
      have e0 := HV.out.k6 H6.out
      subst e0
      refine wpOp_hid rfl fun K' HK => ?_
      go_simp
      cases HV.out
      refine HK.out _ _ ⟨by simp [HJ.out.sz], ?_⟩
      iterate 33 apply Exists.intro
      refine ⟨rfl, ?_⟩
      constructor
      case k8 => exact fun _ => rfl
      case g => exact HV.out.g
      all_goals exact Um (by assumption)
     ·simp at ho
      subst ho
      have H8 := Hq hall 8
      have H6 := Hq hall 6
      clear hall hi
      have e0 := HV.out.k8 H8.out
      subst e0
      have e1 := HV.out.k6 H6.out
      subst e1
      refine wpOp_hid rfl fun K' HK => ?_
      go_simp
      cases HV.out
      refine HK.out _ _ ⟨by simp [HJ.out.sz], ?_⟩
      iterate 33 apply Exists.intro
      refine ⟨rfl, ?_⟩
      constructor
      case k9 => exact fun _ => rfl
      case g => exact HV.out.g
      all_goals exact Um (by assumption)
     ·simp at ho
      subst ho
      have H7 := Hq hall 7
      have H9 := Hq hall 9
      have H6 := Hq hall 6
      clear hall hi
      have e0 := HV.out.k7 H7.out
      subst e0
      have e1 := HV.out.k9 H9.out
      subst e1
      have e2 := HV.out.k6 H6.out
      subst e2
      obtain ⟨t1, t2, t3, t3n⟩ := HI0.out
      refine wpOp_hid rfl fun K' HK => ?_
      go_simp
      cases HV.out
      refine HK.out _ _ ⟨by simp [HJ.out.sz], ?_⟩
      iterate 33 apply Exists.intro
      refine ⟨rfl, ?_⟩
      constructor
      case k10 => exact fun _ => rfl
      case g => exact HV.out.g
      all_goals exact Um (by assumption)
     ·simp at ho
      subst ho
      have H6 := Hq hall 6
      have H10 := Hq hall 10
      clear hall hi
      have e0 := HV.out.k6 H6.out
      subst e0
      have e1 := HV.out.k10 H10.out
      subst e1
      refine wpOp_hid rfl fun K' HK => ?_
      go_simp
      cases HV.out
      refine HK.out _ _ ⟨by simp [HJ.out.sz], ?_⟩
      iterate 33 apply Exists.intro
      refine ⟨rfl, ?_⟩
      constructor
      case k11 => exact fun _ => rfl
      case g => exact HV.out.g
      all_goals exact Um (by assumption)
     ·simp at ho
      subst ho
      have H11 := Hq hall 11
      clear hall hi
      have e0 := HV.out.k11 H11.out
      subst e0
      refine wpOp_hid rfl fun K' HK => ?_
      go_simp
      cases HV.out
      refine HK.out _ _ ⟨by simp [HJ.out.sz], ?_⟩
      iterate 33 apply Exists.intro
      refine ⟨rfl, ?_⟩
      constructor
      case k12 => exact fun _ => rfl
      case g => exact HV.out.g
      all_goals exact Um (by assumption)
     ·simp at ho
      subst ho
      have H12 := Hq hall 12
      clear hall hi
      have e0 := HV.out.k12 H12.out
      subst e0
      refine wpOp_hid rfl fun K' HK => ?_
      go_simp
      cases HV.out
      refine HK.out _ _ ⟨by simp [HJ.out.sz], ?_⟩
      iterate 33 apply Exists.intro
      refine ⟨rfl, ?_⟩
      constructor
      case k13 => exact fun _ => rfl
      case g => exact HV.out.g
      all_goals exact Um (by assumption)
     ·simp at ho
      subst ho
      have H13 := Hq hall 13
      have H12 := Hq hall 12
      clear hall hi
      have e0 := HV.out.k13 H13.out
      subst e0
      have e1 := HV.out.k12 H12.out
      subst e1
      obtain ⟨t4, t5⟩ := HMB.out
      refine wpOp_hid rfl fun K' HK => ?_
      go_simp
      cases HV.out
      refine HK.out _ _ ⟨by simp [HJ.out.sz], ?_⟩
      iterate 33 apply Exists.intro
      refine ⟨rfl, ?_⟩
      constructor
      case k14 => exact fun _ => rfl
      case g => exact HV.out.g
      all_goals exact Um (by assumption)
     ·simp at ho
      subst ho
      have H14 := Hq hall 14
      have H12 := Hq hall 12
      clear hall hi
      have e0 := HV.out.k14 H14.out
      subst e0
      have e1 := HV.out.k12 H12.out
      subst e1
      refine wpOp_hid rfl fun K' HK => ?_
      go_simp
      cases HV.out
      refine HK.out _ _ ⟨by simp [HJ.out.sz], ?_⟩
      iterate 33 apply Exists.intro
      refine ⟨rfl, ?_⟩
      constructor
      case k15 => exact fun _ => rfl
      case g => exact HV.out.g
      all_goals exact Um (by assumption)
     ·simp at ho
      subst ho
      have H15 := Hq hall 15
      clear hall hi
      have e0 := HV.out.k15 H15.out
      subst e0
      refine wpOp_hid rfl fun K' HK => ?_
      go_simp
      cases HV.out
      refine HK.out _ _ ⟨by simp [HJ.out.sz], ?_⟩
      iterate 33 apply Exists.intro
      refine ⟨rfl, ?_⟩
      constructor
      case k16 => exact fun _ => rfl
      case g => exact HV.out.g
      all_goals exact Um (by assumption)
     ·simp at ho
      subst ho
      have H16 := Hq hall 16
      have H15 := Hq hall 15
      clear hall hi
      have e0 := HV.out.k16 H16.out
      subst e0
      have e1 := HV.out.k15 H15.out
      subst e1
      refine wpOp_hid rfl fun K' HK => ?_
      go_simp
      cases HV.out
      refine HK.out _ _ ⟨by simp [HJ.out.sz], ?_⟩
      iterate 33 apply Exists.intro
      refine ⟨rfl, ?_⟩
      constructor
      case k17 => exact fun _ => rfl
      case g => exact HV.out.g
      all_goals exact Um (by assumption)
     ·simp at ho
      subst ho
      have H15 := Hq hall 15
      clear hall hi
      have e0 := HV.out.k15 H15.out
      subst e0
      refine wpOp_hid rfl fun K' HK => ?_
      go_simp
      cases HV.out
      refine HK.out _ _ ⟨by simp [HJ.out.sz], ?_⟩
      iterate 33 apply Exists.intro
      refine ⟨rfl, ?_⟩
      constructor
      case k18 => exact fun _ => rfl
      case g => exact HV.out.g
      all_goals exact Um (by assumption)
     ·simp at ho
      subst ho
      have H18 := Hq hall 18
      have H15 := Hq hall 15
      clear hall hi
      have e0 := HV.out.k18 H18.out
      subst e0
      have e1 := HV.out.k15 H15.out
      subst e1
      refine wpOp_hid rfl fun K' HK => ?_
      go_simp
      cases HV.out
      refine HK.out _ _ ⟨by simp [HJ.out.sz], ?_⟩
      iterate 33 apply Exists.intro
      refine ⟨rfl, ?_⟩
      constructor
      case k19 => exact fun _ => rfl
      case g => exact HV.out.g
      all_goals exact Um (by assumption)
     ·simp at ho
      subst ho
      have H17 := Hq hall 17
      have H19 := Hq hall 19
      have H15 := Hq hall 15
      clear hall hi
      have e0 := HV.out.k17 H17.out
      subst e0
      have e1 := HV.out.k19 H19.out
      subst e1
      have e2 := HV.out.k15 H15.out
      subst e2
      refine wpOp_hid rfl fun K' HK => ?_
      go_simp
      cases HV.out
      refine HK.out _ _ ⟨by simp [HJ.out.sz], ?_⟩
      iterate 33 apply Exists.intro
      refine ⟨rfl, ?_⟩
      constructor
      case k20 => exact fun _ => rfl
      case g => exact HV.out.g
      all_goals exact Um (by assumption)
     ·simp at ho
      subst ho
      have H15 := Hq hall 15
      have H20 := Hq hall 20
      have H12 := Hq hall 12
      clear hall hi
      have e0 := HV.out.k15 H15.out
      subst e0
      have e1 := HV.out.k20 H20.out
      subst e1
      have e2 := HV.out.k12 H12.out
      subst e2
      refine wpOp_hid rfl fun K' HK => ?_
      go_simp
      cases HV.out
      refine HK.out _ _ ⟨by simp [HJ.out.sz], ?_⟩
      iterate 33 apply Exists.intro
      refine ⟨rfl, ?_⟩
      constructor
      case k21 => exact fun _ => rfl
      case g => exact HV.out.g
      all_goals exact Um (by assumption)
     ·simp at ho
      subst ho
      have H21 := Hq hall 21
      have H12 := Hq hall 12
      clear hall hi
      have e0 := HV.out.k21 H21.out
      subst e0
      have e1 := HV.out.k12 H12.out
      subst e1
      refine wpOp_hid rfl fun K' HK => ?_
      go_simp
      cases HV.out
      refine HK.out _ _ ⟨by simp [HJ.out.sz], ?_⟩
      iterate 33 apply Exists.intro
      refine ⟨rfl, ?_⟩
      constructor
      case k22 => exact fun _ => rfl
      case g => exact HV.out.g
      all_goals exact Um (by assumption)
     ·simp at ho
      subst ho
      have H22 := Hq hall 22
      clear hall hi
      have e0 := HV.out.k22 H22.out
      subst e0
      refine wpOp_hid rfl fun K' HK => ?_
      go_simp
      cases HV.out
      refine HK.out _ _ ⟨by simp [HJ.out.sz], ?_⟩
      iterate 33 apply Exists.intro
      refine ⟨rfl, ?_⟩
      constructor
      case k23 => exact fun _ => rfl
      case g => exact HV.out.g
      all_goals exact Um (by assumption)
     ·simp at ho
      subst ho
      have H23 := Hq hall 23
      have H22 := Hq hall 22
      clear hall hi
      have e0 := HV.out.k23 H23.out
      subst e0
      have e1 := HV.out.k22 H22.out
      subst e1
      refine wpOp_hid rfl fun K' HK => ?_
      go_simp
      cases HV.out
      refine HK.out _ _ ⟨by simp [HJ.out.sz], ?_⟩
      iterate 33 apply Exists.intro
      refine ⟨rfl, ?_⟩
      constructor
      case k24 => exact fun _ => rfl
      case g => exact HV.out.g
      all_goals exact Um (by assumption)
     ·simp at ho
      subst ho
      have H22 := Hq hall 22
      clear hall hi
      have e0 := HV.out.k22 H22.out
      subst e0
      refine wpOp_hid rfl fun K' HK => ?_
      go_simp
      cases HV.out
      refine HK.out _ _ ⟨by simp [HJ.out.sz], ?_⟩
      iterate 33 apply Exists.intro
      refine ⟨rfl, ?_⟩
      constructor
      case k25 => exact fun _ => rfl
      case g => exact HV.out.g
      all_goals exact Um (by assumption)
     ·simp at ho
      subst ho
      have H22 := Hq hall 22
      clear hall hi
      have e0 := HV.out.k22 H22.out
      subst e0
      refine wpOp_hid rfl fun K' HK => ?_
      go_simp
      cases HV.out
      refine HK.out _ _ ⟨by simp [HJ.out.sz], ?_⟩
      iterate 33 apply Exists.intro
      refine ⟨rfl, ?_⟩
      constructor
      case k26 => exact fun _ => rfl
      case g => exact HV.out.g
      all_goals exact Um (by assumption)
     ·simp at ho
      subst ho
      have H25 := Hq hall 25
      have H26 := Hq hall 26
      have H22 := Hq hall 22
      clear hall hi
      have e0 := HV.out.k25 H25.out
      subst e0
      have e1 := HV.out.k26 H26.out
      subst e1
      have e2 := HV.out.k22 H22.out
      subst e2
      refine wpOp_hid rfl fun K' HK => ?_
      go_simp
      cases HV.out
      refine HK.out _ _ ⟨by simp [HJ.out.sz], ?_⟩
      iterate 33 apply Exists.intro
      refine ⟨rfl, ?_⟩
      constructor
      case k27 => exact fun _ => rfl
      case g => exact HV.out.g
      all_goals exact Um (by assumption)
     ·simp at ho
      subst ho
      have H27 := Hq hall 27
      have H22 := Hq hall 22
      clear hall hi
      have e0 := HV.out.k27 H27.out
      subst e0
      have e1 := HV.out.k22 H22.out
      subst e1
      refine wpOp_hid rfl fun K' HK => ?_
      go_simp
      cases HV.out
      refine HK.out _ _ ⟨by simp [HJ.out.sz], ?_⟩
      iterate 33 apply Exists.intro
      refine ⟨rfl, ?_⟩
      constructor
      case k28 => exact fun _ => rfl
      case g => exact HV.out.g
      all_goals exact Um (by assumption)
     ·simp at ho
      subst ho
      have H28 := Hq hall 28
      have H22 := Hq hall 22
      clear hall hi
      have e0 := HV.out.k28 H28.out
      subst e0
      have e1 := HV.out.k22 H22.out
      subst e1
      refine wpOp_hid rfl fun K' HK => ?_
      go_simp
      cases HV.out
      refine HK.out _ _ ⟨by simp [HJ.out.sz], ?_⟩
      iterate 33 apply Exists.intro
      refine ⟨rfl, ?_⟩
      constructor
      case k29 => exact fun _ => rfl
      case g => exact HV.out.g
      all_goals exact Um (by assumption)
     ·simp at ho
      subst ho
      have H24 := Hq hall 24
      have H29 := Hq hall 29
      have H22 := Hq hall 22
      clear hall hi
      have e0 := HV.out.k24 H24.out
      subst e0
      have e1 := HV.out.k29 H29.out
      subst e1
      have e2 := HV.out.k22 H22.out
      subst e2
      refine wpOp_hid rfl fun K' HK => ?_
      go_simp
      cases HV.out
      refine HK.out _ _ ⟨by simp [HJ.out.sz], ?_⟩
      iterate 33 apply Exists.intro
      refine ⟨rfl, ?_⟩
      constructor
      case k30 => exact fun _ => rfl
      case g => exact HV.out.g
      all_goals exact Um (by assumption)
     ·simp at ho
      subst ho
      have H22 := Hq hall 22
      have H30 := Hq hall 30
      have H12 := Hq hall 12
      clear hall hi
      have e0 := HV.out.k22 H22.out
      subst e0
      have e1 := HV.out.k30 H30.out
      subst e1
      have e2 := HV.out.k12 H12.out
      subst e2
      refine wpOp_hid rfl fun K' HK => ?_
      go_simp
      cases HV.out
      refine HK.out _ _ ⟨by simp [HJ.out.sz], ?_⟩
      iterate 33 apply Exists.intro
      refine ⟨rfl, ?_⟩
      constructor
      case k31 => exact fun _ => rfl
      case g => exact HV.out.g
      all_goals exact Um (by assumption)
     ·simp at ho
      subst ho
      have H12 := Hq hall 12
      have H31 := Hq hall 31
      clear hall hi
      have e0 := HV.out.k12 H12.out
      subst e0
      have e1 := HV.out.k31 H31.out
      subst e1
      refine wpOp_hid rfl fun K' HK => ?_
      go_simp
      cases HV.out
      refine HK.out _ _ ⟨by simp [HJ.out.sz], ?_⟩
      iterate 33 apply Exists.intro
      refine ⟨rfl, ?_⟩
      constructor
      case k32 => exact fun _ => rfl
      case g => exact HV.out.g
      all_goals exact Um (by assumption)
   ·have HMB : Hid ((m == 5) = false ∧ (m != 5) = true) := by
     have t4 : (m == 5) = false := beq_eq_false_iff_ne.2 hm5
     exact ⟨t4, by rw [bne, t4]; rfl⟩
    by_cases hi : k + 1 < M
    ·have hqe := HWH.out hm5 hi
     have HT7 : Hid (decide ((k : Int) + 1 < (M : Int)) = true) := decide_eq_true (by omega)
     rw [hqe, hqx] at HD1
     clear hm5 hqe hiN hqx
     have mixed : Tryz.prog.follows .mixedOrders = true := by kernel_rfl
     refine wp_region_any mixed (wpAny_inv (RS2J w7.drew ad2 ad N c M c2 i k m wr.heap.size qx _ _ _ _ _ _ _ _ _ _ _ _ _ _ _ _ _ _ _ _ _ _ _ _ _ _ _ _ _ _ _ _ _ _ _ _ _ _ _ _ _ _ _ _ _ _ _ _ _ _ _ _ _ _ _ _ _ _ _ _ _ _ _ _ _ _ _ _ _ _ _ _ _ _ _ _ _ _ _ _ _ _ _ _ _ _ _) ?stRS2 ?dnRS2 _ _ _ _ ⟨by simp, ⟨_, _, _, _, _, _, _, _, _, _, _, _, _, _, _, _, _, _, _, _, _, _, _, _, _, _, _, _, _, _, _, _, _, rfl, fun h => by simp at h, fun h => by simp at h, fun h => by simp at h, fun h => by simp at h, fun h => by simp at h, fun h => by simp at h, fun h => by simp at h, fun h => by simp at h, fun h => by simp at h, fun h => by simp at h, fun h => by simp at h, fun h => by simp at h, fun h => by simp at h, fun h => by simp at h, fun h => by simp at h, fun h => by simp at h, fun h => by simp at h, fun h => by simp at h, fun h => by simp at h, fun h => by simp at h, fun h => by simp at h, fun h => by simp at h, fun h => by simp at h, fun h => by simp at h, fun h => by simp at h, fun h => by simp at h, fun h => by simp at h, fun h => by simp at h, fun h => by simp at h, fun h => by simp at h, fun h => by simp at h, fun h => by simp at h, fun h => by simp at h, rfl⟩⟩ (by decide))
     case dnRS2 =>
      intro L a w' hj hr
      have all := all_on hr hj.sz (by kernel_rfl)
      obtain ⟨s62, s63, s64, s65, s66, s67, s68, s69, s70, s71, s72, s73, s74, s75, s76, s77, s78, s79, s80, s81, s82, s83, s84, s85, s86, s87, s88, s89, s90, s91, s92, s93, s94, rfl, hv⟩ := hj.fr
      have e32 := hv.k32 (all 32 (by omega))
      have ew := hv.g
      subst e32
      subst ew
      clear all hv hj hr
      dsimp only
      go_wp2_with fail
      go_roundw
      case rel => exact ⟨k + 1, by go_num, by omega, by rw [HFI2.out.1], HFI2.out.2.drew⟩
      case measure => simp [intOf]; omega
     case stRS2 =>
      intro L a w' hj i hi
      obtain ⟨hun, o, ho, hall⟩ := mem_ready.1 hi
      have hoff := getD_off hun
      have hlt := (Array.getElem?_eq_some_iff.1 ho).1
      simp at hlt
      obtain ⟨s62, s63, s64, s65, s66, s67, s68, s69, s70, s71, s72, s73, s74, s75, s76, s77, s78, s79, s80, s81, s82, s83, s84, s85, s86, s87, s88, s89, s90, s91, s92, s93, s94, rfl, hv⟩ := hj.fr
      have HV := hI hv
      have HJ := hI hj
      clear hv hj
      rcases (show i = 0 ∨ i = 1 ∨ i = 2 ∨ i = 3 ∨ i = 4 ∨ i = 5 ∨ i = 6 ∨ i = 7 ∨ i = 8 ∨ i = 9 ∨ i = 10 ∨ i = 11 ∨ i = 12 ∨ i = 13 ∨ i = 14 ∨ i = 15 ∨ i = 16 ∨ i = 17 ∨ i = 18 ∨ i = 19 ∨ i = 20 ∨ i = 21 ∨ i = 22 ∨ i = 23 ∨ i = 24 ∨ i = 25 ∨ i = 26 ∨ i = 27 ∨ i = 28 ∨ i = 29 ∨ i = 30 ∨ i = 31 ∨ i = 32 from by omega) with rfl | rfl | rfl | rfl | rfl | rfl | rfl | rfl | rfl | rfl | rfl | rfl | rfl | rfl | rfl | rfl | rfl | rfl | rfl | rfl | rfl | rfl | rfl | rfl | rfl | rfl | rfl | rfl | rfl | rfl | rfl | rfl | rfl
      ·simp at ho
       subst ho
       clear hall hi
       refine wpOp_hid rfl fun K' HK => ?_
       go_simp
       cases HV.out
       refine HK.out _ _ ⟨by simp [HJ.out.sz], ?_⟩
       iterate 33 apply Exists.intro
       refine ⟨rfl, ?_⟩
       constructor
       case k0 => exact fun _ => rfl
       case g => exact HV.out.g
       all_goals exact Um (by assumption)
      ·simp at ho
       subst ho
       have H0 := Hq hall 0
       clear hall hi
       have e0 := HV.out.k0 H0.out
       subst e0
       refine wpOp_hid rfl fun K' HK => ?_
       go_simp
       cases HV.out
       refine HK.out _ _ ⟨by simp [HJ.out.sz], ?_⟩
       iterate 33 apply Exists.intro
       refine ⟨rfl, ?_⟩
       constructor
       case k1 => exact fun _ => rfl
       case g => exact HV.out.g
       all_goals exact Um (by assumption)
      ·simp at ho
       subst ho
       have H1 := Hq hall 1
       clear hall hi
       have e0 := HV.out.k1 H1.out
       subst e0
       refine wpOp_hid rfl fun K' HK => ?_
       go_simp
       cases HV.out
       refine HK.out _ _ ⟨by simp [HJ.out.sz], ?_⟩
       iterate 33 apply Exists.intro
       refine ⟨rfl, ?_⟩
       constructor
       case k2 => exact fun _ => rfl
       case g => exact HV.out.g
       all_goals exact Um (by assumption)
      ·simp at ho
       subst ho
       have H2 := Hq hall 2
       clear hall hi
       have e0 := HV.out.k2 H2.out
       subst e0
       refine wpOp_hid rfl fun K' HK => ?_
       go_simp
       cases HV.out
       refine HK.out _ _ ⟨by simp [HJ.out.sz], ?_⟩
       iterate 33 apply Exists.intro
       refine ⟨rfl, ?_⟩
       constructor
       case k3 => exact fun _ => rfl
       case g => exact HV.out.g
       all_goals exact Um (by assumption)
      ·simp at ho
       subst ho
       have H3 := Hq hall 3
       have H2 := Hq hall 2
       clear hall hi
       have e0 := HV.out.k3 H3.out
       subst e0
       have e1 := HV.out.k2 H2.out
       subst e1
       obtain ⟨t1, t2, t3, t3n⟩ := HI0.out
       refine wpOp_hid rfl fun K' HK => ?_
       go_simp
       cases HV.out
       refine HK.out _ _ ⟨by simp [HJ.out.sz], ?_⟩
       iterate 33 apply Exists.intro
       refine ⟨rfl, ?_⟩
       constructor
       case k4 => exact fun _ => rfl
       case g => exact HV.out.g
       all_goals exact Um (by assumption)
      ·simp at ho
       subst ho
       have H2 := Hq hall 2
       have H4 := Hq hall 4
       clear hall hi
       have e0 := HV.out.k2 H2.out
       subst e0
       have e1 := HV.out.k4 H4.out
       subst e1
       refine wpOp_hid rfl fun K' HK => ?_
       go_simp
       cases HV.out
       refine HK.out _ _ ⟨by simp [HJ.out.sz], ?_⟩
       iterate 33 apply Exists.intro
       refine ⟨rfl, ?_⟩
       constructor
       case k5 => exact fun _ => rfl
       case g => exact HV.out.g
       all_goals exact Um (by assumption)
      ·simp at ho
       subst ho
       have H5 := Hq hall 5
       clear hall hi
       have e0 := HV.out.k5 H5.out
       subst e0
       refine wpOp_hid rfl fun K' HK => ?_
       go_simp
       cases HV.out
       refine HK.out _ _ ⟨by simp [HJ.out.sz], ?_⟩
       iterate 33 apply Exists.intro
       refine ⟨rfl, ?_⟩
       constructor
       case k6 => exact fun _ => rfl
       case g => exact HV.out.g
       all_goals exact Um (by assumption)
      ·simp at ho
       subst ho
       have H6 := Hq hall 6
       clear hall hi
       have e0 := HV.out.k6 H6.out
       subst e0
       refine wpOp_hid rfl fun K' HK => ?_
       go_simp
       cases HV.out
       refine HK.out _ _ ⟨by simp [HJ.out.sz], ?_⟩
       iterate 33 apply Exists.intro
       refine ⟨rfl, ?_⟩
       constructor
       case k7 => exact fun _ => rfl
       case g => exact HV.out.g
       all_goals exact Um (by assumption)
      ·simp at ho
       subst ho
       have H6 := Hq hall 6
       clear hall hi
       have e0 := HV.out.k6 H6.out
       subst e0
       refine wpOp_hid rfl fun K' HK => ?_
       go_simp
       cases HV.out
       refine HK.out _ _ ⟨by simp [HJ.out.sz], ?_⟩
       iterate 33 apply Exists.intro
       refine ⟨rfl, ?_⟩
       constructor
       case k8 => exact fun _ => rfl
       case g => exact HV.out.g
       all_goals exact Um (by assumption)
      ·simp at ho
       subst ho
       have H8 := Hq hall 8
       have H6 := Hq hall 6
       clear hall hi
       have e0 := HV.out.k8 H8.out
       subst e0
       have e1 := HV.out.k6 H6.out
       subst e1
       refine wpOp_hid rfl fun K' HK => ?_
       go_simp
       cases HV.out
       refine HK.out _ _ ⟨by simp [HJ.out.sz], ?_⟩
       iterate 33 apply Exists.intro
       refine ⟨rfl, ?_⟩
       constructor
       case k9 => exact fun _ => rfl
       case g => exact HV.out.g
       all_goals exact Um (by assumption)
      ·simp at ho
       subst ho
       have H7 := Hq hall 7
       have H9 := Hq hall 9
       have H6 := Hq hall 6
       clear hall hi
       have e0 := HV.out.k7 H7.out
       subst e0
       have e1 := HV.out.k9 H9.out
       subst e1
       have e2 := HV.out.k6 H6.out
       subst e2
       obtain ⟨t1, t2, t3, t3n⟩ := HI0.out
       refine wpOp_hid rfl fun K' HK => ?_
       go_simp
       cases HV.out
       refine HK.out _ _ ⟨by simp [HJ.out.sz], ?_⟩
       iterate 33 apply Exists.intro
       refine ⟨rfl, ?_⟩
       constructor
       case k10 => exact fun _ => rfl
       case g => exact HV.out.g
       all_goals exact Um (by assumption)
      ·simp at ho
       subst ho
       have H6 := Hq hall 6
       have H10 := Hq hall 10
       clear hall hi
       have e0 := HV.out.k6 H6.out
       subst e0
       have e1 := HV.out.k10 H10.out
       subst e1
       refine wpOp_hid rfl fun K' HK => ?_
       go_simp
       cases HV.out
       refine HK.out _ _ ⟨by simp [HJ.out.sz], ?_⟩
       iterate 33 apply Exists.intro
       refine ⟨rfl, ?_⟩
       constructor
       case k11 => exact fun _ => rfl
       case g => exact HV.out.g
       all_goals exact Um (by assumption)
      ·simp at ho
       subst ho
       have H11 := Hq hall 11
       clear hall hi
       have e0 := HV.out.k11 H11.out
       subst e0
       refine wpOp_hid rfl fun K' HK => ?_
       go_simp
       cases HV.out
       refine HK.out _ _ ⟨by simp [HJ.out.sz], ?_⟩
       iterate 33 apply Exists.intro
       refine ⟨rfl, ?_⟩
       constructor
       case k12 => exact fun _ => rfl
       case g => exact HV.out.g
       all_goals exact Um (by assumption)
      ·simp at ho
       subst ho
       have H12 := Hq hall 12
       clear hall hi
       have e0 := HV.out.k12 H12.out
       subst e0
       refine wpOp_hid rfl fun K' HK => ?_
       go_simp
       cases HV.out
       refine HK.out _ _ ⟨by simp [HJ.out.sz], ?_⟩
       iterate 33 apply Exists.intro
       refine ⟨rfl, ?_⟩
       constructor
       case k13 => exact fun _ => rfl
       case g => exact HV.out.g
       all_goals exact Um (by assumption)
      ·simp at ho
       subst ho
       have H13 := Hq hall 13
       have H12 := Hq hall 12
       clear hall hi
       have e0 := HV.out.k13 H13.out
       subst e0
       have e1 := HV.out.k12 H12.out
       subst e1
       obtain ⟨t4, t5⟩ := HMB.out
       refine wpOp_hid rfl fun K' HK => ?_
       go_simp
       cases HV.out
       refine HK.out _ _ ⟨by simp [HJ.out.sz], ?_⟩
       iterate 33 apply Exists.intro
       refine ⟨rfl, ?_⟩
       constructor
       case k14 => exact fun _ => rfl
       case g => exact HV.out.g
       all_goals exact Um (by assumption)
      ·simp at ho
       subst ho
       have H14 := Hq hall 14
       have H12 := Hq hall 12
       clear hall hi
       have e0 := HV.out.k14 H14.out
       subst e0
       have e1 := HV.out.k12 H12.out
       subst e1
       refine wpOp_hid rfl fun K' HK => ?_
       go_simp
       cases HV.out
       refine HK.out _ _ ⟨by simp [HJ.out.sz], ?_⟩
       iterate 33 apply Exists.intro
       refine ⟨rfl, ?_⟩
       constructor
       case k15 => exact fun _ => rfl
       case g => exact HV.out.g
       all_goals exact Um (by assumption)
      ·simp at ho
       subst ho
       have H15 := Hq hall 15
       clear hall hi
       have e0 := HV.out.k15 H15.out
       subst e0
       refine wpOp_hid rfl fun K' HK => ?_
       go_simp
       cases HV.out
       refine HK.out _ _ ⟨by simp [HJ.out.sz], ?_⟩
       iterate 33 apply Exists.intro
       refine ⟨rfl, ?_⟩
       constructor
       case k16 => exact fun _ => rfl
       case g => exact HV.out.g
       all_goals exact Um (by assumption)
      ·simp at ho
       subst ho
       have H16 := Hq hall 16
       have H15 := Hq hall 15
       clear hall hi
       have e0 := HV.out.k16 H16.out
       subst e0
       have e1 := HV.out.k15 H15.out
       subst e1
       have t6 := HWR.out
       refine wpOp_hid rfl fun K' HK => ?_
       go_simp
       cases HV.out
       refine HK.out _ _ ⟨by simp [HJ.out.sz], ?_⟩
       iterate 33 apply Exists.intro
       refine ⟨rfl, ?_⟩
       constructor
       case k17 => exact fun _ => rfl
       case g => exact HV.out.g
       all_goals exact Um (by assumption)
      ·simp at ho
       subst ho
       have H15 := Hq hall 15
       clear hall hi
       have e0 := HV.out.k15 H15.out
       subst e0
       refine wpOp_hid rfl fun K' HK => ?_
       go_simp
       cases HV.out
       refine HK.out _ _ ⟨by simp [HJ.out.sz], ?_⟩
       iterate 33 apply Exists.intro
       refine ⟨rfl, ?_⟩
       constructor
       case k18 => exact fun _ => rfl
       case g => exact HV.out.g
       all_goals exact Um (by assumption)
      ·simp at ho
       subst ho
       have H18 := Hq hall 18
       have H15 := Hq hall 15
       clear hall hi
       have e0 := HV.out.k18 H18.out
       subst e0
       have e1 := HV.out.k15 H15.out
       subst e1
       refine wpOp_hid rfl fun K' HK => ?_
       go_simp
       cases HV.out
       refine HK.out _ _ ⟨by simp [HJ.out.sz], ?_⟩
       iterate 33 apply Exists.intro
       refine ⟨rfl, ?_⟩
       constructor
       case k19 => exact fun _ => rfl
       case g => exact HV.out.g
       all_goals exact Um (by assumption)
      ·simp at ho
       subst ho
       have H17 := Hq hall 17
       have H19 := Hq hall 19
       have H15 := Hq hall 15
       clear hall hi
       have e0 := HV.out.k17 H17.out
       subst e0
       have e1 := HV.out.k19 H19.out
       subst e1
       have e2 := HV.out.k15 H15.out
       subst e2
       have t7 := HT7.out
       refine wpOp_hid rfl fun K' HK => ?_
       go_simp
       cases HV.out
       refine HK.out _ _ ⟨by simp [HJ.out.sz], ?_⟩
       iterate 33 apply Exists.intro
       refine ⟨rfl, ?_⟩
       constructor
       case k20 => exact fun _ => rfl
       case g => exact HV.out.g
       all_goals exact Um (by assumption)
      ·simp at ho
       subst ho
       have H15 := Hq hall 15
       have H20 := Hq hall 20
       have H12 := Hq hall 12
       clear hall hi
       have e0 := HV.out.k15 H15.out
       subst e0
       have e1 := HV.out.k20 H20.out
       subst e1
       have e2 := HV.out.k12 H12.out
       subst e2
       refine wpOp_hid rfl fun K' HK => ?_
       go_simp
       cases HV.out
       refine HK.out _ _ ⟨by simp [HJ.out.sz], ?_⟩
       iterate 33 apply Exists.intro
       refine ⟨rfl, ?_⟩
       constructor
       case k21 => exact fun _ => rfl
       case g => exact HV.out.g
       all_goals exact Um (by assumption)
      ·simp at ho
       subst ho
       have H21 := Hq hall 21
       have H12 := Hq hall 12
       clear hall hi
       have e0 := HV.out.k21 H21.out
       subst e0
       have e1 := HV.out.k12 H12.out
       subst e1
       refine wpOp_hid rfl fun K' HK => ?_
       go_simp
       cases HV.out
       refine HK.out _ _ ⟨by simp [HJ.out.sz], ?_⟩
       iterate 33 apply Exists.intro
       refine ⟨rfl, ?_⟩
       constructor
       case k22 => exact fun _ => rfl
       case g => exact HV.out.g
       all_goals exact Um (by assumption)
      ·simp at ho
       subst ho
       have H22 := Hq hall 22
       clear hall hi
       have e0 := HV.out.k22 H22.out
       subst e0
       refine wpOp_hid rfl fun K' HK => ?_
       go_simp
       cases HV.out
       refine HK.out _ _ ⟨by simp [HJ.out.sz], ?_⟩
       iterate 33 apply Exists.intro
       refine ⟨rfl, ?_⟩
       constructor
       case k23 => exact fun _ => rfl
       case g => exact HV.out.g
       all_goals exact Um (by assumption)
      ·simp at ho
       subst ho
       have H23 := Hq hall 23
       have H22 := Hq hall 22
       clear hall hi
       have e0 := HV.out.k23 H23.out
       subst e0
       have e1 := HV.out.k22 H22.out
       subst e1
       have ew := HV.out.g
       subst ew
       have d1 := HD1.out
       refine wpOp_hid rfl fun K' HK => ?_
       go_simp
       cases HV.out
       refine HK.out _ _ ⟨by simp [HJ.out.sz], ?_⟩
       iterate 33 apply Exists.intro
       refine ⟨rfl, ?_⟩
       constructor
       case k24 => exact fun _ => rfl
       case g => exact HV.out.g
       all_goals exact Um (by assumption)
      ·simp at ho
       subst ho
       have H22 := Hq hall 22
       clear hall hi
       have e0 := HV.out.k22 H22.out
       subst e0
       refine wpOp_hid rfl fun K' HK => ?_
       go_simp
       cases HV.out
       refine HK.out _ _ ⟨by simp [HJ.out.sz], ?_⟩
       iterate 33 apply Exists.intro
       refine ⟨rfl, ?_⟩
       constructor
       case k25 => exact fun _ => rfl
       case g => exact HV.out.g
       all_goals exact Um (by assumption)
      ·simp at ho
       subst ho
       have H22 := Hq hall 22
       clear hall hi
       have e0 := HV.out.k22 H22.out
       subst e0
       refine wpOp_hid rfl fun K' HK => ?_
       go_simp
       cases HV.out
       refine HK.out _ _ ⟨by simp [HJ.out.sz], ?_⟩
       iterate 33 apply Exists.intro
       refine ⟨rfl, ?_⟩
       constructor
       case k26 => exact fun _ => rfl
       case g => exact HV.out.g
       all_goals exact Um (by assumption)
      ·simp at ho
       subst ho
       have H25 := Hq hall 25
       have H26 := Hq hall 26
       have H22 := Hq hall 22
       clear hall hi
       have e0 := HV.out.k25 H25.out
       subst e0
       have e1 := HV.out.k26 H26.out
       subst e1
       have e2 := HV.out.k22 H22.out
       subst e2
       have hin := HIN.out
       refine wpOp_hid rfl fun K' HK => ?_
       go_simp
       cases HV.out
       refine HK.out _ _ ⟨by simp [HJ.out.sz], ?_⟩
       iterate 33 apply Exists.intro
       refine ⟨rfl, ?_⟩
       constructor
       case k27 => exact fun _ => rfl
       case g => exact HV.out.g
       all_goals exact Um (by assumption)
      ·simp at ho
       subst ho
       have H27 := Hq hall 27
       have H22 := Hq hall 22
       clear hall hi
       have e0 := HV.out.k27 H27.out
       subst e0
       have e1 := HV.out.k22 H22.out
       subst e1
       refine wpOp_hid rfl fun K' HK => ?_
       go_simp
       cases HV.out
       refine HK.out _ _ ⟨by simp [HJ.out.sz], ?_⟩
       iterate 33 apply Exists.intro
       refine ⟨rfl, ?_⟩
       constructor
       case k28 => exact fun _ => rfl
       case g => exact HV.out.g
       all_goals exact Um (by assumption)
      ·simp at ho
       subst ho
       have H28 := Hq hall 28
       have H22 := Hq hall 22
       clear hall hi
       have e0 := HV.out.k28 H28.out
       subst e0
       have e1 := HV.out.k22 H22.out
       subst e1
       have ew := HV.out.g
       subst ew
       have x4 := HX4.out
       refine wpOp_hid rfl fun K' HK => ?_
       go_simp
       cases HV.out
       refine HK.out _ _ ⟨by simp [HJ.out.sz], ?_⟩
       iterate 33 apply Exists.intro
       refine ⟨rfl, ?_⟩
       constructor
       case k29 => exact fun _ => rfl
       case g => exact HV.out.g
       all_goals exact Um (by assumption)
      ·simp at ho
       subst ho
       have H24 := Hq hall 24
       have H29 := Hq hall 29
       have H22 := Hq hall 22
       clear hall hi
       have e0 := HV.out.k24 H24.out
       subst e0
       have e1 := HV.out.k29 H29.out
       subst e1
       have e2 := HV.out.k22 H22.out
       subst e2
       refine wpOp_hid rfl fun K' HK => ?_
       go_simp
       cases HV.out
       refine HK.out _ _ ⟨by simp [HJ.out.sz], ?_⟩
       iterate 33 apply Exists.intro
       refine ⟨rfl, ?_⟩
       constructor
       case k30 => exact fun _ => rfl
       case g => exact HV.out.g
       all_goals exact Um (by assumption)
      ·simp at ho
       subst ho
       have H22 := Hq hall 22
       have H30 := Hq hall 30
       have H12 := Hq hall 12
       clear hall hi
       have e0 := HV.out.k22 H22.out
       subst e0
       have e1 := HV.out.k30 H30.out
       subst e1
       have e2 := HV.out.k12 H12.out
       subst e2
       refine wpOp_hid rfl fun K' HK => ?_
       go_simp
       cases HV.out
       refine HK.out _ _ ⟨by simp [HJ.out.sz], ?_⟩
       iterate 33 apply Exists.intro
       refine ⟨rfl, ?_⟩
       constructor
       case k31 => exact fun _ => rfl
       case g => exact HV.out.g
       all_goals exact Um (by assumption)
      ·simp at ho
       subst ho
       have H12 := Hq hall 12
       have H31 := Hq hall 31
       clear hall hi
       have e0 := HV.out.k12 H12.out
       subst e0
       have e1 := HV.out.k31 H31.out
       subst e1
       refine wpOp_hid rfl fun K' HK => ?_
       go_simp
       cases HV.out
       refine HK.out _ _ ⟨by simp [HJ.out.sz], ?_⟩
       iterate 33 apply Exists.intro
       refine ⟨rfl, ?_⟩
       constructor
       case k32 => exact fun _ => rfl
       case g => exact HV.out.g
       all_goals exact Um (by assumption)
    ·have HT7 : Hid (decide ((k : Int) + 1 < (M : Int)) = false) := decide_eq_false (by omega)
     clear hm5 hiN hqx
     have mixed : Tryz.prog.follows .mixedOrders = true := by kernel_rfl
     refine wp_region_any mixed (wpAny_inv (RS3J w7.drew ad2 ad N c M c2 i k m wr.heap.size qx _ _ _ _ _ _ _ _ _ _ _ _ _ _ _ _ _ _ _ _ _ _ _ _ _ _ _ _ _ _ _ _ _ _ _ _ _ _ _ _ _ _ _ _ _ _ _ _ _ _ _ _ _ _ _ _ _ _ _ _ _ _ _ _ _ _ _ _ _ _ _ _ _ _ _ _ _ _ _ _ _ _ _ _ _ _ _) ?stRS3 ?dnRS3 _ _ _ _ ⟨by simp, ⟨_, _, _, _, _, _, _, _, _, _, _, _, _, _, _, _, _, _, _, _, _, _, _, _, _, _, _, _, _, _, _, _, _, rfl, fun h => by simp at h, fun h => by simp at h, fun h => by simp at h, fun h => by simp at h, fun h => by simp at h, fun h => by simp at h, fun h => by simp at h, fun h => by simp at h, fun h => by simp at h, fun h => by simp at h, fun h => by simp at h, fun h => by simp at h, fun h => by simp at h, fun h => by simp at h, fun h => by simp at h, fun h => by simp at h, fun h => by simp at h, fun h => by simp at h, fun h => by simp at h, fun h => by simp at h, fun h => by simp at h, fun h => by simp at h, fun h => by simp at h, fun h => by simp at h, fun h => by simp at h, fun h => by simp at h, fun h => by simp at h, fun h => by simp at h, fun h => by simp at h, fun h => by simp at h, fun h => by simp at h, fun h => by simp at h, fun h => by simp at h, rfl⟩⟩ (by decide))
     case dnRS3 =>
      intro L a w' hj hr
      have all := all_on hr hj.sz (by kernel_rfl)
      obtain ⟨s62, s63, s64, s65, s66, s67, s68, s69, s70, s71, s72, s73, s74, s75, s76, s77, s78, s79, s80, s81, s82, s83, s84, s85, s86, s87, s88, s89, s90, s91, s92, s93, s94, rfl, hv⟩ := hj.fr
      have e32 := hv.k32 (all 32 (by omega))
      have ew := hv.g
      subst e32
      subst ew
      clear all hv hj hr
      dsimp only
      go_wp2_with fail
      go_roundw
      case rel => exact ⟨k + 1, by go_num, by omega, by rw [HFI2.out.1], HFI2.out.2.drew⟩
      case measure => simp [intOf]; omega
     case stRS3 =>
      intro L a w' hj i hi
      obtain ⟨hun, o, ho, hall⟩ := mem_ready.1 hi
      have hoff := getD_off hun
      have hlt := (Array.getElem?_eq_some_iff.1 ho).1
      simp at hlt
      obtain ⟨s62, s63, s64, s65, s66, s67, s68, s69, s70, s71, s72, s73, s74, s75, s76, s77, s78, s79, s80, s81, s82, s83, s84, s85, s86, s87, s88, s89, s90, s91, s92, s93, s94, rfl, hv⟩ := hj.fr
      have HV := hI hv
      have HJ := hI hj
      clear hv hj
      rcases (show i = 0 ∨ i = 1 ∨ i = 2 ∨ i = 3 ∨ i = 4 ∨ i = 5 ∨ i = 6 ∨ i = 7 ∨ i = 8 ∨ i = 9 ∨ i = 10 ∨ i = 11 ∨ i = 12 ∨ i = 13 ∨ i = 14 ∨ i = 15 ∨ i = 16 ∨ i = 17 ∨ i = 18 ∨ i = 19 ∨ i = 20 ∨ i = 21 ∨ i = 22 ∨ i = 23 ∨ i = 24 ∨ i = 25 ∨ i = 26 ∨ i = 27 ∨ i = 28 ∨ i = 29 ∨ i = 30 ∨ i = 31 ∨ i = 32 from by omega) with rfl | rfl | rfl | rfl | rfl | rfl | rfl | rfl | rfl | rfl | rfl | rfl | rfl | rfl | rfl | rfl | rfl | rfl | rfl | rfl | rfl | rfl | rfl | rfl | rfl | rfl | rfl | rfl | rfl | rfl | rfl | rfl | rfl
      ·simp at ho
       subst ho
       clear hall hi
       refine wpOp_hid rfl fun K' HK => ?_
       go_simp
       cases HV.out
       refine HK.out _ _ ⟨by simp [HJ.out.sz], ?_⟩
       iterate 33 apply Exists.intro
       refine ⟨rfl, ?_⟩
       constructor
       case k0 => exact fun _ => rfl
       case g => exact HV.out.g
       all_goals exact Um (by assumption)
      ·simp at ho
       subst ho
       have H0 := Hq hall 0
       clear hall hi
       have e0 := HV.out.k0 H0.out
       subst e0
       refine wpOp_hid rfl fun K' HK => ?_
       go_simp
       cases HV.out
       refine HK.out _ _ ⟨by simp [HJ.out.sz], ?_⟩
       iterate 33 apply Exists.intro
       refine ⟨rfl, ?_⟩
       constructor
       case k1 => exact fun _ => rfl
       case g => exact HV.out.g
       all_goals exact Um (by assumption)
      ·simp at ho
       subst ho
       have H1 := Hq hall 1
       clear hall hi
       have e0 := HV.out.k1 H1.out
       subst e0
       refine wpOp_hid rfl fun K' HK => ?_
       go_simp
       cases HV.out
       refine HK.out _ _ ⟨by simp [HJ.out.sz], ?_⟩
       iterate 33 apply Exists.intro
       refine ⟨rfl, ?_⟩
       constructor
       case k2 => exact fun _ => rfl
       case g => exact HV.out.g
       all_goals exact Um (by assumption)
      ·simp at ho
       subst ho
       have H2 := Hq hall 2
       clear hall hi
       have e0 := HV.out.k2 H2.out
       subst e0
       refine wpOp_hid rfl fun K' HK => ?_
       go_simp
       cases HV.out
       refine HK.out _ _ ⟨by simp [HJ.out.sz], ?_⟩
       iterate 33 apply Exists.intro
       refine ⟨rfl, ?_⟩
       constructor
       case k3 => exact fun _ => rfl
       case g => exact HV.out.g
       all_goals exact Um (by assumption)
      ·simp at ho
       subst ho
       have H3 := Hq hall 3
       have H2 := Hq hall 2
       clear hall hi
       have e0 := HV.out.k3 H3.out
       subst e0
       have e1 := HV.out.k2 H2.out
       subst e1
       obtain ⟨t1, t2, t3, t3n⟩ := HI0.out
       refine wpOp_hid rfl fun K' HK => ?_
       go_simp
       cases HV.out
       refine HK.out _ _ ⟨by simp [HJ.out.sz], ?_⟩
       iterate 33 apply Exists.intro
       refine ⟨rfl, ?_⟩
       constructor
       case k4 => exact fun _ => rfl
       case g => exact HV.out.g
       all_goals exact Um (by assumption)
      ·simp at ho
       subst ho
       have H2 := Hq hall 2
       have H4 := Hq hall 4
       clear hall hi
       have e0 := HV.out.k2 H2.out
       subst e0
       have e1 := HV.out.k4 H4.out
       subst e1
       refine wpOp_hid rfl fun K' HK => ?_
       go_simp
       cases HV.out
       refine HK.out _ _ ⟨by simp [HJ.out.sz], ?_⟩
       iterate 33 apply Exists.intro
       refine ⟨rfl, ?_⟩
       constructor
       case k5 => exact fun _ => rfl
       case g => exact HV.out.g
       all_goals exact Um (by assumption)
      ·simp at ho
       subst ho
       have H5 := Hq hall 5
       clear hall hi
       have e0 := HV.out.k5 H5.out
       subst e0
       refine wpOp_hid rfl fun K' HK => ?_
       go_simp
       cases HV.out
       refine HK.out _ _ ⟨by simp [HJ.out.sz], ?_⟩
       iterate 33 apply Exists.intro
       refine ⟨rfl, ?_⟩
       constructor
       case k6 => exact fun _ => rfl
       case g => exact HV.out.g
       all_goals exact Um (by assumption)
      ·simp at ho
       subst ho
       have H6 := Hq hall 6
       clear hall hi
       have e0 := HV.out.k6 H6.out
       subst e0
       refine wpOp_hid rfl fun K' HK => ?_
       go_simp
       cases HV.out
       refine HK.out _ _ ⟨by simp [HJ.out.sz], ?_⟩
       iterate 33 apply Exists.intro
       refine ⟨rfl, ?_⟩
       constructor
       case k7 => exact fun _ => rfl
       case g => exact HV.out.g
       all_goals exact Um (by assumption)
      ·simp at ho
       subst ho
       have H6 := Hq hall 6
       clear hall hi
       have e0 := HV.out.k6 H6.out
       subst e0
       refine wpOp_hid rfl fun K' HK => ?_
       go_simp
       cases HV.out
       refine HK.out _ _ ⟨by simp [HJ.out.sz], ?_⟩
       iterate 33 apply Exists.intro
       refine ⟨rfl, ?_⟩
       constructor
       case k8 => exact fun _ => rfl
       case g => exact HV.out.g
       all_goals exact Um (by assumption)
      ·simp at ho
       subst ho
       have H8 := Hq hall 8
       have H6 := Hq hall 6
       clear hall hi
       have e0 := HV.out.k8 H8.out
       subst e0
       have e1 := HV.out.k6 H6.out
       subst e1
       refine wpOp_hid rfl fun K' HK => ?_
       go_simp
       cases HV.out
       refine HK.out _ _ ⟨by simp [HJ.out.sz], ?_⟩
       iterate 33 apply Exists.intro
       refine ⟨rfl, ?_⟩
       constructor
       case k9 => exact fun _ => rfl
       case g => exact HV.out.g
       all_goals exact Um (by assumption)
      ·simp at ho
       subst ho
       have H7 := Hq hall 7
       have H9 := Hq hall 9
       have H6 := Hq hall 6
       clear hall hi
       have e0 := HV.out.k7 H7.out
       subst e0
       have e1 := HV.out.k9 H9.out
       subst e1
       have e2 := HV.out.k6 H6.out
       subst e2
       obtain ⟨t1, t2, t3, t3n⟩ := HI0.out
       refine wpOp_hid rfl fun K' HK => ?_
       go_simp
       cases HV.out
       refine HK.out _ _ ⟨by simp [HJ.out.sz], ?_⟩
       iterate 33 apply Exists.intro
       refine ⟨rfl, ?_⟩
       constructor
       case k10 => exact fun _ => rfl
       case g => exact HV.out.g
       all_goals exact Um (by assumption)
      ·simp at ho
       subst ho
       have H6 := Hq hall 6
       have H10 := Hq hall 10
       clear hall hi
       have e0 := HV.out.k6 H6.out
       subst e0
       have e1 := HV.out.k10 H10.out
       subst e1
       refine wpOp_hid rfl fun K' HK => ?_
       go_simp
       cases HV.out
       refine HK.out _ _ ⟨by simp [HJ.out.sz], ?_⟩
       iterate 33 apply Exists.intro
       refine ⟨rfl, ?_⟩
       constructor
       case k11 => exact fun _ => rfl
       case g => exact HV.out.g
       all_goals exact Um (by assumption)
      ·simp at ho
       subst ho
       have H11 := Hq hall 11
       clear hall hi
       have e0 := HV.out.k11 H11.out
       subst e0
       refine wpOp_hid rfl fun K' HK => ?_
       go_simp
       cases HV.out
       refine HK.out _ _ ⟨by simp [HJ.out.sz], ?_⟩
       iterate 33 apply Exists.intro
       refine ⟨rfl, ?_⟩
       constructor
       case k12 => exact fun _ => rfl
       case g => exact HV.out.g
       all_goals exact Um (by assumption)
      ·simp at ho
       subst ho
       have H12 := Hq hall 12
       clear hall hi
       have e0 := HV.out.k12 H12.out
       subst e0
       refine wpOp_hid rfl fun K' HK => ?_
       go_simp
       cases HV.out
       refine HK.out _ _ ⟨by simp [HJ.out.sz], ?_⟩
       iterate 33 apply Exists.intro
       refine ⟨rfl, ?_⟩
       constructor
       case k13 => exact fun _ => rfl
       case g => exact HV.out.g
       all_goals exact Um (by assumption)
      ·simp at ho
       subst ho
       have H13 := Hq hall 13
       have H12 := Hq hall 12
       clear hall hi
       have e0 := HV.out.k13 H13.out
       subst e0
       have e1 := HV.out.k12 H12.out
       subst e1
       obtain ⟨t4, t5⟩ := HMB.out
       refine wpOp_hid rfl fun K' HK => ?_
       go_simp
       cases HV.out
       refine HK.out _ _ ⟨by simp [HJ.out.sz], ?_⟩
       iterate 33 apply Exists.intro
       refine ⟨rfl, ?_⟩
       constructor
       case k14 => exact fun _ => rfl
       case g => exact HV.out.g
       all_goals exact Um (by assumption)
      ·simp at ho
       subst ho
       have H14 := Hq hall 14
       have H12 := Hq hall 12
       clear hall hi
       have e0 := HV.out.k14 H14.out
       subst e0
       have e1 := HV.out.k12 H12.out
       subst e1
       refine wpOp_hid rfl fun K' HK => ?_
       go_simp
       cases HV.out
       refine HK.out _ _ ⟨by simp [HJ.out.sz], ?_⟩
       iterate 33 apply Exists.intro
       refine ⟨rfl, ?_⟩
       constructor
       case k15 => exact fun _ => rfl
       case g => exact HV.out.g
       all_goals exact Um (by assumption)
      ·simp at ho
       subst ho
       have H15 := Hq hall 15
       clear hall hi
       have e0 := HV.out.k15 H15.out
       subst e0
       refine wpOp_hid rfl fun K' HK => ?_
       go_simp
       cases HV.out
       refine HK.out _ _ ⟨by simp [HJ.out.sz], ?_⟩
       iterate 33 apply Exists.intro
       refine ⟨rfl, ?_⟩
       constructor
       case k16 => exact fun _ => rfl
       case g => exact HV.out.g
       all_goals exact Um (by assumption)
      ·simp at ho
       subst ho
       have H16 := Hq hall 16
       have H15 := Hq hall 15
       clear hall hi
       have e0 := HV.out.k16 H16.out
       subst e0
       have e1 := HV.out.k15 H15.out
       subst e1
       have t6 := HWR.out
       refine wpOp_hid rfl fun K' HK => ?_
       go_simp
       cases HV.out
       refine HK.out _ _ ⟨by simp [HJ.out.sz], ?_⟩
       iterate 33 apply Exists.intro
       refine ⟨rfl, ?_⟩
       constructor
       case k17 => exact fun _ => rfl
       case g => exact HV.out.g
       all_goals exact Um (by assumption)
      ·simp at ho
       subst ho
       have H15 := Hq hall 15
       clear hall hi
       have e0 := HV.out.k15 H15.out
       subst e0
       refine wpOp_hid rfl fun K' HK => ?_
       go_simp
       cases HV.out
       refine HK.out _ _ ⟨by simp [HJ.out.sz], ?_⟩
       iterate 33 apply Exists.intro
       refine ⟨rfl, ?_⟩
       constructor
       case k18 => exact fun _ => rfl
       case g => exact HV.out.g
       all_goals exact Um (by assumption)
      ·simp at ho
       subst ho
       have H18 := Hq hall 18
       have H15 := Hq hall 15
       clear hall hi
       have e0 := HV.out.k18 H18.out
       subst e0
       have e1 := HV.out.k15 H15.out
       subst e1
       refine wpOp_hid rfl fun K' HK => ?_
       go_simp
       cases HV.out
       refine HK.out _ _ ⟨by simp [HJ.out.sz], ?_⟩
       iterate 33 apply Exists.intro
       refine ⟨rfl, ?_⟩
       constructor
       case k19 => exact fun _ => rfl
       case g => exact HV.out.g
       all_goals exact Um (by assumption)
      ·simp at ho
       subst ho
       have H17 := Hq hall 17
       have H19 := Hq hall 19
       have H15 := Hq hall 15
       clear hall hi
       have e0 := HV.out.k17 H17.out
       subst e0
       have e1 := HV.out.k19 H19.out
       subst e1
       have e2 := HV.out.k15 H15.out
       subst e2
       have t7 := HT7.out
       refine wpOp_hid rfl fun K' HK => ?_
       go_simp
       cases HV.out
       refine HK.out _ _ ⟨by simp [HJ.out.sz], ?_⟩
       iterate 33 apply Exists.intro
       refine ⟨rfl, ?_⟩
       constructor
       case k20 => exact fun _ => rfl
       case g => exact HV.out.g
       all_goals exact Um (by assumption)
      ·simp at ho
       subst ho
       have H15 := Hq hall 15
       have H20 := Hq hall 20
       have H12 := Hq hall 12
       clear hall hi
       have e0 := HV.out.k15 H15.out
       subst e0
       have e1 := HV.out.k20 H20.out
       subst e1
       have e2 := HV.out.k12 H12.out
       subst e2
       refine wpOp_hid rfl fun K' HK => ?_
       go_simp
       cases HV.out
       refine HK.out _ _ ⟨by simp [HJ.out.sz], ?_⟩
       iterate 33 apply Exists.intro
       refine ⟨rfl, ?_⟩
       constructor
       case k21 => exact fun _ => rfl
       case g => exact HV.out.g
       all_goals exact Um (by assumption)
      ·simp at ho
       subst ho
       have H21 := Hq hall 21
       have H12 := Hq hall 12
       clear hall hi
       have e0 := HV.out.k21 H21.out
       subst e0
       have e1 := HV.out.k12 H12.out
       subst e1
       refine wpOp_hid rfl fun K' HK => ?_
       go_simp
       cases HV.out
       refine HK.out _ _ ⟨by simp [HJ.out.sz], ?_⟩
       iterate 33 apply Exists.intro
       refine ⟨rfl, ?_⟩
       constructor
       case k22 => exact fun _ => rfl
       case g => exact HV.out.g
       all_goals exact Um (by assumption)
      ·simp at ho
       subst ho
       have H22 := Hq hall 22
       clear hall hi
       have e0 := HV.out.k22 H22.out
       subst e0
       refine wpOp_hid rfl fun K' HK => ?_
       go_simp
       cases HV.out
       refine HK.out _ _ ⟨by simp [HJ.out.sz], ?_⟩
       iterate 33 apply Exists.intro
       refine ⟨rfl, ?_⟩
       constructor
       case k23 => exact fun _ => rfl
       case g => exact HV.out.g
       all_goals exact Um (by assumption)
      ·simp at ho
       subst ho
       have H23 := Hq hall 23
       have H22 := Hq hall 22
       clear hall hi
       have e0 := HV.out.k23 H23.out
       subst e0
       have e1 := HV.out.k22 H22.out
       subst e1
       refine wpOp_hid rfl fun K' HK => ?_
       go_simp
       cases HV.out
       refine HK.out _ _ ⟨by simp [HJ.out.sz], ?_⟩
       iterate 33 apply Exists.intro
       refine ⟨rfl, ?_⟩
       constructor
       case k24 => exact fun _ => rfl
       case g => exact HV.out.g
       all_goals exact Um (by assumption)
      ·simp at ho
       subst ho
       have H22 := Hq hall 22
       clear hall hi
       have e0 := HV.out.k22 H22.out
       subst e0
       refine wpOp_hid rfl fun K' HK => ?_
       go_simp
       cases HV.out
       refine HK.out _ _ ⟨by simp [HJ.out.sz], ?_⟩
       iterate 33 apply Exists.intro
       refine ⟨rfl, ?_⟩
       constructor
       case k25 => exact fun _ => rfl
       case g => exact HV.out.g
       all_goals exact Um (by assumption)
      ·simp at ho
       subst ho
       have H22 := Hq hall 22
       clear hall hi
       have e0 := HV.out.k22 H22.out
       subst e0
       refine wpOp_hid rfl fun K' HK => ?_
       go_simp
       cases HV.out
       refine HK.out _ _ ⟨by simp [HJ.out.sz], ?_⟩
       iterate 33 apply Exists.intro
       refine ⟨rfl, ?_⟩
       constructor
       case k26 => exact fun _ => rfl
       case g => exact HV.out.g
       all_goals exact Um (by assumption)
      ·simp at ho
       subst ho
       have H25 := Hq hall 25
       have H26 := Hq hall 26
       have H22 := Hq hall 22
       clear hall hi
       have e0 := HV.out.k25 H25.out
       subst e0
       have e1 := HV.out.k26 H26.out
       subst e1
       have e2 := HV.out.k22 H22.out
       subst e2
       refine wpOp_hid rfl fun K' HK => ?_
       go_simp
       cases HV.out
       refine HK.out _ _ ⟨by simp [HJ.out.sz], ?_⟩
       iterate 33 apply Exists.intro
       refine ⟨rfl, ?_⟩
       constructor
       case k27 => exact fun _ => rfl
       case g => exact HV.out.g
       all_goals exact Um (by assumption)
      ·simp at ho
       subst ho
       have H27 := Hq hall 27
       have H22 := Hq hall 22
       clear hall hi
       have e0 := HV.out.k27 H27.out
       subst e0
       have e1 := HV.out.k22 H22.out
       subst e1
       refine wpOp_hid rfl fun K' HK => ?_
       go_simp
       cases HV.out
       refine HK.out _ _ ⟨by simp [HJ.out.sz], ?_⟩
       iterate 33 apply Exists.intro
       refine ⟨rfl, ?_⟩
       constructor
       case k28 => exact fun _ => rfl
       case g => exact HV.out.g
       all_goals exact Um (by assumption)
      ·simp at ho
       subst ho
       have H28 := Hq hall 28
       have H22 := Hq hall 22
       clear hall hi
       have e0 := HV.out.k28 H28.out
       subst e0
       have e1 := HV.out.k22 H22.out
       subst e1
       refine wpOp_hid rfl fun K' HK => ?_
       go_simp
       cases HV.out
       refine HK.out _ _ ⟨by simp [HJ.out.sz], ?_⟩
       iterate 33 apply Exists.intro
       refine ⟨rfl, ?_⟩
       constructor
       case k29 => exact fun _ => rfl
       case g => exact HV.out.g
       all_goals exact Um (by assumption)
      ·simp at ho
       subst ho
       have H24 := Hq hall 24
       have H29 := Hq hall 29
       have H22 := Hq hall 22
       clear hall hi
       have e0 := HV.out.k24 H24.out
       subst e0
       have e1 := HV.out.k29 H29.out
       subst e1
       have e2 := HV.out.k22 H22.out
       subst e2
       refine wpOp_hid rfl fun K' HK => ?_
       go_simp
       cases HV.out
       refine HK.out _ _ ⟨by simp [HJ.out.sz], ?_⟩
       iterate 33 apply Exists.intro
       refine ⟨rfl, ?_⟩
       constructor
       case k30 => exact fun _ => rfl
       case g => exact HV.out.g
       all_goals exact Um (by assumption)
      ·simp at ho
       subst ho
       have H22 := Hq hall 22
       have H30 := Hq hall 30
       have H12 := Hq hall 12
       clear hall hi
       have e0 := HV.out.k22 H22.out
       subst e0
       have e1 := HV.out.k30 H30.out
       subst e1
       have e2 := HV.out.k12 H12.out
       subst e2
       refine wpOp_hid rfl fun K' HK => ?_
       go_simp
       cases HV.out
       refine HK.out _ _ ⟨by simp [HJ.out.sz], ?_⟩
       iterate 33 apply Exists.intro
       refine ⟨rfl, ?_⟩
       constructor
       case k31 => exact fun _ => rfl
       case g => exact HV.out.g
       all_goals exact Um (by assumption)
      ·simp at ho
       subst ho
       have H12 := Hq hall 12
       have H31 := Hq hall 31
       clear hall hi
       have e0 := HV.out.k12 H12.out
       subst e0
       have e1 := HV.out.k31 H31.out
       subst e1
       refine wpOp_hid rfl fun K' HK => ?_
       go_simp
       cases HV.out
       refine HK.out _ _ ⟨by simp [HJ.out.sz], ?_⟩
       iterate 33 apply Exists.intro
       refine ⟨rfl, ?_⟩
       constructor
       case k32 => exact fun _ => rfl
       case g => exact HV.out.g
       all_goals exact Um (by assumption)
  ·have hcx : decide ((k : Int) < (M : Int)) = false := by simp; omega
   have hkp : res.take k = res := List.take_of_length_le (by rw [HM.out]; exact hge)
   have hqq : I (sumPk (res.take k)) = q := by rw [hkp, HSUM.out]; exact HOK.out.can
   rw [hqq]
   have HBW := hI (HB2.out.trans (HB.out.mono HB2.out.size))
   have hck := HCK.out A2 res c2 (by rw [HM.out]; omega) HC2.out HRS.out wr HBW.out (by intro hl; obtain ⟨ad, e, h1, h2⟩ := HK2.out hl; exact ⟨ad, e, Nat.lt_of_lt_of_le h1 HB.out.size, fun j p hj => (h2 j p hj).below HB.out (by rw [add_block]; exact h1)⟩)
   rw [HM.out, HCHK.out] at hck
   have HCKC := hI hck
   clear hkp hqq hck
   go_wp2_with fail
   refine HCKC.out.mono ?_
   rintro e w7 ⟨rfl, b7⟩
   have HB7 := hI (HBW.out.trans (b7.mono HBW.out.size))
   have HB27 := hI (HB.out.trans (b7.mono HB.out.size))
   have HA7 := hI (HAW.out w7 HB7.out)
   clear b7 HCKC
   by_cases hm5 : m = 5
   ·subst hm5
    go_wp2_with fail
    refine HA7.out.mono ?_
    rintro e w8 ⟨rfl, b8⟩
    have HB8 := hI (HB7.out.trans (b8.mono HB7.out.size))
    clear b8
    go_wp2_with fail
    go_ret
    exact ⟨rfl, HB8.out⟩
   ·have t4 : (m == 5) = false := beq_eq_false_iff_ne.2 hm5
    have HNIL := hI (HOK.out.nil hm5)
    have HCC := hI (HCN.out w7 HB7.out)
    clear hm5 HCN HCK HFI
    go_wp2_with fail
    refine HCC.out.mono ?_
    rintro e w8 ⟨A3, c3, res3, rfl, b8, hk8, hc8, _, hres8⟩
    obtain rfl : res3 = res := (hres8 HNIL.out.1).trans (HNIL.out.2.trans HRES.out.symm)
    rw [HNIL.out.1, HM.out]
    have HB8 := hI (HB7.out.trans (b8.mono HB7.out.size))
    have heq := eqPicks_any A2 A3 res3 res3 c2 c3 (by rw [HM.out]; omega) (by rw [HM.out]; omega) w2.heap.size w8.heap.size w8 (HK2.out.below (HB27.out.trans (b8.mono HB27.out.size))) hk8
    rw [sameB_yes rfl, HM.out] at heq
    have HEQC := hI heq
    clear b8 hk8 hc8 hres8 heq HCC
    go_wp2_with fail
    refine HEQC.out.mono ?_
    rintro e w9 ⟨rfl, mm, rfl⟩
    have HB9 := hI (HB8.out.trans (below_drewN (Below.refl _ _) mm))
    have HA9 := hI (HAW.out _ HB9.out)
    clear HEQC
    go_wp2_with fail
    refine HA9.out.mono ?_
    rintro e w10 ⟨rfl, b10⟩
    have HB10 := hI (HB9.out.trans (b10.mono HB9.out.size))
    clear b10
    go_wp2_with fail
    go_ret
    exact ⟨rfl, HB10.out⟩
end Go.Proofs.YtdnmpgoigagjmaaGreatDoor
