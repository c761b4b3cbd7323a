/-
  fact.kinds: its great region by a table of its operations, in whatever order they come up; what it hands back. (Printed by gen_fkt.py.)
  fact.kinds' great region: its steps, operation by operation.
  fact.kinds' great region: each operation, and the region as a whole.
  fact.kinds: the rest of its region's operations; its contract.
  fact.kinds: its contract.
-/
import Derived.Test.YtbkmhmaldljgmaaGreatDoorC24
import Derived.Test.YtbkmhmaldljgmaaGreatDoorC26
set_option linter.unusedVariables false
set_option linter.unusedSimpArgs false
set_option maxHeartbeats 16000000
set_option maxRecDepth 100000
namespace Go.Proofs.YtbkmhmaldljgmaaGreatDoor
open Go.RowKit Tr Go.Shelf Go.Maps
def kword : Nat → ByteArray
 | 1 => ⟨#[100, 101, 112, 111, 115, 105, 116]⟩
 | 2 => ⟨#[119, 105, 116, 104, 100, 114, 97, 119]⟩
 | 3 => ⟨#[98, 117, 121]⟩
 | 4 => ⟨#[115, 101, 108, 108]⟩
 | 5 => ⟨#[105, 110, 99, 111, 109, 101]⟩
 | 6 => ⟨#[101, 120, 112, 101, 110, 115, 101]⟩
 | 7 => ⟨#[99, 111, 110, 118, 101, 114, 116]⟩
 | 8 => ⟨#[115, 112, 108, 105, 116]⟩
 | 9 => ⟨#[115, 112, 105, 110, 111, 102, 102]⟩
 | 10 => ⟨#[101, 120, 99, 104, 97, 110, 103, 101]⟩
 | 11 => ⟨#[101, 108, 101, 99, 116]⟩
 | 12 => ⟨#[101, 120, 101, 114, 99, 105, 115, 101]⟩
 | 13 => ⟨#[99, 97, 112, 105, 116, 97, 108]⟩
 | 14 => ⟨#[99, 97, 108, 108]⟩
 | 15 => ⟨#[112, 114, 105, 99, 101]⟩
 | 16 => ⟨#[114, 97, 116, 101]⟩
 | 17 => ⟨#[105, 115, 115, 117, 101]⟩
 | 18 => ⟨#[99, 97, 110, 99, 101, 108]⟩
 | _ => ⟨#[]⟩
def kclass : Nat → Int
 | 1 => 2
 | 2 => 2
 | 3 => 3
 | 4 => 3
 | 5 => 1
 | 6 => 2
 | 7 => 2
 | 8 => 1
 | 9 => 1
 | 10 => 1
 | 11 => 4
 | 12 => 3
 | 13 => 1
 | 14 => 1
 | 15 => 4
 | 16 => 4
 | 17 => 2
 | 18 => 2
 | _ => 0
inductive MRef | nil | trade | op (m : Nat)
def kmap : Nat → MRef
 | 1 => .op 2
 | 2 => .op 5
 | 3 => .trade
 | 4 => .trade
 | 5 => .op 18
 | 6 => .op 26
 | 7 => .op 30
 | 8 => .op 41
 | 9 => .op 51
 | 10 => .nil
 | 11 => .nil
 | 12 => .op 71
 | 13 => .op 83
 | 14 => .op 91
 | 15 => .op 99
 | 16 => .op 108
 | 17 => .op 117
 | 18 => .op 120
 | _ => .nil
inductive KC
 | m0 | mk | bt | e1 | e2
 | cl (v : Nat)
 | ins (m v key : Nat) (p q : Bool)
 | mv (m : Nat)
 | sl (l : List Nat)
 | ca (f k : Nat)
 | co (f k : Nat) (mi : Option Nat) (si : Nat)
 | wc (f v k : Nat)
 | pt (k v : Nat)
def kslots : List Nat := [15, 16, 17, 0, 18, 19, 0, 20, 21, 22, 23, 0, 24, 25, 26, 27, 0, 28, 29, 30, 0, 31, 32, 33,
 0, 34, 35, 0, 36, 37, 38, 39, 0, 40, 0, 41, 42, 43, 44, 0, 45, 46, 47, 0, 48, 0, 49, 50,
 51, 0, 52, 53, 54, 0, 55, 0, 56, 0, 57, 58, 59, 0, 60, 61, 62, 0, 63, 64, 65, 0, 66, 67,
 68, 0, 69, 0, 70, 0, 71, 72, 73, 0, 74, 75, 76, 0, 77, 78, 79, 0, 80, 81, 82, 0, 83, 84,
 85, 0, 86, 87, 88, 0, 89, 90, 91, 0, 92, 93, 94, 95, 0, 96, 97, 98, 99, 0, 100, 101, 0, 102,
 103, 0, 104, 0]
def kcls : List KC := [.m0, .cl 0, .ca 1 1, .pt 1 2, .cl 0, .ca 4 2,
 .pt 2 5, .cl 4, .cl 5, .sl [0], .co 7 3 (some 8) 9, .pt 3 10,
 .cl 4, .cl 5, .sl [0, 10], .co 12 4 (some 13) 14, .pt 4 15, .cl 4,
 .mk, .cl 3, .ins 18 19 7 true false, .mv 18, .sl [0], .co 17 5 (some 21) 22,
 .pt 5 23, .cl 0, .ca 25 6, .pt 6 26, .cl 1, .cl 4,
 .mk, .cl 3, .ins 30 31 4 true false, .cl 3, .ins 30 33 5 true false, .mv 30,
 .sl [1, 2], .co 29 7 (some 35) 36, .wc 28 37 7, .pt 7 38, .cl 4, .mk,
 .cl 2, .ins 41 42 7 false false, .cl 3, .ins 41 44 8 true false, .mv 41, .sl [0],
 .co 40 8 (some 46) 47, .pt 8 48, .cl 4, .mk, .cl 2, .ins 51 52 7 false false,
 .cl 3, .ins 51 54 8 true false, .bt, .ins 51 56 9 false true, .mv 51, .sl [0, 1],
 .co 50 9 (some 58) 59, .pt 9 60, .cl 4, .sl [0, 11], .co 62 10 none 63, .pt 10 64,
 .cl 4, .sl [0, 3, 12], .co 66 11 none 67, .pt 11 68, .cl 4, .mk,
 .cl 3, .ins 71 72 4 true false, .cl 2, .ins 71 74 7 false false, .cl 3, .ins 71 76 8 true false,
 .mv 71, .sl [0, 1], .co 70 12 (some 78) 79, .pt 12 80, .cl 4, .mk,
 .cl 3, .ins 83 84 7 true false, .mv 83, .sl [0], .co 82 13 (some 86) 87, .pt 13 88,
 .cl 4, .mk, .cl 2, .ins 91 92 7 false false, .mv 91, .sl [0],
 .co 90 14 (some 94) 95, .pt 14 96, .cl 4, .mk, .cl 2, .ins 99 100 7 false false,
 .mv 99, .sl [0], .co 98 15 (some 102) 103, .pt 15 104, .cl 1, .cl 4,
 .mk, .cl 3, .ins 108 109 8 true false, .mv 108, .sl [1, 2], .co 107 16 (some 111) 112,
 .wc 106 113 16, .pt 16 114, .cl 0, .ca 116 17, .pt 17 117, .cl 0,
 .ca 119 18, .pt 18 120, .e1, .e2]
def kinsl : List (Nat × Nat × Nat) := [(18, 7, 20), (30, 4, 32), (30, 5, 34), (41, 7, 43), (41, 8, 45), (51, 7, 53), (51, 8, 55), (51, 9, 57), (71, 4, 73), (71, 7, 75),
 (71, 8, 77), (83, 7, 85), (91, 7, 93), (99, 7, 101), (108, 8, 110), (2, 5, 2), (5, 5, 5), (26, 5, 26), (117, 5, 117), (120, 5, 120)]
def kputl : List (Nat × Nat) := [(1, 3), (2, 6), (3, 11), (4, 16), (5, 24), (6, 27), (7, 39), (8, 49), (9, 61), (10, 65),
 (11, 69), (12, 81), (13, 89), (14, 97), (15, 105), (16, 115), (17, 118), (18, 121)]
def kslot (i : Nat) : Nat := kslots.getD i 0
def kc (i : Nat) : KC := kcls.getD i .e2
def insOp (m : Nat) (x : Int) : Option Nat := (kinsl.find? fun e => e.1 == m && (e.2.1 : Int) == x).map fun e => e.2.2
def putOp (x : Int) : Option Nat := (kputl.find? fun e => (e.1 : Int) == x).map fun e => e.2
def mop : Option Nat → Operand
 | none => .const (.map none)
 | some m => .tmp (kslot m)
def kop (i : Nat) : Op := match kc i with
 | .m0 => .makeMap 249 none
 | .mk => .makeMap 245 none
 | .bt => .call { callee := .value (.func 245), args := #[.const (.bool false), .const (.bool true)], argTypes := #[4, 4] }
 | .e1 => .move (.tmp 15)
 | .e2 => .assign (.tmp 104)
 | .cl 0 => .move (.tmp 4)
 | .cl 1 => .move (.tmp 5)
 | .cl 2 => .move (.tmp 2)
 | .cl 3 => .load 287 (.tmp 1)
 | .cl 4 => .load 289 (.tmp 3)
 | .cl _ => .move (.tmp 6)
 | .ins m v key _ _ => .insert 245 (.tmp (kslot m)) (.const (.int .i64 key)) (.tmp (kslot v))
 | .mv m => .move (.tmp (kslot m))
 | .sl l => .buildSlice 66 l.length (l.zipIdx.map fun p => (p.2, Operand.const (.int .i64 p.1))).toArray
 | .ca f k => .call { callee := .value (.tmp (kslot f)), args := #[.const (.string (kword k))], argTypes := #[9] }
 | .co f k mi si => .call { callee := .value (.tmp (kslot f)), args := #[.const (.string (kword k)), .const (.int .i64 (kclass k)), mop mi, .tmp (kslot si)], argTypes := #[9, 3, 245, 66] }
 | .wc f v _ => .call { callee := .value (.tmp (kslot f)), args := #[.tmp (kslot v)], argTypes := #[247] }
 | .pt k v => .insert 249 (.tmp 15) (.const (.int .i64 k)) (.tmp (kslot v))
def kdst (i : Nat) : Option Nat := match kc i with
 | .ins .. | .pt .. => none
 | .e2 => some 0
 | _ => some (kslot i)
def kdeps (i : Nat) : List Nat := match kc i with
 | .ins m v _ _ _ => [m, v]
 | .mv m => m :: ((kinsl.filter fun e => e.1 == m).map fun e => e.2.2)
 | .ca f _ => [f]
 | .co f _ mi si => match mi with | none => [f, si] | some m => [f, si, m]
 | .wc f v _ => [f, v]
 | .pt _ v => [0, v]
 | .e1 => 0 :: kputl.map fun e => e.2
 | .e2 => [122]
 | _ => []
def kref (k : Nat) : Option Nat := match kmap k with | .op m => some m | _ => none
def krefs (i : Nat) : Option Nat := match kc i with
 | .m0 => some 0
 | .mk => some i
 | .mv m => some m
 | .ca _ k => kref k
 | .co _ k _ _ => kref k
 | .wc _ _ k => kref k
 | .e1 => some 0
 | .ins m _ _ _ _ => some m
 | .pt _ _ => some 0
 | .e2 => some 122
 | _ => none
def kval (i : Nat) : Nat := match kc i with | .cl v => v | .bt => 9 | _ => 99
def kflag (j : Nat) : Bool × Bool := match kc j with | .ins _ _ _ p q => (p, q) | _ => (true, false)
def isNum (m : Nat) : Bool := match kc m with | .mk => true | .ca .. => true | _ => false
def kkind (i : Nat) : Nat := match kc i with | .ca _ k => k | .co _ k _ _ => k | .wc _ _ k => k | _ => 0
def isCo (i : Nat) : Bool := match kc i with | .co .. => true | _ => false
def isFin (i : Nat) : Bool := match kc i with | .ca .. => true | .wc .. => true | .co _ k _ _ => !kcode k | _ => false
def isRef (x : MRef) (m : Nat) : Bool := match x with | .op m' => m' == m | _ => false
def inMap (x : MRef) (f : Nat) : Bool := match x with | .nil => false | .trade => f == 4 || f == 5 || f == 6 | .op m => (insOp m f).isSome
def slOf (i : Nat) : List Nat := match kc i with | .sl l => l | _ => []
def kchk (i : Nat) : Bool := match kc i with
 | .m0 => i == 0
 | .mk => true
 | .bt => true
 | .e1 => i == 122
 | .e2 => i == 123
 | .cl v => Nat.ble v 5
 | .ins m v key p q => insOp m key == some i && isNum m && (match kc m with | .mk => true | _ => false) && ((kval v == 2 && !p && !q) || (kval v == 3 && p && !q) || (kval v == 9 && !p && q))
 | .mv m => (match kc m with | .mk => true | _ => false)
 | .sl l => l.all (fun y => Nat.blt y 13) && !l.isEmpty && Nat.ble l.length 3
 | .ca f k => kval f == 0 && insOp i 5 == some i && isRef (kmap k) i && !kcode k && kclass k == 2 && (List.range 13).all (fun f => (f == 2 || f == 5) == (kfs k).contains f)
 | .co f k mi si => kval f == 4 && !(slOf si).isEmpty && (match mi with | none => (match kmap k with | .nil => true | _ => false) | some x => (kval x == 5 && (match kmap k with | .trade => true | _ => false)) || (match kc x with | .mv m => isRef (kmap k) m | _ => false)) && (List.range 13).all (fun f => (inMap (kmap k) f || (slOf si).contains f) == (kfs k).contains f)
 | .wc f v k => kval f == 1 && isCo v && kkind v == k && kcode k
 | .pt k v => putOp k == some i && isFin v && kkind v == k && Nat.ble 1 k && Nat.ble k 18
def kby (t : Nat) : Nat := (kslots.findIdx? (· == t)).getD 999
noncomputable def kOps : Array Oper := opsOf 6 Tryz.f204
theorem kops_eq : kOps.toList.map (fun o => (o.op, o.dst, o.guard)) = (List.range 124).map fun i => (kop i, kdst i, none) := by kernel_rfl
theorem kdeps_eq : ((List.range 124).all fun i => (kdeps i).all fun j => match kOps[i]? with | some o => o.after.any (fun e => e.on == j && Region.binds .any e) | none => false) = true := by kernel_rfl
theorem kchk_eq : ((List.range 124).all kchk) = true := by kernel_rfl
theorem kslot_eq : ((List.range 123).all fun i => kslot i == 0 || (kby (kslot i) == i && Nat.ble 15 (kslot i) && Nat.blt (kslot i) 105)) = true := by kernel_rfl
theorem kslot_pos : ((List.range 123).all fun i => (kdst i).isNone || Nat.blt 0 (kslot i)) = true := by kernel_rfl
theorem krefs_eq : ((List.range 124).all fun i => match krefs i with | none => true | some m => m == i || (kdeps i).contains m || (kdeps i).any fun j => krefs j == some m) = true := by kernel_rfl
theorem kinsl_eq : (kinsl.all fun e => Nat.ble 4 e.2.1 && Nat.ble e.2.1 9 && Nat.blt e.2.2 124 && isNum e.1 && (e.2.2 == e.1 || (kdeps e.2.2).contains e.1)) = true := by kernel_rfl
theorem kinsl_key : (kinsl.all fun e => match kc e.2.2 with | .ins m _ x _ _ => m == e.1 && x == e.2.1 | .ca .. => e.2.2 == e.1 && e.2.1 == 5 | _ => false) = true := by kernel_rfl
theorem kinsl_ins : (kinsl.all fun e => match kc e.2.2, kc e.1 with | .ins .., .mk => true | .ca .., .ca .. => true | _, _ => false) = true := by kernel_rfl
theorem kputl_eq : (kputl.all fun e => match kc e.2 with | .pt k _ => k == e.1 | _ => false) = true := by kernel_rfl
theorem kputl_all : ((List.range 19).all fun k => k == 0 || (putOp k).isSome) = true := by kernel_rfl
theorem kback : leansBack .any kOps 124 = true := by kernel_rfl
theorem all_range {n : Nat} {p : Nat → Bool} (h : (List.range n).all p = true) {i : Nat} (hi : i < n) : p i = true := List.all_eq_true.1 h i (List.mem_range.2 hi)
theorem kops_size : kOps.size = 124 := by
 have := congrArg List.length kops_eq
 simpa using this
theorem kop_at {i : Nat} (h : i < 124) : ∃ o, kOps[i]? = some o ∧ o.op = kop i ∧ o.dst = kdst i ∧ o.guard = none := by
 have hs : i < kOps.size := by rw [kops_size]; exact h
 have h1 := congrArg (fun l => l[i]?) kops_eq
 simp only [List.getElem?_map, List.getElem?_range h, Option.map_some] at h1
 rw [Array.getElem?_toList, Array.getElem?_eq_getElem hs, Option.map_some] at h1
 injection h1 with h2
 injection h2 with a1 h3
 injection h3 with a2 a3
 exact ⟨_, Array.getElem?_eq_getElem hs, a1, a2, a3⟩
theorem kdep {L : Array Bool} {i : Nat} (hi : i ∈ Region.ready .any kOps L) : L.getD i true = false ∧ i < 124 ∧ (∃ o, kOps[i]? = some o ∧ o.op = kop i ∧ o.dst = kdst i ∧ o.guard = none) ∧ ∀ j ∈ kdeps i, L.getD j false = true := by
 obtain ⟨hun, o, ho, hall⟩ := mem_ready.1 hi
 have hlt : i < 124 := by have := (Array.getElem?_eq_some_iff.1 ho).1; rw [kops_size] at this; exact this
 refine ⟨hun, hlt, kop_at hlt, fun j hj => ?_⟩
 have h1 := List.all_eq_true.1 (all_range kdeps_eq hlt) j hj
 rw [ho] at h1
 simp only [Array.any_eq_true', Bool.and_eq_true, beq_iff_eq] at h1
 obtain ⟨e, he, h2, h3⟩ := h1
 rw [← h2]; exact hall e he h3
def kst (k : Nat) (cd : Bool) (nm : Value) : Value := .agg (kcells (kword k) (kclass k) (fun f => (kfs k).contains f) nm cd)
def nmv (E : Nat → Value) (B : Nat → Nat) (k : Nat) : Value := match kmap k with | .nil => .map none | .trade => E 5 | .op m => .map (some (B m))
def Sat (E : Nat → Value) (B : Nat → Nat) (W : World) (i : Nat) (v : Value) : Prop := match kc i with
 | .m0 => v = .map (some (B 0))
 | .mk => v = .map (some (B i))
 | .mv m => v = .map (some (B m))
 | .e1 => v = .map (some (B 0))
 | .cl k => v = E k
 | .bt => CloAt W v false true
 | .sl l => ∃ b, v = .slice (some ⟨b, 0, none⟩) l.length l.length ∧ W.heap[b]? = some (.cells (l.map fun (x : Nat) => Value.int .i64 (x : Int)).toArray 3 (0, 0))
 | .ca _ k => v = kst k (kcode k) (nmv E B k)
 | .co _ k _ _ => v = kst k false (nmv E B k)
 | .wc _ _ k => v = kst k (kcode k) (nmv E B k)
 | _ => True
theorem nmv_congr {E : Nat → Value} {B B' : Nat → Nat} {k : Nat} (h : ∀ m, kref k = some m → B' m = B m) : nmv E B' k = nmv E B k := by
 unfold nmv
 unfold kref at h
 cases hk : kmap k with
 | op m => rw [hk] at h; simp only; rw [h m rfl]
 | _ => rfl
theorem Sat.mono {E : Nat → Value} {B B' : Nat → Nat} {W W' : World} {i : Nat} {v : Value} {b : Option Nat} (h : Sat E B W i v) (hs : Stp b W W') (hB : ∀ m, krefs i = some m → B' m = B m) : Sat E B' W' i v := by
 unfold Sat at *
 unfold krefs at hB
 cases hk : kc i with
 | m0 => rw [hk] at h hB; simp only at h ⊢; rw [hB 0 rfl]; exact h
 | mk => rw [hk] at h hB; simp only at h ⊢; rw [hB i rfl]; exact h
 | mv m => rw [hk] at h hB; simp only at h ⊢; rw [hB m rfl]; exact h
 | e1 => rw [hk] at h hB; simp only at h ⊢; rw [hB 0 rfl]; exact h
 | cl k => rw [hk] at h; exact h
 | bt => rw [hk] at h; exact h.stp hs
 | sl l => rw [hk] at h; obtain ⟨c, e, hc⟩ := h; exact ⟨c, e, hs.cells hc⟩
 | ca f k => rw [hk] at h hB; simp only at h ⊢; rw [nmv_congr hB]; exact h
 | co f k mi si => rw [hk] at h hB; simp only at h ⊢; rw [nmv_congr hB]; exact h
 | wc f x k => rw [hk] at h hB; simp only at h ⊢; rw [nmv_congr hB]; exact h
 | _ => exact True.intro
def Cont (W : World) (L : Array Bool) (m : Nat) (h : Int → Option Value) : Prop := ∀ x : Int, (insOp m x = none → h x = none) ∧ ∀ j, insOp m x = some j → (L.getD j false = false → h x = none) ∧ (L.getD j false = true → ∃ v, h x = some v ∧ CloAt W v (kflag j).1 (kflag j).2)
def Main (E : Nat → Value) (B : Nat → Nat) (L : Array Bool) (h : Int → Option Value) : Prop := ∀ x : Int, (putOp x = none → h x = none) ∧ ∀ j, putOp x = some j → (L.getD j false = false → h x = none) ∧ (L.getD j false = true → h x = some (kst x.toNat (kcode x.toNat) (nmv E B x.toNat)))
structure KE (w : World) (E : Nat → Value) (b1 b3 bt nt : Nat) (ht : Int → Option Value) : Prop where
 e0 : E 0 = .func (.func 247) #[] #[.pointer (some ⟨b3, 0, none⟩), .pointer (some ⟨b1, 0, none⟩)]
 e1 : E 1 = .func (.func 248) #[] #[]
 e2 : CloAt w (E 2) false false
 e3 : CloAt w (E 3) true false
 e4 : E 4 = .func (.func 246) #[] #[]
 e5 : E 5 = .map (some bt)
 x1 : w.heap[b1]? = some (.cells #[E 3] 287 (0, 0))
 x3 : w.heap[b3]? = some (.cells #[E 4] 289 (0, 0))
 tr : Mp 3 keyI w bt nt ht
 t4 : ht 4 = some (E 3)
 t5 : ht 5 = some (E 2)
 t6 : ht 6 = some (E 2)
 tn : ∀ x, x ≠ 4 → x ≠ 5 → x ≠ 6 → ht x = none
structure KB (w : World) (E : Nat → Value) (L : Array Bool) (a : Act) (W : World) (B : Nat → Nat) : Prop where
 sat : ∀ i, i < 123 → L.getD i false = true → Sat E B W i (a.eval (.tmp (kslot i)))
 inj : ∀ i j, (i = 0 ∨ isNum i = true) → (j = 0 ∨ isNum j = true) → L.getD i false = true → L.getD j false = true → B i = B j → i = j
 low : ∀ i, (i = 0 ∨ isNum i = true) → L.getD i false = true → w.heap.size ≤ B i ∧ B i < W.heap.size
 mi : ∀ m, isNum m = true → L.getD m false = true → ∃ n h, Mp 3 keyI W (B m) n h ∧ n + waits L.toList ≤ 124 ∧ Cont W L m h
 mm : L.getD 0 false = true → ∃ n h, Mp 3 keyI W (B 0) n h ∧ n + waits L.toList ≤ 124 ∧ Main E B L h
 ref : ∀ i, L.getD i false = true → ∀ m, krefs i = some m → L.getD m false = true
 cmp : ∀ i m, kc i = .mv m → L.getD i false = true → ∀ e ∈ kinsl, e.1 = m → L.getD e.2.2 false = true
 rfp : ∀ x j, putOp x = some j → L.getD j false = true → ∀ m, kref x.toNat = some m → L.getD m false = true
 sz : L.size = 124
 bw : Below w.heap.size w W
theorem getD_lt {L : Array Bool} {i : Nat} (h : L.getD i false = true) : i < L.size := by
 refine Classical.byContradiction fun hn => ?_
 rw [Array.getD_eq_getD_getElem?, Array.getElem?_eq_none (by omega)] at h
 cases h
section
variable {w W W' : World} {E : Nat → Value} {L : Array Bool} {a a' : Act} {B B' : Nat → Nat} {i : Nat} {b : Option Nat}
theorem KB.ref' (h : KB w E L a W B) (hi : i ∈ Region.ready .any kOps L) : ∀ j, (L.setIfInBounds i true).getD j false = true → ∀ m, krefs j = some m → (L.setIfInBounds i true).getD m false = true := by
 obtain ⟨hun, hlt, _, hd⟩ := kdep hi
 intro j hj m hm
 by_cases e : j = i
 ·subst e
  have hk := all_range krefs_eq hlt
  rw [hm] at hk
  simp only [Bool.or_eq_true, beq_iff_eq, List.contains_iff_mem, List.any_eq_true] at hk
  rcases hk with (rfl | hk) | ⟨x, hx, hxm⟩
  ·exact getD_set_same hun
  ·exact getD_up hun (hd m hk)
  ·exact getD_up hun (h.ref x (hd x hx) m hxm)
 ·exact getD_up hun (h.ref j (getD_dn (fun x => e x.symm) hj) m hm)
theorem KB.sats (h : KB w E L a W B) (hi : i ∈ Region.ready .any kOps L) (hs : Stp b W W') (hv : ∀ j, j < 123 → j ≠ i → L.getD j false = true → (kdst j).isSome = true → a'.eval (.tmp (kslot j)) = a.eval (.tmp (kslot j)))
 (hB : ∀ m, L.getD m false = true → B' m = B m) (hn : i < 123 → Sat E B' W' i (a'.eval (.tmp (kslot i)))) :
 ∀ j, j < 123 → (L.setIfInBounds i true).getD j false = true → Sat E B' W' j (a'.eval (.tmp (kslot j))) := by
 obtain ⟨hun, hlt, _, hd⟩ := kdep hi
 intro j hj hl
 by_cases e : j = i
 ·subst e; exact hn hj
 ·have hl0 := getD_dn (fun x => e x.symm) hl
  have h1 := (h.sat j hj hl0).mono (B' := B') hs (fun m hm => hB m (h.ref j hl0 m hm))
  cases hk : kdst j with
  | some d => rw [hv j hj e hl0 (by rw [hk]; rfl)]; exact h1
  | none =>
    unfold Sat
    unfold kdst at hk
    cases hc : kc j <;> rw [hc] at hk <;> first | exact True.intro | (simp at hk)
theorem put_eval {o : Oper} {v : Value} (ho : o.dst = kdst i) (ha : a.tmps.size = 105) (hlt : i < 123) : ∀ j, j < 123 → j ≠ i → (kdst j).isSome = true → (a.put o.dst v).eval (.tmp (kslot j)) = a.eval (.tmp (kslot j)) := by
 intro j hj e hjs
 rw [ho]
 unfold kdst
 split
 ·rfl
 ·rfl
 ·rename_i hc
  have := all_range kchk_eq (show i < 124 by omega)
  unfold kchk at this
  rw [hc] at this
  simp at this; omega
 ·refine eval_put_other fun e2 => e ?_
  have h1 := all_range kslot_eq hlt
  have h2 := all_range kslot_eq hj
  have h3 := all_range kslot_pos hj
  simp only [Bool.or_eq_true, beq_iff_eq, Bool.and_eq_true, Option.isNone_iff_eq_none, Nat.blt_eq, Nat.ble_eq] at h1 h2 h3
  rcases h3 with h3 | h3
  ·rw [h3] at hjs; cases hjs
  ·rcases h2 with h2 | h2
   ·omega
   ·rcases h1 with h1 | h1
    ·omega
    ·rw [← h2.1.1, ← h1.1.1, e2]
theorem put_own {o : Oper} {v : Value} (ho : o.dst = kdst i) (ha : a.tmps.size = 105) (hlt : i < 123) (hs : (kdst i).isSome = true) : (a.put o.dst v).eval (.tmp (kslot i)) = v := by
 have h1 := all_range kslot_eq hlt
 have h3 := all_range kslot_pos hlt
 simp only [Bool.or_eq_true, beq_iff_eq, Bool.and_eq_true, Option.isNone_iff_eq_none, Nat.blt_eq, Nat.ble_eq] at h1 h3
 rw [ho]
 have hk : kdst i = some (kslot i) := by
  unfold kdst at hs ⊢
  cases hc : kc i <;> rw [hc] at hs <;> first | rfl | (simp at hs; done) | skip
  have := all_range kchk_eq (show i < 124 by omega)
  unfold kchk at this
  rw [hc] at this
  simp at this; omega
 rw [hk]
 refine eval_put_same ?_
 rcases h3 with h3 | h3
 ·rw [hk] at h3; cases h3
 ·rcases h1 with h1 | h1
  ·omega
  ·omega
end
end Go.Proofs.YtbkmhmaldljgmaaGreatDoor
namespace Go.Proofs.YtbkmhmaldljgmaaGreatDoor
open Go.RowKit Tr Go.Shelf Go.Maps
def isIns (i : Nat) : Bool := match kc i with | .ins .. => true | .ca .. => true | _ => false
def isPt (i : Nat) : Bool := match kc i with | .pt .. => true | _ => false
theorem find_spec {α β : Type} {l : List α} {p : α → Bool} {f : α → β} {y : β} (h : (l.find? p).map f = some y) : ∃ x ∈ l, p x = true ∧ f x = y := by
 cases hf : l.find? p with
 | none => rw [hf] at h; cases h
 | some x => rw [hf] at h; injection h with h; exact ⟨x, List.mem_of_find?_eq_some hf, List.find?_some hf, h⟩
theorem insOp_spec {m : Nat} {x : Int} {j : Nat} (h : insOp m x = some j) : ∃ e ∈ kinsl, e.1 = m ∧ (e.2.1 : Int) = x ∧ e.2.2 = j := by
 obtain ⟨e, he, hp, hj⟩ := find_spec h
 simp only [Bool.and_eq_true, beq_iff_eq] at hp
 exact ⟨e, he, hp.1, hp.2, hj⟩
theorem insOp_kind {m : Nat} {x : Int} {j : Nat} (h : insOp m x = some j) : (∃ v key p q, kc j = .ins m v key p q ∧ x = key) ∨ ∃ f k, kc j = .ca f k ∧ j = m ∧ x = 5 := by
 obtain ⟨e, he, rfl, rfl, rfl⟩ := insOp_spec h
 have hk := List.all_eq_true.1 kinsl_key e he
 cases hc : kc e.2.2 <;> rw [hc] at hk <;> simp at hk
 ·exact .inl ⟨_, _, _, _, by rw [hk.1], by rw [hk.2]⟩
 ·exact .inr ⟨_, _, rfl, hk.1, by rw [hk.2]; rfl⟩
theorem insOp_isIns {m : Nat} {x : Int} {j : Nat} (h : insOp m x = some j) : isIns j = true := by
 unfold isIns
 rcases insOp_kind h with ⟨_, _, _, _, hc, _⟩ | ⟨_, _, hc, _⟩ <;> rw [hc]
theorem insOp_key {m : Nat} {x : Int} {j : Nat} (h : insOp m x = some j) : 4 ≤ x ∧ x ≤ 9 := by
 obtain ⟨e, he, _, rfl, _⟩ := insOp_spec h
 have hk := List.all_eq_true.1 kinsl_eq e he
 simp only [Bool.and_eq_true, Nat.ble_eq, Nat.blt_eq] at hk
 omega
theorem putOp_kind {x : Int} {j : Nat} (h : putOp x = some j) : ∃ k v, kc j = .pt k v ∧ x = k := by
 obtain ⟨e, he, hp, rfl⟩ := find_spec h
 simp only [beq_iff_eq] at hp
 have hk := List.all_eq_true.1 kputl_eq e he
 cases hc : kc e.2 <;> rw [hc] at hk <;> simp at hk
 exact ⟨_, _, rfl, by rw [← hp, hk]⟩
theorem putOp_isPt {x : Int} {j : Nat} (h : putOp x = some j) : isPt j = true := by
 unfold isPt
 obtain ⟨_, _, hc, _⟩ := putOp_kind h
 rw [hc]
section
variable {w W W' : World} {E : Nat → Value} {L : Array Bool} {a a' : Act} {B B' : Nat → Nat} {i : Nat} {b : Option Nat}
theorem set_off {L : Array Bool} {i j : Nat} (e : i ≠ j) {x : Bool} : (L.setIfInBounds i true).getD j false = x ↔ L.getD j false = x := by rw [getD_set_other e]
theorem Cont.keep {m : Nat} {h : Int → Option Value} (hc : Cont W L m h) (hs : Stp b W W') (hi : ∀ x j, insOp m x = some j → i ≠ j) : Cont W' (L.setIfInBounds i true) m h := by
 intro x
 refine ⟨(hc x).1, fun j hj => ?_⟩
 have e := hi x j hj
 refine ⟨fun h0 => ((hc x).2 j hj).1 ((set_off e).1 h0), fun h0 => ?_⟩
 obtain ⟨v, h1, h2⟩ := ((hc x).2 j hj).2 ((set_off e).1 h0)
 exact ⟨v, h1, h2.stp hs⟩
theorem Main.keep {h : Int → Option Value} (hc : Main E B L h) (hr : ∀ x j, putOp x = some j → L.getD j false = true → nmv E B' x.toNat = nmv E B x.toNat) (hi : ∀ x j, putOp x = some j → i ≠ j) : Main E B' (L.setIfInBounds i true) h := by
 intro x
 refine ⟨(hc x).1, fun j hj => ?_⟩
 have e := hi x j hj
 refine ⟨fun h0 => ((hc x).2 j hj).1 ((set_off e).1 h0), fun h0 => ?_⟩
 have h1 := (set_off e).1 h0
 rw [hr x j hj h1]
 exact ((hc x).2 j hj).2 h1
theorem KB.cmp' (h : KB w E L a W B) (hi : i ∈ Region.ready .any kOps L) : ∀ j m, kc j = .mv m → (L.setIfInBounds i true).getD j false = true → ∀ e ∈ kinsl, e.1 = m → (L.setIfInBounds i true).getD e.2.2 false = true := by
 obtain ⟨hun, hlt, _, hd⟩ := kdep hi
 intro j m hc hj e he hm
 by_cases ej : j = i
 ·subst ej
  refine getD_up hun (hd _ ?_)
  unfold kdeps
  rw [hc]
  exact List.mem_cons_of_mem _ (List.mem_map.2 ⟨e, List.mem_filter.2 ⟨he, by simp [hm]⟩, rfl⟩)
 ·exact getD_up hun (h.cmp j m hc (getD_dn (fun x => ej x.symm) hj) e he hm)
theorem krefs_fin {v : Nat} (h : isFin v = true) : krefs v = kref (kkind v) := by
 unfold isFin at h
 unfold krefs kkind
 cases hc : kc v <;> rw [hc] at h <;> simp at h <;> rfl
theorem pt_chk {k v : Nat} (hlt : i < 124) (hc : kc i = .pt k v) : putOp k = some i ∧ isFin v = true ∧ kkind v = k ∧ 1 ≤ k ∧ k ≤ 18 := by
 have hk := all_range kchk_eq hlt
 unfold kchk at hk
 rw [hc] at hk
 simp only [Bool.and_eq_true, beq_iff_eq, Nat.ble_eq] at hk
 exact ⟨hk.1.1.1.1, hk.1.1.1.2, hk.1.1.2, hk.1.2, hk.2⟩
theorem KB.rfp' (h : KB w E L a W B) (hi : i ∈ Region.ready .any kOps L) : ∀ x j, putOp x = some j → (L.setIfInBounds i true).getD j false = true → ∀ m, kref x.toNat = some m → (L.setIfInBounds i true).getD m false = true := by
 obtain ⟨hun, hlt, _, hd⟩ := kdep hi
 intro x j hj hl m hm
 by_cases e : j = i
 ·subst e
  obtain ⟨k, v, hc, rfl⟩ := putOp_kind hj
  obtain ⟨_, h1, h2, _⟩ := pt_chk hlt hc
  have hv := hd v (by unfold kdeps; rw [hc]; simp)
  refine getD_up hun (h.ref v hv m ?_)
  rw [krefs_fin h1, h2]
  exact hm
 ·exact getD_up hun (h.rfp x j hj (getD_dn (fun x => e x.symm) hl) m hm)
theorem waits_step (hun : L.getD i true = false) {n : Nat} (h : n + waits L.toList ≤ 124) : n + 1 + waits (L.setIfInBounds i true).toList ≤ 124 := by
 have := waits_set' hun
 omega
theorem isNum_off {m : Nat} (hm : m = 0 ∨ isNum m = true) (hi : isNum i = false) (h0 : i ≠ 0) : i ≠ m := by
 rintro rfl
 rcases hm with hm | hm
 ·exact h0 hm
 ·rw [hi] at hm; cases hm
theorem KB.quiet (h : KB w E L a W B) (hi : i ∈ Region.ready .any kOps L) (hs : Below W.heap.size W W') (hm : isNum i = false) (h0 : i ≠ 0) (hq : isIns i = false) (hp : isPt i = false)
 (hv : ∀ j, j < 123 → j ≠ i → L.getD j false = true → (kdst j).isSome = true → a'.eval (.tmp (kslot j)) = a.eval (.tmp (kslot j))) (hn : i < 123 → Sat E B W' i (a'.eval (.tmp (kslot i)))) : KB w E (L.setIfInBounds i true) a' W' B := by
 have hun := (kdep hi).1
 have hst := Stp.of_below hs
 refine ⟨h.sats hi hst hv (fun _ _ => rfl) hn, fun x y hx hy lx ly => ?_, fun x hx lx => ?_, fun m hmm lm => ?_, fun l0 => ?_, h.ref' hi, h.cmp' hi, h.rfp' hi, by simp [h.sz], h.bw.trans (hs.mono h.bw.size)⟩
 ·exact h.inj x y hx hy ((set_off (isNum_off hx hm h0)).1 lx) ((set_off (isNum_off hy hm h0)).1 ly)
 ·have := h.low x hx ((set_off (isNum_off hx hm h0)).1 lx)
  exact ⟨this.1, Nat.lt_of_lt_of_le this.2 hs.size⟩
 ·obtain ⟨n, g, h1, h2, h3⟩ := h.mi m hmm ((set_off (isNum_off (.inr hmm) hm h0)).1 lm)
  have hw := waits_set' hun
  exact ⟨n, g, h1.below hs h1.lt, by omega, h3.keep hst (fun x j hj e => by subst e; rw [insOp_isIns hj] at hq; cases hq)⟩
 ·obtain ⟨n, g, h1, h2, h3⟩ := h.mm ((set_off h0).1 l0)
  have hw := waits_set' hun
  exact ⟨n, g, h1.below hs h1.lt, by omega, h3.keep (fun _ _ _ _ => rfl) (fun x j hj e => by subst e; rw [putOp_isPt hj] at hp; cases hp)⟩
theorem KB.put_ref (h : KB w E L a W B) {x : Int} {j : Nat} (hj : putOp x = some j) (hl : L.getD j false = true) : L.getD 0 false = true := by
 obtain ⟨k, v, hc, _⟩ := putOp_kind hj
 exact h.ref j hl 0 (by unfold krefs; rw [hc])
end
section
variable {w W W' : World} {E : Nat → Value} {L : Array Bool} {a a' : Act} {B B' : Nat → Nat} {i : Nat} {b : Option Nat}
def newB (B : Nat → Nat) (i g : Nat) : Nat → Nat := fun j => if j = i then g else B j
theorem newB_other {g m : Nat} (h : m ≠ i) : newB B i g m = B m := by simp [newB, h]
theorem KB.off (hun : L.getD i true = false) {m : Nat} (h : L.getD m false = true) : m ≠ i := by
 rintro rfl
 rw [getD_off hun] at h; cases h
theorem KB.nmv (h : KB w E L a W B) (hun : L.getD i true = false) {g : Nat} {x : Int} {j : Nat} (hj : putOp x = some j) (hl : L.getD j false = true) : Go.Proofs.YtbkmhmaldljgmaaGreatDoor.nmv E (newB B i g) x.toNat = Go.Proofs.YtbkmhmaldljgmaaGreatDoor.nmv E B x.toNat :=
 nmv_congr fun m hm => newB_other (KB.off hun (h.rfp x j hj hl m hm))
theorem KB.made (h : KB w E L a W B) (hi : i ∈ Region.ready .any kOps L) (hs : Below W.heap.size W W') {g : Nat} (hg : W.heap.size ≤ g) (hgl : g < W'.heap.size) (hp : isPt i = false) (hins : ∀ m v key p q, kc i ≠ .ins m v key p q)
 (hv : ∀ j, j < 123 → j ≠ i → L.getD j false = true → (kdst j).isSome = true → a'.eval (.tmp (kslot j)) = a.eval (.tmp (kslot j))) (hn : i < 123 → Sat E (newB B i g) W' i (a'.eval (.tmp (kslot i))))
 (hmi : isNum i = true → ∃ n f, Mp 3 keyI W' g n f ∧ n ≤ 1 ∧ Cont W' (L.setIfInBounds i true) i f)
 (hmm : i = 0 → ∃ f, Mp 3 keyI W' g 0 f ∧ Main E (newB B i g) (L.setIfInBounds i true) f) : KB w E (L.setIfInBounds i true) a' W' (newB B i g) := by
 have hun := (kdep hi).1
 have hst := Stp.of_below hs
 have hB : ∀ m, L.getD m false = true → newB B i g m = B m := fun m hm => newB_other (KB.off hun hm)
 have hwl : waits (L.setIfInBounds i true).toList < waits L.toList := waits_set' hun
 have hwt : waits L.toList ≤ 124 := by have := waits_le L.toList; rw [Array.length_toList, h.sz] at this; exact this
 have old : ∀ m, m ≠ i → (L.setIfInBounds i true).getD m false = true → L.getD m false = true := fun m e hl => getD_dn (fun x => e x.symm) hl
 refine ⟨h.sats hi hst hv hB hn, fun x y hx hy lx ly he => ?_, fun x hx lx => ?_, fun m hmm' lm => ?_, fun l0 => ?_, h.ref' hi, h.cmp' hi, h.rfp' hi, by simp [h.sz], h.bw.trans (hs.mono h.bw.size)⟩
 ·by_cases ex : x = i
  ·by_cases ey : y = i
   ·rw [ex, ey]
   ·rw [ex, newB_other ey, show newB B i g i = g from by simp [newB]] at he
    have := (h.low y hy (old y ey ly)).2
    omega
  ·by_cases ey : y = i
   ·rw [ey, newB_other ex, show newB B i g i = g from by simp [newB]] at he
    have := (h.low x hx (old x ex lx)).2
    omega
   ·rw [newB_other ex, newB_other ey] at he
    exact h.inj x y hx hy (old x ex lx) (old y ey ly) he
 ·by_cases ex : x = i
  ·rw [ex, show newB B i g i = g from by simp [newB]]
   exact ⟨Nat.le_trans h.bw.size hg, hgl⟩
  ·rw [newB_other ex]
   have := h.low x hx (old x ex lx)
   exact ⟨this.1, Nat.lt_of_lt_of_le this.2 hs.size⟩
 ·by_cases ex : m = i
  ·subst ex
   obtain ⟨n, f, h1, h2, h3⟩ := hmi hmm'
   exact ⟨n, f, by rw [show newB B m g m = g from by simp [newB]]; exact h1, by omega, h3⟩
  ·obtain ⟨n, f, h1, h2, h3⟩ := h.mi m hmm' (old m ex lm)
   refine ⟨n, f, by rw [newB_other ex]; exact h1.below hs h1.lt, by omega, h3.keep hst (fun x j hj e => ?_)⟩
   subst e
   rcases insOp_kind hj with ⟨v, key, p, q, hc, _⟩ | ⟨f', k, hc, e2, _⟩
   ·exact hins _ _ _ _ _ hc
   ·exact ex e2.symm
 ·by_cases e0 : i = 0
  ·obtain ⟨f, h1, h2⟩ := hmm e0
   subst e0
   exact ⟨0, f, by rw [show newB B 0 g 0 = g from by simp [newB]]; exact h1, by omega, h2⟩
  ·obtain ⟨n, f, h1, h2, h3⟩ := h.mm (old 0 (fun e => e0 e.symm) l0)
   refine ⟨n, f, by rw [newB_other (fun e => e0 e.symm)]; exact h1.below hs h1.lt, by omega, h3.keep (fun x j hj hl => h.nmv hun hj hl) (fun x j hj e => ?_)⟩
   subst e
   rw [putOp_isPt hj] at hp; cases hp
theorem KB.ins (h : KB w E L a W B) (hi : i ∈ Region.ready .any kOps L) {m v key : Nat} {p q : Bool} (hc : kc i = .ins m v key p q) {x : Value} (hx : CloAt W x p q) {n : Nat} {f f' : Int → Option Value} (hw : n + waits L.toList ≤ 124) (hcf : Cont W L m f) (hM : Mp 3 keyI W' (B m) (n + 1) f')
 (f1 : f' key = some x) (f2 : ∀ y : Int, y ≠ key → f' y = f y) (ht : W.mapTurned W' (B m))
 (hv : ∀ j, j < 123 → j ≠ i → L.getD j false = true → (kdst j).isSome = true → a'.eval (.tmp (kslot j)) = a.eval (.tmp (kslot j))) : KB w E (L.setIfInBounds i true) a' W' B := by
 obtain ⟨hun, hlt, _, hd⟩ := kdep hi
 have hm : L.getD m false = true := hd m (by unfold kdeps; rw [hc]; simp)
 have hk := all_range kchk_eq hlt
 unfold kchk at hk
 rw [hc] at hk
 simp only [Bool.and_eq_true, beq_iff_eq] at hk
 have hio := hk.1.1.1
 have hnm := hk.1.1.2
 have hst : Stp (some (B m)) W W' := ⟨by rw [turned_size ht]; exact Nat.le_refl _, fun j _ hj => turned_other ht (fun e => hj (by rw [e])), fun j e => by
  injection e with e; subst e
  obtain ⟨es, c, _, _, h1, _⟩ := ht
  exact ⟨es, c, h1⟩⟩
 have hlow := h.low m (.inr hnm) hm
 have hi0 : isNum i = false := by unfold isNum; rw [hc]
 have hne : i ≠ 0 := by rintro rfl; exact absurd hc (by unfold kc; simp [kcls])
 have old : ∀ y, (y = 0 ∨ isNum y = true) → (L.setIfInBounds i true).getD y false = true → L.getD y false = true := fun y hy hl => (set_off (isNum_off hy hi0 hne)).1 hl
 have hbl : Below w.heap.size w W' := h.bw.trans (turned_below ht hlow.1)
 refine ⟨h.sats hi hst hv (fun _ _ => rfl) (fun _ => by unfold Sat; rw [hc]; trivial), fun y z hy hz ly lz => h.inj y z hy hz (old y hy ly) (old z hz lz), fun y hy ly => by rw [turned_size ht]; exact h.low y hy (old y hy ly), fun m' hm' lm' => ?_, fun l0 => ?_, h.ref' hi, h.cmp' hi, h.rfp' hi, by simp [h.sz], hbl⟩
 ·have lm := old m' (.inr hm') lm'
  by_cases e : m' = m
  ·subst e
   refine ⟨n + 1, f', hM, waits_step hun hw, fun y => ?_⟩
   by_cases ey : y = key
   ·subst ey
    refine ⟨fun h0 => (by rw [hio] at h0; cases h0), fun j hj => ?_⟩
    rw [hio] at hj
    injection hj with hj
    subst hj
    refine ⟨fun h0 => (not_on h0 (getD_set_same hun)).elim, fun _ => ⟨x, f1, ?_⟩⟩
    unfold kflag
    rw [hc]
    exact hx.stp hst
   ·refine ⟨fun h0 => by rw [f2 y ey]; exact (hcf y).1 h0, fun j hj => ?_⟩
    have e : i ≠ j := by
     rintro rfl
     rcases insOp_kind hj with ⟨_, _, _, _, hc', e⟩ | ⟨_, _, hc', _⟩
     ·rw [hc] at hc'; injection hc' with _ _ e2 _ _; exact ey (by rw [e, e2])
     ·rw [hc] at hc'; cases hc'
    refine ⟨fun h0 => by rw [f2 y ey]; exact ((hcf y).2 j hj).1 ((set_off e).1 h0), fun h0 => ?_⟩
    obtain ⟨u, h1, h2⟩ := ((hcf y).2 j hj).2 ((set_off e).1 h0)
    exact ⟨u, by rw [f2 y ey]; exact h1, h2.stp hst⟩
  ·obtain ⟨n', g, h1, h2, h3⟩ := h.mi m' hm' lm
   have hne2 : B m' ≠ B m := fun e2 => e (h.inj _ _ (.inr hm') (.inr hnm) lm hm e2)
   have hwl := waits_set' hun
   refine ⟨n', g, h1.kept (turned_other ht hne2), by omega, h3.keep hst (fun y j hj e2 => ?_)⟩
   subst e2
   rcases insOp_kind hj with ⟨_, _, _, _, hc', _⟩ | ⟨_, _, hc', _⟩
   ·rw [hc] at hc'; injection hc' with e3; exact e e3.symm
   ·rw [hc] at hc'; cases hc'
 ·have l00 := old 0 (.inl rfl) l0
  obtain ⟨n', g, h1, h2, h3⟩ := h.mm l00
  have hne2 : B 0 ≠ B m := fun e2 => by
   have e3 := h.inj _ _ (.inl rfl) (.inr hnm) l00 hm e2
   rw [← e3] at hnm
   exact absurd hnm (by unfold isNum kc; simp [kcls])
  have hwl := waits_set' hun
  refine ⟨n', g, h1.kept (turned_other ht hne2), by omega, h3.keep (fun _ _ _ _ => rfl) (fun y j hj e2 => ?_)⟩
  subst e2
  obtain ⟨_, _, hc', _⟩ := putOp_kind hj
  rw [hc] at hc'; cases hc'
theorem KB.pt (h : KB w E L a W B) (hi : i ∈ Region.ready .any kOps L) {k v : Nat} (hc : kc i = .pt k v) {n : Nat} {f f' : Int → Option Value} (hw : n + waits L.toList ≤ 124) (hcf : Main E B L f) (hM : Mp 3 keyI W' (B 0) (n + 1) f')
 (f1 : f' k = some (kst k (kcode k) (Go.Proofs.YtbkmhmaldljgmaaGreatDoor.nmv E B k))) (f2 : ∀ y : Int, y ≠ k → f' y = f y) (ht : W.mapTurned W' (B 0))
 (hv : ∀ j, j < 123 → j ≠ i → L.getD j false = true → (kdst j).isSome = true → a'.eval (.tmp (kslot j)) = a.eval (.tmp (kslot j))) : KB w E (L.setIfInBounds i true) a' W' B := by
 obtain ⟨hun, hlt, _, hd⟩ := kdep hi
 have hm : L.getD 0 false = true := hd 0 (by unfold kdeps; rw [hc]; simp)
 obtain ⟨hio, _, _, _, _⟩ := pt_chk hlt hc
 have hst : Stp (some (B 0)) W W' := ⟨by rw [turned_size ht]; exact Nat.le_refl _, fun j _ hj => turned_other ht (fun e => hj (by rw [e])), fun j e => by
  injection e with e; subst e
  obtain ⟨es, c, _, _, h1, _⟩ := ht
  exact ⟨es, c, h1⟩⟩
 have hlow := h.low 0 (.inl rfl) hm
 have hi0 : isNum i = false := by unfold isNum; rw [hc]
 have hne : i ≠ 0 := by rintro rfl; exact absurd hc (by unfold kc; simp [kcls])
 have old : ∀ y, (y = 0 ∨ isNum y = true) → (L.setIfInBounds i true).getD y false = true → L.getD y false = true := fun y hy hl => (set_off (isNum_off hy hi0 hne)).1 hl
 have hbl : Below w.heap.size w W' := h.bw.trans (turned_below ht hlow.1)
 refine ⟨h.sats hi hst hv (fun _ _ => rfl) (fun _ => by unfold Sat; rw [hc]; trivial), fun y z hy hz ly lz => h.inj y z hy hz (old y hy ly) (old z hz lz), fun y hy ly => by rw [turned_size ht]; exact h.low y hy (old y hy ly), fun m' hm' lm' => ?_, fun l0 => ?_, h.ref' hi, h.cmp' hi, h.rfp' hi, by simp [h.sz], hbl⟩
 ·have lm := old m' (.inr hm') lm'
  obtain ⟨n', g, h1, h2, h3⟩ := h.mi m' hm' lm
  have hne2 : B m' ≠ B 0 := fun e2 => by
   have e3 := h.inj _ _ (.inr hm') (.inl rfl) lm hm e2
   rw [e3] at hm'
   exact absurd hm' (by unfold isNum kc; simp [kcls])
  have hwl := waits_set' hun
  refine ⟨n', g, h1.kept (turned_other ht hne2), by omega, h3.keep hst (fun y j hj e2 => ?_)⟩
  subst e2
  have := insOp_isIns hj
  unfold isIns at this
  rw [hc] at this; cases this
 ·refine ⟨n + 1, f', hM, waits_step hun hw, fun y => ?_⟩
  by_cases ey : y = k
  ·subst ey
   refine ⟨fun h0 => (by rw [hio] at h0; cases h0), fun j hj => ?_⟩
   rw [hio] at hj
   injection hj with hj
   subst hj
   exact ⟨fun h0 => (not_on h0 (getD_set_same hun)).elim, fun _ => f1⟩
  ·refine ⟨fun h0 => by rw [f2 y ey]; exact (hcf y).1 h0, fun j hj => ?_⟩
   have e : i ≠ j := by
    rintro rfl
    obtain ⟨_, _, hc', e⟩ := putOp_kind hj
    rw [hc] at hc'; injection hc' with e2 _; exact ey (by rw [e, e2])
   exact ⟨fun h0 => by rw [f2 y ey]; exact ((hcf y).2 j hj).1 ((set_off e).1 h0), fun h0 => by rw [f2 y ey]; exact ((hcf y).2 j hj).2 ((set_off e).1 h0)⟩
end
end Go.Proofs.YtbkmhmaldljgmaaGreatDoor
namespace Go.Proofs.YtbkmhmaldljgmaaGreatDoor
open Go.RowKit Tr Go.Shelf Go.Maps
structure Dep (ops : Array Oper) (L : Array Bool) (i : Nat) (o : Oper) : Prop where
 un : L.getD i true = false
 lt : i < 124
 ho : ops[i]? = some o
 hop : o.op = kop i
 hd : o.dst = kdst i
 hg : o.guard = none
 hdep : ∀ j ∈ kdeps i, L.getD j false = true
theorem kdep' {L : Array Bool} {i : Nat} (hi : i ∈ Region.ready .any kOps L) : ∃ o, Dep kOps L i o :=
 match kdep hi with
 | ⟨a, b, ⟨o, c, d, e, f⟩, g⟩ => ⟨o, ⟨a, b, c, d, e, f, g⟩⟩
structure KJ (w : World) (E : Nat → Value) (b1 b3 : Nat) (L : Array Bool) (a : Act) (W : World) : Prop where
 asz : a.tmps.size = 105
 df : a.defers = []
 v1 : a.eval (.tmp 1) = .pointer (some ⟨b1, 0, none⟩)
 v2 : a.eval (.tmp 2) = E 2
 v3 : a.eval (.tmp 3) = .pointer (some ⟨b3, 0, none⟩)
 v4 : a.eval (.tmp 4) = E 0
 v5 : a.eval (.tmp 5) = E 1
 v6 : a.eval (.tmp 6) = E 5
 kb : ∃ B, KB w E L a W B
 fin : L.getD 123 false = true → a.eval (.tmp 0) = a.eval (.tmp 104)
section
variable {w W W' : World} {E : Nat → Value} {L : Array Bool} {a : Act} {b1 b3 : Nat} {i : Nat} {Q : Exit → Act → World → Prop}
theorem kdst_low (hlt : i < 124) {d : Nat} (h : kdst i = some d) : d = 0 ∧ i = 123 ∨ 15 ≤ d ∧ d < 105 ∧ i < 123 ∧ d = kslot i := by
 by_cases h1 : i = 123
 ·subst h1
  left
  have : kdst 123 = some 0 := by kernel_rfl
  rw [this] at h; injection h with h; exact ⟨h.symm, rfl⟩
 ·right
  have hl : i < 123 := by omega
  have h2 := all_range kslot_eq hl
  have h3 := all_range kslot_pos hl
  simp only [Bool.or_eq_true, beq_iff_eq, Bool.and_eq_true, Option.isNone_iff_eq_none, Nat.blt_eq, Nat.ble_eq] at h2 h3
  have e : d = kslot i := by
   unfold kdst at h
   cases hc : kc i <;> rw [hc] at h <;> simp at h <;> first | exact h.symm | skip
   have hk := all_range kchk_eq hlt
   unfold kchk at hk
   rw [hc] at hk
   simp at hk; omega
  rcases h3 with h3 | h3
  ·rw [h3] at h; cases h
  ·rcases h2 with h2 | h2
   ·omega
   ·exact ⟨by omega, by omega, hl, e⟩
theorem KJ.next (h : KJ w E b1 b3 L a W) (hi : i ∈ Region.ready .any kOps L) (hl : i < 123) {o : Oper} (hd : o.dst = kdst i) {v : Value} (hk : ∃ B, KB w E (L.setIfInBounds i true) (a.put o.dst v) W' B) : KJ w E b1 b3 (L.setIfInBounds i true) (a.put o.dst v) W' := by
 have hun := (kdep hi).1
 have low : ∀ t : Nat, t < 15 → (a.put o.dst v).eval (.tmp t) = a.eval (.tmp t) := by
  intro t ht
  rw [hd]
  cases hk : kdst i with
  | none => rfl
  | some d =>
    refine eval_put_other ?_
    rcases kdst_low (by omega) hk with h1 | h1
    ·omega
    ·omega
 refine ⟨by rw [put_size]; exact h.asz, by rw [put_defers]; exact h.df, (low 1 (by omega)).trans h.v1, (low 2 (by omega)).trans h.v2, (low 3 (by omega)).trans h.v3, (low 4 (by omega)).trans h.v4, (low 5 (by omega)).trans h.v5, (low 6 (by omega)).trans h.v6, hk, fun h0 => ?_⟩
 have h1 := (set_off (show i ≠ 123 by omega)).1 h0
 rw [low 0 (by omega), h.fin h1]
 by_cases e : i = 122
 ·subst e
  obtain ⟨B, hB⟩ := h.kb
  have hq := hB.ref 123 h1 122 (by kernel_rfl)
  rw [getD_off hun] at hq; cases hq
 ·have h122 : kslot 122 = 104 := by kernel_rfl
  have := put_eval (v := v) hd h.asz hl 122 (by omega) (fun x => e x.symm) (by kernel_rfl)
  rw [h122] at this
  exact this.symm
theorem KJ.quietB (h : KJ w E b1 b3 L a W) {B : Nat → Nat} (hB : KB w E L a W B) (hi : i ∈ Region.ready .any kOps L) (hl : i < 123) {o : Oper} (hd : o.dst = kdst i) (hs : Below W.heap.size W W') (hm : isNum i = false) (h0 : i ≠ 0) (hq : isIns i = false) (hp : isPt i = false) (hsl : (kdst i).isSome = true) {v : Value} (hv : Sat E B W' i v) :
 KJ w E b1 b3 (L.setIfInBounds i true) (a.put o.dst v) W' :=
 h.next hi hl hd ⟨B, hB.quiet hi hs hm h0 hq hp (fun j hj hne _ hds => put_eval hd h.asz hl j hj hne hds) (fun _ => by rw [put_own hd h.asz hl hsl]; exact hv)⟩
theorem KJ.quiet (h : KJ w E b1 b3 L a W) (hi : i ∈ Region.ready .any kOps L) (hl : i < 123) {o : Oper} (hd : o.dst = kdst i) (hs : Below W.heap.size W W') (hm : isNum i = false) (h0 : i ≠ 0) (hq : isIns i = false) (hp : isPt i = false) (hsl : (kdst i).isSome = true) {v : Value} (hv : ∀ B, KB w E L a W B → Sat E B W' i v) :
 KJ w E b1 b3 (L.setIfInBounds i true) (a.put o.dst v) W' := by
 obtain ⟨B, hB⟩ := h.kb
 exact h.quietB hB hi hl hd hs hm h0 hq hp hsl (hv B hB)
theorem one_load {W : World} {t t' : TypeId} {g : Nat} {v : Value} (h : W.heap[g]? = some (.cells #[v] t' (0, 0))) (hr : ∀ c, W.cell? ⟨g, 0, none⟩ = some c → (Instr.loadAt t (.pointer (some ⟨g, 0, none⟩))).run Tryz.prog W = .ok c W) : (Instr.loadAt t (.pointer (some ⟨g, 0, none⟩))).run Tryz.prog W = .ok v W := by
 have hc := Lib.cell_of_heap h 0
 exact hr v (by simpa using hc)
theorem load_lim {W : World} {g : Nat} {c : Value} (hc : W.cell? ⟨g, 0, none⟩ = some c) : (Instr.loadAt 287 (.pointer (some ⟨g, 0, none⟩))).run Tryz.prog W = .ok c W := by
 simp [go_sem, Instr.loadAt, hc]
theorem load_fn {W : World} {g : Nat} {c : Value} (hc : W.cell? ⟨g, 0, none⟩ = some c) : (Instr.loadAt 289 (.pointer (some ⟨g, 0, none⟩))).run Tryz.prog W = .ok c W := by
 simp [go_sem, Instr.loadAt, hc]
variable {bt nt : Nat} {ht : Int → Option Value}
theorem hid_heap (hE : KE w E b1 b3 bt nt ht) (hb : Below w.heap.size w W) : W.heap[b1]? = some (.cells #[E 3] 287 (0, 0)) ∧ W.heap[b3]? = some (.cells #[E 4] 289 (0, 0)) :=
 ⟨(hb.block _ (Array.getElem?_eq_some_iff.1 hE.x1).1).trans hE.x1, (hb.block _ (Array.getElem?_eq_some_iff.1 hE.x3).1).trans hE.x3⟩
theorem st_cl (hE : KE w E b1 b3 bt nt ht) (h : KJ w E b1 b3 L a W) (hi : i ∈ Region.ready .any kOps L) {ops : Array Oper} {o : Oper} (D : Dep ops L i o) {v : Nat} (hc : kc i = .cl v) : wpOp Tryz.prog ops Q i (KJ w E b1 b3 (L.setIfInBounds i true)) a W := by
 have hun := D.un
 have hlt := D.lt
 have ho := D.ho
 have hop := D.hop
 have hd := D.hd
 have hg := D.hg
 have hdep := D.hdep
 have hk := all_range kchk_eq hlt
 unfold kchk at hk
 rw [hc] at hk
 simp only [Nat.ble_eq] at hk
 have hl : i < 123 := by
  rcases Nat.lt_or_ge i 123 with h | h
  ·exact h
  ·have : i = 123 := by omega
   subst this
   have e : kc 123 = .e2 := by kernel_rfl
   rw [e] at hc; cases hc
 have hne : i ≠ 0 := by
  rintro rfl
  have e : kc 0 = .m0 := by kernel_rfl
  rw [e] at hc; cases hc
 have fin : KJ w E b1 b3 (L.setIfInBounds i true) (a.put o.dst (E v)) W :=
  h.quiet hi hl hd (Below.refl _ _) (by unfold isNum; rw [hc]) hne (by unfold isIns; rw [hc]) (by unfold isPt; rw [hc]) (by unfold kdst; rw [hc]; rfl) (fun B hB => by unfold Sat; rw [hc])
 obtain ⟨B, hB⟩ := h.kb
 obtain ⟨g1, g3⟩ := hid_heap hE hB.bw
 unfold kop at hop
 rw [hc] at hop
 rcases (show v = 0 ∨ v = 1 ∨ v = 2 ∨ v = 3 ∨ v = 4 ∨ v = 5 from by omega) with rfl | rfl | rfl | rfl | rfl | rfl
 ·exact wpOp_value ho hg (by rw [exec_move hop, h.v4]) fin
 ·exact wpOp_value ho hg (by rw [exec_move hop, h.v5]) fin
 ·exact wpOp_value ho hg (by rw [exec_move hop, h.v2]) fin
 ·exact wpOp_value ho hg (exec_load hop h.v1 (one_load g1 fun c hc => load_lim hc)) fin
 ·exact wpOp_value ho hg (exec_load hop h.v3 (one_load g3 fun c hc => load_fn hc)) fin
 ·exact wpOp_value ho hg (by rw [exec_move hop, h.v6]) fin
theorem kc_lt {x : KC} (hlt : i < 124) (hc : kc i = x) (h0 : x ≠ .m0) (h2 : x ≠ .e2) : i < 123 ∧ i ≠ 0 := by
 refine ⟨?_, ?_⟩
 ·rcases Nat.lt_or_ge i 123 with h | h
  ·exact h
  ·have : i = 123 := by omega
   subst this
   have e : kc 123 = .e2 := by kernel_rfl
   rw [e] at hc; exact absurd hc.symm h2
 ·rintro rfl
  have e : kc 0 = .m0 := by kernel_rfl
  rw [e] at hc; exact absurd hc.symm h0
theorem mk_of {m : Nat} (h : (match kc m with | .mk => true | _ => false) = true) : kc m = .mk := by
 cases hc : kc m <;> rw [hc] at h <;> first | rfl | cases h
theorem KB.mapv {B : Nat → Nat} (h : KB w E L a W B) {m : Nat} (hc : kc m = .mk) (hlt : m < 123) (hm : L.getD m false = true) : a.eval (.tmp (kslot m)) = .map (some (B m)) := by
 have := h.sat m hlt hm
 unfold Sat at this
 rw [hc] at this
 exact this
theorem KB.lt {B : Nat → Nat} (h : KB w E L a W B) {m : Nat} (hm : L.getD m false = true) : m < 124 := by
 have := getD_lt hm
 rw [h.sz] at this; exact this
theorem KB.lt' {B : Nat → Nat} (h : KB w E L a W B) {m : Nat} (hm : L.getD m false = true) {x : KC} (hc : kc m = x) (h2 : x ≠ .e2) : m < 123 := by
 have h1 := h.lt hm
 rcases Nat.lt_or_ge m 123 with h3 | h3
 ·exact h3
 ·have : m = 123 := by omega
  subst this
  have e : kc 123 = .e2 := by kernel_rfl
  rw [e] at hc; exact absurd hc.symm h2
theorem st_mv (h : KJ w E b1 b3 L a W) (hi : i ∈ Region.ready .any kOps L) {ops : Array Oper} {o : Oper} (D : Dep ops L i o) {m : Nat} (hc : kc i = .mv m) : wpOp Tryz.prog ops Q i (KJ w E b1 b3 (L.setIfInBounds i true)) a W := by
 have hun := D.un
 have hlt := D.lt
 have ho := D.ho
 have hop := D.hop
 have hd := D.hd
 have hg := D.hg
 have hdep := D.hdep
 obtain ⟨hl, hne⟩ := kc_lt hlt hc (by simp) (by simp)
 have hk := all_range kchk_eq hlt
 unfold kchk at hk
 rw [hc] at hk
 have hm : L.getD m false = true := hdep m (by unfold kdeps; rw [hc]; simp)
 unfold kop at hop
 rw [hc] at hop
 refine wpOp_value ho hg (exec_move hop) (h.quiet hi hl hd (Below.refl _ _) (by unfold isNum; rw [hc]) hne (by unfold isIns; rw [hc]) (by unfold isPt; rw [hc]) (by unfold kdst; rw [hc]; rfl) (fun B hB => ?_))
 unfold Sat
 rw [hc]
 exact hB.mapv (mk_of hk) (hB.lt' hm (mk_of hk) (by simp)) hm
theorem st_e1 (h : KJ w E b1 b3 L a W) (hi : i ∈ Region.ready .any kOps L) {ops : Array Oper} {o : Oper} (D : Dep ops L i o) (hc : kc i = .e1) : wpOp Tryz.prog ops Q i (KJ w E b1 b3 (L.setIfInBounds i true)) a W := by
 have hun := D.un
 have hlt := D.lt
 have ho := D.ho
 have hop := D.hop
 have hd := D.hd
 have hg := D.hg
 have hdep := D.hdep
 obtain ⟨hl, hne⟩ := kc_lt hlt hc (by simp) (by simp)
 have hm : L.getD 0 false = true := hdep 0 (by unfold kdeps; rw [hc]; simp)
 unfold kop at hop
 rw [hc] at hop
 refine wpOp_value ho hg (exec_move hop) (h.quiet hi hl hd (Below.refl _ _) (by unfold isNum; rw [hc]) hne (by unfold isIns; rw [hc]) (by unfold isPt; rw [hc]) (by unfold kdst; rw [hc]; rfl) (fun B hB => ?_))
 unfold Sat
 rw [hc]
 have := hB.sat 0 (by omega) hm
 unfold Sat at this
 have e : kc 0 = .m0 := by kernel_rfl
 rw [e] at this
 have e2 : kslot 0 = 15 := by kernel_rfl
 rw [e2] at this
 exact this
theorem st_e2 (h : KJ w E b1 b3 L a W) (hi : i ∈ Region.ready .any kOps L) {ops : Array Oper} {o : Oper} (D : Dep ops L i o) (hc : kc i = .e2) : wpOp Tryz.prog ops Q i (KJ w E b1 b3 (L.setIfInBounds i true)) a W := by
 have hun := D.un
 have hlt := D.lt
 have ho := D.ho
 have hop := D.hop
 have hd := D.hd
 have hg := D.hg
 have hdep := D.hdep
 have hk := all_range kchk_eq hlt
 unfold kchk at hk
 rw [hc] at hk
 simp only [beq_iff_eq] at hk
 subst hk
 have e0 : kdst 123 = some 0 := by kernel_rfl
 unfold kop at hop
 rw [hc] at hop
 refine wpOp_value ho hg (exec_assign hop) ?_
 rw [hd, e0]
 have low : ∀ t : Nat, t ≠ 0 → (a.put (some 0) (a.eval (.tmp 104))).eval (.tmp t) = a.eval (.tmp t) := fun t ht => eval_put_other (fun e => ht e.symm)
 obtain ⟨B, hB⟩ := h.kb
 refine ⟨by rw [put_size]; exact h.asz, by rw [put_defers]; exact h.df, (low 1 (by omega)).trans h.v1, (low 2 (by omega)).trans h.v2, (low 3 (by omega)).trans h.v3, (low 4 (by omega)).trans h.v4, (low 5 (by omega)).trans h.v5, (low 6 (by omega)).trans h.v6, ⟨B, ?_⟩, fun _ => ?_⟩
 ·refine hB.quiet hi (Below.refl _ _) (by kernel_rfl) (by omega) (by kernel_rfl) (by kernel_rfl) (fun j hj _ _ hds => low _ (fun e => ?_)) (fun h => absurd h (by omega))
  have h3 := all_range kslot_pos hj
  simp only [Bool.or_eq_true, Option.isNone_iff_eq_none, Nat.blt_eq] at h3
  rcases h3 with h3 | h3
  ·rw [h3] at hds; cases hds
  ·omega
 ·rw [low 104 (by omega)]
  exact eval_put_same (by rw [h.asz]; omega)
theorem st_bt (h : KJ w E b1 b3 L a W) (hi : i ∈ Region.ready .any kOps L) {ops : Array Oper} {o : Oper} (D : Dep ops L i o) (hc : kc i = .bt) : wpOp Tryz.prog ops Q i (KJ w E b1 b3 (L.setIfInBounds i true)) a W := by
 have hun := D.un
 have hlt := D.lt
 have ho := D.ho
 have hop := D.hop
 have hd := D.hd
 have hg := D.hg
 have hdep := D.hdep
 obtain ⟨hl, hne⟩ := kc_lt hlt hc (by simp) (by simp)
 unfold kop at hop
 rw [hc] at hop
 refine wpOp_enter ho hg (f := 245) (args := #[.bool false, .bool true]) (w' := W) (by rw [exec_call_fn hop]; kernel_rfl) ((between_any false true W).mono ?_)
 rintro e wn ⟨v, rfl, hcl, hb⟩
 refine ⟨v, rfl, h.quiet hi hl hd hb (by unfold isNum; rw [hc]) hne (by unfold isIns; rw [hc]) (by unfold isPt; rw [hc]) (by unfold kdst; rw [hc]; rfl) (fun B hB => ?_)⟩
 unfold Sat
 rw [hc]
 exact hcl
theorem st_ins (hE : KE w E b1 b3 bt nt ht) (h : KJ w E b1 b3 L a W) (hi : i ∈ Region.ready .any kOps L) {ops : Array Oper} {o : Oper} (D : Dep ops L i o) {m v key : Nat} {p q : Bool} (hc : kc i = .ins m v key p q) : wpOp Tryz.prog ops Q i (KJ w E b1 b3 (L.setIfInBounds i true)) a W := by
 have hun := D.un
 have hlt := D.lt
 have ho := D.ho
 have hop := D.hop
 have hd := D.hd
 have hg := D.hg
 have hdep := D.hdep
 obtain ⟨hl, hne⟩ := kc_lt hlt hc (by simp) (by simp)
 have hk := all_range kchk_eq hlt
 unfold kchk at hk
 rw [hc] at hk
 simp only [Bool.and_eq_true, beq_iff_eq, Bool.or_eq_true, Bool.not_eq_true'] at hk
 obtain ⟨⟨⟨hio, hnm⟩, hmk⟩, hvv⟩ := hk
 have hmk' := mk_of hmk
 have hm : L.getD m false = true := hdep m (by unfold kdeps; rw [hc]; simp)
 have hv : L.getD v false = true := hdep v (by unfold kdeps; rw [hc]; simp)
 obtain ⟨B, hB⟩ := h.kb
 have hmv := hB.mapv hmk' (hB.lt' hm hmk' (by simp)) hm
 have hx : CloAt W (a.eval (.tmp (kslot v))) p q := by
  have hvl := hB.lt hv
  have hv2 : ∀ x, kc v = x → kval v ≠ 99 → v < 123 := fun x hx hne => hB.lt' hv hx (by rintro rfl; unfold kval at hne; rw [hx] at hne; exact hne rfl)
  have hsv := fun hl => hB.sat v hl hv
  unfold Sat at hsv
  unfold kval at hvv hv2
  cases hcv : kc v <;> rw [hcv] at hvv hsv hv2 <;> simp at hvv
  ·have := hsv (hv2 _ rfl (by simp))
   rw [hvv.1, hvv.2]; exact this
  ·rename_i y
   have := hsv (hv2 _ rfl (by simp; omega))
   simp only at this
   rcases hvv with (h1 | h1) | h1
   ·rw [this, h1.1.1, h1.1.2, h1.2]; exact hE.e2.stp (Stp.of_below hB.bw)
   ·rw [this, h1.1.1, h1.1.2, h1.2]; exact hE.e3.stp (Stp.of_below hB.bw)
   ·have hk2 := all_range kchk_eq hvl
    unfold kchk at hk2
    rw [hcv] at hk2
    simp at hk2; omega
 obtain ⟨n, f, hM, hw, hcf⟩ := hB.mi m hnm hm
 have hkey := insOp_key hio
 obtain ⟨W', hr, hM', htn⟩ := hM.put (key := .int .i64 key) (val := a.eval (.tmp (kslot v))) (j := (key : Int)) (e := 287) (t := 245) (int_keyed Tryz.underlying3) Tryz.underlying245 (by unfold maxLen; omega) keyI_inj
  (keyOf_int_mk Tryz.underlying3 (wf_i64 (by omega) (by omega))) (f' := fun y => if y = (key : Int) then some (a.eval (.tmp (kslot v))) else f y) (by simp) (fun y hy => by simp [hy])
 unfold kop at hop
 rw [hc] at hop
 refine wpOp_skip ho hg (exec_insert hop hmv rfl rfl hr) (h.next hi hl hd ⟨B, hB.ins hi hc hx hw hcf hM' (by simp) (fun y hy => by simp [hy]) htn (fun j hj hne _ hds => put_eval hd h.asz hl j hj hne hds)⟩)
end
end Go.Proofs.YtbkmhmaldljgmaaGreatDoor
namespace Go.Proofs.YtbkmhmaldljgmaaGreatDoor
open Go.RowKit Tr Go.Shelf Go.Maps
section
variable {w W W' : World} {E : Nat → Value} {L : Array Bool} {a : Act} {b1 b3 : Nat} {i : Nat} {Q : Exit → Act → World → Prop} {bt nt : Nat} {ht : Int → Option Value}
theorem below_alloc (W : World) (o : Obj) : Below W.heap.size W (W.alloc o) := (Below.refl _ W).alloc (Nat.le_refl _) o
theorem st_mk (h : KJ w E b1 b3 L a W) (hi : i ∈ Region.ready .any kOps L) {ops : Array Oper} {o : Oper} (D : Dep ops L i o) (hc : kc i = .mk) : wpOp Tryz.prog ops Q i (KJ w E b1 b3 (L.setIfInBounds i true)) a W := by
 have hun := D.un
 have hlt := D.lt
 have ho := D.ho
 have hop := D.hop
 have hd := D.hd
 have hg := D.hg
 have hdep := D.hdep
 obtain ⟨hl, hne⟩ := kc_lt hlt hc (by simp) (by simp)
 obtain ⟨B, hB⟩ := h.kb
 unfold kop at hop
 rw [hc] at hop
 refine wpOp_value ho hg (exec_makeMap hop) (h.next hi hl hd ⟨newB B i W.heap.size, hB.made hi (below_alloc _ _) (Nat.le_refl _) (by simp) (by unfold isPt; rw [hc]) (fun m v key p q e => by rw [hc] at e; cases e) (fun j hj hne _ hds => put_eval hd h.asz hl j hj hne hds) (fun _ => ?_) (fun _ => ?_) (fun e => absurd e hne)⟩)
 ·rw [put_own hd h.asz hl (by unfold kdst; rw [hc]; rfl)]
  unfold Sat
  rw [hc]
  simp [newB]
 ·refine ⟨0, fun _ => none, Mp.made W _ _, by omega, fun x => ⟨fun _ => rfl, fun j hj => ⟨fun _ => rfl, fun hlj => ?_⟩⟩⟩
  exfalso
  rcases insOp_kind hj with ⟨v, key, p, q, hcj, _⟩ | ⟨f, k, hcj, rfl, _⟩
  ·have hji : i ≠ j := by rintro rfl; rw [hc] at hcj; cases hcj
   have := hB.ref j ((set_off hji).1 hlj) i (by unfold krefs; rw [hcj])
   rw [getD_off hun] at this; cases this
  ·rw [hc] at hcj; cases hcj
theorem st_m0 (h : KJ w E b1 b3 L a W) (hi : i ∈ Region.ready .any kOps L) {ops : Array Oper} {o : Oper} (D : Dep ops L i o) (hc : kc i = .m0) : wpOp Tryz.prog ops Q i (KJ w E b1 b3 (L.setIfInBounds i true)) a W := by
 have hun := D.un
 have hlt := D.lt
 have ho := D.ho
 have hop := D.hop
 have hd := D.hd
 have hg := D.hg
 have hdep := D.hdep
 have hk := all_range kchk_eq hlt
 unfold kchk at hk
 rw [hc] at hk
 simp only [beq_iff_eq] at hk
 subst hk
 obtain ⟨B, hB⟩ := h.kb
 unfold kop at hop
 rw [hc] at hop
 refine wpOp_value ho hg (exec_makeMap hop) (h.next hi (by omega) hd ⟨newB B 0 W.heap.size, hB.made hi (below_alloc _ _) (Nat.le_refl _) (by simp) (by unfold isPt; rw [hc]) (fun m v key p q e => by rw [hc] at e; cases e) (fun j hj hne _ hds => put_eval hd h.asz (by omega) j hj hne hds) (fun _ => ?_) (fun e => ?_) (fun e => ?_)⟩)
 ·rw [put_own hd h.asz (by omega) (by unfold kdst; rw [hc]; rfl)]
  unfold Sat
  rw [hc]
  simp [newB]
 ·exfalso; unfold isNum at e; rw [hc] at e; cases e
 ·refine ⟨fun _ => none, Mp.made W _ _, fun x => ⟨fun _ => rfl, fun j hj => ⟨fun _ => rfl, fun hlj => ?_⟩⟩⟩
  exfalso
  have hji : (0 : Nat) ≠ j := by
   rintro rfl
   obtain ⟨k, v, hcj, _⟩ := putOp_kind hj
   rw [hc] at hcj; cases hcj
  have := hB.put_ref hj ((set_off hji).1 hlj)
  rw [getD_off hun] at this; cases this
theorem build1 (x : Int) (W : World) : (Instr.buildSlice 66 1 #[(0, .int .i64 x)]).run Tryz.prog W = .ok (.slice (some ⟨W.heap.size, 0, none⟩) 1 1) (W.alloc (.cells #[.int .i64 x] 3)) := by kernel_rfl
theorem build2i (x y : Int) (W : World) : (Instr.buildSlice 66 2 #[(0, .int .i64 x), (1, .int .i64 y)]).run Tryz.prog W = .ok (.slice (some ⟨W.heap.size, 0, none⟩) 2 2) (W.alloc (.cells #[.int .i64 x, .int .i64 y] 3)) := by kernel_rfl
theorem build3i (x y z : Int) (W : World) : (Instr.buildSlice 66 3 #[(0, .int .i64 x), (1, .int .i64 y), (2, .int .i64 z)]).run Tryz.prog W = .ok (.slice (some ⟨W.heap.size, 0, none⟩) 3 3) (W.alloc (.cells #[.int .i64 x, .int .i64 y, .int .i64 z] 3)) := by kernel_rfl
theorem st_sl (h : KJ w E b1 b3 L a W) (hi : i ∈ Region.ready .any kOps L) {ops : Array Oper} {o : Oper} (D : Dep ops L i o) {l : List Nat} (hc : kc i = .sl l) : wpOp Tryz.prog ops Q i (KJ w E b1 b3 (L.setIfInBounds i true)) a W := by
 have hun := D.un
 have hlt := D.lt
 have ho := D.ho
 have hop := D.hop
 have hd := D.hd
 have hg := D.hg
 have hdep := D.hdep
 obtain ⟨hl, hne⟩ := kc_lt hlt hc (by simp) (by simp)
 have hk := all_range kchk_eq hlt
 unfold kchk at hk
 rw [hc] at hk
 simp only [Bool.and_eq_true, Nat.ble_eq, Bool.not_eq_true', List.isEmpty_eq_false_iff] at hk
 unfold kop at hop
 rw [hc] at hop
 have fin : KJ w E b1 b3 (L.setIfInBounds i true) (a.put o.dst (.slice (some ⟨W.heap.size, 0, none⟩) l.length l.length)) (W.alloc (.cells (l.map fun (x : Nat) => Value.int .i64 (x : Int)).toArray 3)) := by
  refine h.quiet hi hl hd (below_alloc _ _) (by unfold isNum; rw [hc]) hne (by unfold isIns; rw [hc]) (by unfold isPt; rw [hc]) (by unfold kdst; rw [hc]; rfl) (fun B hB => ?_)
  unfold Sat
  rw [hc]
  exact ⟨_, rfl, heap_alloc_new W _⟩
 match l, hk, hop, fin with
 | [], hk, _, _ => exact absurd rfl hk.1.2
 | [x], _, hop, fin =>
   have hop' : o.op = .buildSlice 66 1 #[(0, .const (.int .i64 x))] := hop
   exact wpOp_value ho hg (exec_buildSlice hop' (build1 x W)) fin
 | [x, y], _, hop, fin =>
   have hop' : o.op = .buildSlice 66 2 #[(0, .const (.int .i64 x)), (1, .const (.int .i64 y))] := hop
   exact wpOp_value ho hg (exec_buildSlice hop' (build2i x y W)) fin
 | [x, y, z], _, hop, fin =>
   have hop' : o.op = .buildSlice 66 3 #[(0, .const (.int .i64 x)), (1, .const (.int .i64 y)), (2, .const (.int .i64 z))] := hop
   exact wpOp_value ho hg (exec_buildSlice hop' (build3i x y z W)) fin
 | _ :: _ :: _ :: _ :: r, hk, _, _ => simp at hk
theorem clo_val {B : Nat → Nat} (h : KB w E L a W B) {f v : Nat} (hf : L.getD f false = true) (hk : kval f = v) (hv : v ≤ 5) : a.eval (.tmp (kslot f)) = E v := by
 unfold kval at hk
 cases hc : kc f <;> rw [hc] at hk <;> simp at hk
 case cl y =>
  subst hk
  have := h.sat f (h.lt' hf hc (by simp)) hf
  unfold Sat at this
  rw [hc] at this
  exact this
 all_goals omega
theorem st_wc (hE : KE w E b1 b3 bt nt ht) (h : KJ w E b1 b3 L a W) (hi : i ∈ Region.ready .any kOps L) {ops : Array Oper} {o : Oper} (D : Dep ops L i o) {f v k : Nat} (hc : kc i = .wc f v k) : wpOp Tryz.prog ops Q i (KJ w E b1 b3 (L.setIfInBounds i true)) a W := by
 have hun := D.un
 have hlt := D.lt
 have ho := D.ho
 have hop := D.hop
 have hd := D.hd
 have hg := D.hg
 have hdep := D.hdep
 obtain ⟨hl, hne⟩ := kc_lt hlt hc (by simp) (by simp)
 have hk := all_range kchk_eq hlt
 unfold kchk at hk
 rw [hc] at hk
 simp only [Bool.and_eq_true, beq_iff_eq] at hk
 obtain ⟨⟨⟨k1, k2⟩, k3⟩, k4⟩ := hk
 have hf : L.getD f false = true := hdep f (by unfold kdeps; rw [hc]; simp)
 have hv : L.getD v false = true := hdep v (by unfold kdeps; rw [hc]; simp)
 obtain ⟨B, hB⟩ := h.kb
 have e1 := clo_val hB hf k1 (by omega)
 have e2 : a.eval (.tmp (kslot v)) = kst k false (Go.Proofs.YtbkmhmaldljgmaaGreatDoor.nmv E B k) := by
  unfold isCo at k2
  unfold kkind at k3
  cases hcv : kc v <;> rw [hcv] at k2 k3 <;> simp at k2
  simp at k3
  subst k3
  have := hB.sat v (hB.lt' hv hcv (by simp)) hv
  unfold Sat at this
  rw [hcv] at this
  exact this
 unfold kop at hop
 rw [hc] at hop
 obtain ⟨x, hx⟩ : ∃ x, Go.Proofs.YtbkmhmaldljgmaaGreatDoor.nmv E B k = .map x := by
  unfold Go.Proofs.YtbkmhmaldljgmaaGreatDoor.nmv
  cases kmap k
  ·exact ⟨_, rfl⟩
  ·exact ⟨_, hE.e5⟩
  ·exact ⟨_, rfl⟩
 refine wpOp_enter ho hg (f := 248) (args := #[kst k false (.map x)]) (w' := W) (by rw [exec_call_val hop (e1.trans hE.e1)]; show (callFunc _ #[a.eval (.tmp (kslot v))]).run _ _ = _; rw [e2, hx]; kernel_rfl) ((code_any _ _ _ x W).mono ?_)
 rintro e wn ⟨rfl, hb⟩
 refine ⟨_, rfl, h.quietB hB hi hl hd hb (by unfold isNum; rw [hc]) hne (by unfold isIns; rw [hc]) (by unfold isPt; rw [hc]) (by unfold kdst; rw [hc]; rfl) ?_⟩
 unfold Sat
 rw [hc]
 simp only
 rw [hx, k4]
 rfl
theorem KB.numX {B : Nat → Nat} (hE : KE w E b1 b3 bt nt ht) (h : KB w E L a W B) {k : Nat} (hm : ∀ m, kmap k = .op m → isNum m = true ∧ L.getD m false = true ∧ ∀ x j, insOp m x = some j → L.getD j false = true) :
 ∃ x g, Go.Proofs.YtbkmhmaldljgmaaGreatDoor.nmv E B k = .map x ∧ MpX 3 W (.map x) g ∧ (∀ y : Int, g y ≠ none → 4 ≤ y ∧ y ≤ 9) ∧ ∀ f : Nat, f < 13 → (g (f : Int)).isSome = inMap (kmap k) f := by
 unfold Go.Proofs.YtbkmhmaldljgmaaGreatDoor.nmv inMap
 cases hk : kmap k with
 | nil => exact ⟨none, fun _ => none, rfl, .inr ⟨rfl, fun _ => rfl⟩, fun y hy => absurd rfl hy, fun f _ => rfl⟩
 | trade =>
   refine ⟨some bt, ht, hE.e5, .inl ⟨bt, nt, rfl, hE.tr.below h.bw hE.tr.lt⟩, fun y hy => ?_, fun f hf => ?_⟩
   ·refine Classical.byContradiction fun hn => hy (hE.tn y ?_ ?_ ?_) <;> omega
   ·simp only
    rcases (show f = 4 ∨ f = 5 ∨ f = 6 ∨ (f ≠ 4 ∧ f ≠ 5 ∧ f ≠ 6) from by omega) with rfl | rfl | rfl | ⟨h4, h5, h6⟩
    ·rw [show ((4 : Nat) : Int) = 4 from rfl, hE.t4]; rfl
    ·rw [show ((5 : Nat) : Int) = 5 from rfl, hE.t5]; rfl
    ·rw [show ((6 : Nat) : Int) = 6 from rfl, hE.t6]; rfl
    ·rw [hE.tn (f : Int) (by omega) (by omega) (by omega)]
     simp [h4, h5, h6]
 | op m =>
   obtain ⟨h1, h2, h3⟩ := hm m hk
   obtain ⟨n, g, hM, _, hcf⟩ := h.mi m h1 h2
   refine ⟨some (B m), g, rfl, .inl ⟨B m, n, rfl, hM⟩, fun y hy => ?_, fun f _ => ?_⟩
   ·cases hio : insOp m y with
    | none => exact absurd ((hcf y).1 hio) hy
    | some j => exact insOp_key hio
   ·simp only
    cases hio : insOp m (f : Int) with
    | none => rw [(hcf f).1 hio]; rfl
    | some j =>
      obtain ⟨v, hv, _⟩ := ((hcf f).2 j hio).2 (h3 _ _ hio)
      rw [hv]; rfl
theorem rdn_of {W : World} {b : Nat} {l : List Nat} (h : W.heap[b]? = some (.cells (l.map fun (x : Nat) => Value.int .i64 (x : Int)).toArray 3 (0, 0))) : RdN W (some ⟨b, 0, none⟩) l := by
 intro _
 refine ⟨_, rfl, (Array.getElem?_eq_some_iff.1 h).1, fun j hj => ?_⟩
 rw [addr_add0, Lib.cell_of_heap h j]
 simp [gt, hj]
theorem st_co (hE : KE w E b1 b3 bt nt ht) (h : KJ w E b1 b3 L a W) (hi : i ∈ Region.ready .any kOps L) {ops : Array Oper} {o : Oper} (D : Dep ops L i o) {f k si : Nat} {mi : Option Nat} (hc : kc i = .co f k mi si) : wpOp Tryz.prog ops Q i (KJ w E b1 b3 (L.setIfInBounds i true)) a W := by
 have hun := D.un
 have hlt := D.lt
 have ho := D.ho
 have hop := D.hop
 have hd := D.hd
 have hg := D.hg
 have hdep := D.hdep
 obtain ⟨hl, hne⟩ := kc_lt hlt hc (by simp) (by simp)
 have hk := all_range kchk_eq hlt
 unfold kchk at hk
 rw [hc] at hk
 simp only [Bool.and_eq_true, beq_iff_eq, Bool.not_eq_true'] at hk
 obtain ⟨⟨⟨k1, k2⟩, k3⟩, k4⟩ := hk
 have hf : L.getD f false = true := hdep f (by unfold kdeps; rw [hc]; cases mi <;> simp)
 have hs : L.getD si false = true := hdep si (by unfold kdeps; rw [hc]; cases mi <;> simp)
 obtain ⟨B, hB⟩ := h.kb
 have e1 := clo_val hB hf k1 (by omega)
 -- the list
 obtain ⟨l, hcl⟩ : ∃ l, kc si = .sl l := by
  unfold slOf at k2
  cases hcs : kc si <;> rw [hcs] at k2 <;> simp at k2
  exact ⟨_, rfl⟩
 have hlc := all_range kchk_eq (hB.lt hs)
 unfold kchk at hlc
 rw [hcl] at hlc
 simp only [Bool.and_eq_true, Nat.ble_eq, Bool.not_eq_true', List.isEmpty_eq_false_iff, List.all_eq_true, Nat.blt_eq] at hlc
 obtain ⟨⟨l1, l2⟩, l3⟩ := hlc
 have hsl : slOf si = l := by unfold slOf; rw [hcl]
 rw [hsl] at k4
 obtain ⟨b, e2, hb⟩ : ∃ b, a.eval (.tmp (kslot si)) = .slice (some ⟨b, 0, none⟩) l.length l.length ∧ W.heap[b]? = some (.cells (l.map fun (x : Nat) => Value.int .i64 (x : Int)).toArray 3 (0, 0)) := by
  have := hB.sat si (hB.lt' hs hcl (by simp)) hs
  unfold Sat at this
  rw [hcl] at this
  exact this
 -- the map
 have hmx : a.eval (mop mi) = Go.Proofs.YtbkmhmaldljgmaaGreatDoor.nmv E B k ∧ ∀ m, kmap k = .op m → isNum m = true ∧ L.getD m false = true ∧ ∀ x j, insOp m x = some j → L.getD j false = true := by
  cases mi with
  | none =>
    simp only at k3
    unfold Go.Proofs.YtbkmhmaldljgmaaGreatDoor.nmv
    cases hkm : kmap k <;> rw [hkm] at k3 <;> simp at k3
    exact ⟨rfl, fun m hm => by cases hm⟩
  | some x =>
    have hx : L.getD x false = true := hdep x (by unfold kdeps; rw [hc]; simp)
    simp only [Bool.or_eq_true, Bool.and_eq_true, beq_iff_eq] at k3
    rcases k3 with ⟨k5, k6⟩ | k6
    ·have := clo_val hB hx k5 (by omega)
     unfold Go.Proofs.YtbkmhmaldljgmaaGreatDoor.nmv
     cases hkm : kmap k <;> rw [hkm] at k6 <;> simp at k6
     exact ⟨this, fun m hm => by cases hm⟩
    ·cases hcx : kc x <;> rw [hcx] at k6 <;> simp at k6
     rename_i m
     unfold isRef at k6
     unfold Go.Proofs.YtbkmhmaldljgmaaGreatDoor.nmv
     cases hkm : kmap k <;> rw [hkm] at k6 <;> simp at k6
     have k7 := k6.symm
     subst k7
     have hxm := hB.sat x (hB.lt' hx hcx (by simp)) hx
     unfold Sat at hxm
     rw [hcx] at hxm
     have hmm := hB.ref x hx m (by unfold krefs; rw [hcx])
     have hxk := all_range kchk_eq (hB.lt hx)
     unfold kchk at hxk
     rw [hcx] at hxk
     refine ⟨hxm, fun m' hm' => ?_⟩
     injection hm' with hm'
     subst hm'
     refine ⟨by unfold isNum; rw [mk_of hxk], hmm, fun y j hj => ?_⟩
     obtain ⟨e, he, h1, _, h3⟩ := insOp_spec hj
     rw [← h3]
     exact hB.cmp x m hcx hx e he h1
 obtain ⟨hmv, hmo⟩ := hmx
 obtain ⟨x, g, hnx, hX, hg4, hgs⟩ := hB.numX hE hmo
 have hn : l ≠ [] := l2
 unfold kop at hop
 rw [hc] at hop
 refine wpOp_enter ho hg (f := 246) (args := #[.string (kword k), .int .i64 (kclass k), .map x, .slice (some ⟨b, 0, none⟩) l.length l.length]) (w' := W) ?_ ((of_any (kword k) (kclass k) x g ⟨b, 0, none⟩ l W hX (fun y hy => ?_) (rdn_of hb) l1 hn (by omega)).mono ?_)
 ·rw [exec_call_val hop (e1.trans hE.e4)]
  have e3 : a.eval (mop mi) = .map x := by rw [← hnx, ← hmv]
  show (callFunc _ #[.string (kword k), .int .i64 (kclass k), a.eval (mop mi), a.eval (.tmp (kslot si))]).run _ _ = _
  rw [e2, e3]
  kernel_rfl
 ·have := hg4 y hy
  exact ⟨y.toNat, by omega, by omega⟩
 ·rintro e wn ⟨rfl, hbw⟩
  refine ⟨_, rfl, h.quietB hB hi hl hd hbw (by unfold isNum; rw [hc]) hne (by unfold isIns; rw [hc]) (by unfold isPt; rw [hc]) (by unfold kdst; rw [hc]; rfl) ?_⟩
  unfold Sat
  rw [hc]
  simp only
  rw [hnx]
  unfold kst
  congr 1
  refine kcells_congr fun f hf => ?_
  rw [hgs f hf]
  have := List.all_eq_true.1 k4 f (List.mem_range.2 hf)
  simpa using this
theorem st_ca (hE : KE w E b1 b3 bt nt ht) (h : KJ w E b1 b3 L a W) (hi : i ∈ Region.ready .any kOps L) {ops : Array Oper} {o : Oper} (D : Dep ops L i o) {f k : Nat} (hc : kc i = .ca f k) : wpOp Tryz.prog ops Q i (KJ w E b1 b3 (L.setIfInBounds i true)) a W := by
 have hun := D.un
 have hlt := D.lt
 have ho := D.ho
 have hop := D.hop
 have hd := D.hd
 have hg := D.hg
 have hdep := D.hdep
 obtain ⟨hl, hne⟩ := kc_lt hlt hc (by simp) (by simp)
 have hk := all_range kchk_eq hlt
 unfold kchk at hk
 rw [hc] at hk
 simp only [Bool.and_eq_true, beq_iff_eq, Bool.not_eq_true'] at hk
 obtain ⟨⟨⟨⟨⟨k1, k2⟩, k3⟩, k4⟩, k5⟩, k6⟩ := hk
 have hf : L.getD f false = true := hdep f (by unfold kdeps; rw [hc]; simp)
 obtain ⟨B, hB⟩ := h.kb
 have e1 := clo_val hB hf k1 (by omega)
 obtain ⟨g1, g3⟩ := hid_heap hE hB.bw
 rw [hE.e4] at g3
 have hkm : kmap k = .op i := by
  unfold isRef at k3
  cases hkm : kmap k <;> rw [hkm] at k3 <;> simp at k3
  rw [k3]
 unfold kop at hop
 rw [hc] at hop
 refine wpOp_enter ho hg (f := 247) (args := #[.string (kword k), .pointer (some ⟨b3, 0, none⟩), .pointer (some ⟨b1, 0, none⟩)]) (w' := W) ?_ ((amount_any (kword k) b1 b3 (E 3) W g1 g3 (hE.e3.stp (Stp.of_below hB.bw))).mono ?_)
 ·rw [exec_call_val hop (e1.trans hE.e0)]
  kernel_rfl
 ·rintro e wn ⟨bm, g, rfl, c1, c2, c3, c4, c5, hbw⟩
  refine ⟨_, rfl, h.next hi hl hd ⟨newB B i bm, hB.made hi hbw c1 c2 (by unfold isPt; rw [hc]) (fun m v key p q e => by rw [hc] at e; cases e) (fun j hj hne _ hds => put_eval hd h.asz hl j hj hne hds) (fun _ => ?_) (fun _ => ?_) (fun e => absurd e hne)⟩⟩
  ·rw [put_own hd h.asz hl (by unfold kdst; rw [hc]; rfl)]
   unfold Sat
   rw [hc]
   simp only
   unfold Go.Proofs.YtbkmhmaldljgmaaGreatDoor.nmv
   rw [hkm, k4]
   unfold kst
   rw [k5]
   simp only [newB, if_true]
   congr 1
   refine kcells_congr fun f hf => ?_
   have := List.all_eq_true.1 k6 f (List.mem_range.2 hf)
   simpa using this
  ·refine ⟨1, g, c3, by omega, fun x => ⟨fun hn => c5 x (by rintro rfl; rw [k2] at hn; cases hn), fun j hj => ?_⟩⟩
   rcases insOp_kind hj with ⟨v, key, p, q, hcj, _⟩ | ⟨f', k', hcj, rfl, rfl⟩
   ·exfalso
    have hji : i ≠ j := by rintro rfl; rw [hc] at hcj; cases hcj
    obtain ⟨e, he, h1, _, h3⟩ := insOp_spec hj
    have hkk := List.all_eq_true.1 kinsl_ins e he
    rw [h1, h3, hcj] at hkk
    rw [hc] at hkk
    simp at hkk
   ·refine ⟨fun h0 => (not_on h0 (getD_set_same hun)).elim, fun _ => ⟨E 3, c4, ?_⟩⟩
    unfold kflag
    rw [hc]
    exact (hE.e3.stp (Stp.of_below hB.bw)).stp (Stp.of_below hbw)
theorem st_pt (h : KJ w E b1 b3 L a W) (hi : i ∈ Region.ready .any kOps L) {ops : Array Oper} {o : Oper} (D : Dep ops L i o) {k v : Nat} (hc : kc i = .pt k v) : wpOp Tryz.prog ops Q i (KJ w E b1 b3 (L.setIfInBounds i true)) a W := by
 have hun := D.un
 have hlt := D.lt
 have ho := D.ho
 have hop := D.hop
 have hd := D.hd
 have hg := D.hg
 have hdep := D.hdep
 obtain ⟨hl, hne⟩ := kc_lt hlt hc (by simp) (by simp)
 obtain ⟨hio, k1, k2, k3, k4⟩ := pt_chk hlt hc
 have hm : L.getD 0 false = true := hdep 0 (by unfold kdeps; rw [hc]; simp)
 have hv : L.getD v false = true := hdep v (by unfold kdeps; rw [hc]; simp)
 obtain ⟨B, hB⟩ := h.kb
 have hmv : a.eval (.tmp 15) = .map (some (B 0)) := by
  have := hB.sat 0 (by omega) hm
  unfold Sat at this
  have e : kc 0 = .m0 := by kernel_rfl
  rw [e] at this
  have e2 : kslot 0 = 15 := by kernel_rfl
  rw [e2] at this
  exact this
 have hval : a.eval (.tmp (kslot v)) = kst k (kcode k) (Go.Proofs.YtbkmhmaldljgmaaGreatDoor.nmv E B k) := by
  have hvl := hB.lt hv
  unfold isFin at k1
  unfold kkind at k2
  cases hcv : kc v <;> rw [hcv] at k1 k2 <;> simp at k1
  all_goals
   simp at k2
   subst k2
   have := hB.sat v (hB.lt' hv hcv (by simp)) hv
   unfold Sat at this
   rw [hcv] at this
   first | exact this | (rw [k1]; exact this)
 obtain ⟨n, f, hM, hw, hcf⟩ := hB.mm hm
 obtain ⟨W', hr, hM', htn⟩ := hM.put (key := .int .i64 k) (val := a.eval (.tmp (kslot v))) (j := (k : Int)) (e := 247) (t := 249) (int_keyed Tryz.underlying3) Tryz.underlying249 (by unfold maxLen; omega) keyI_inj
  (keyOf_int_mk Tryz.underlying3 (wf_i64 (by omega) (by omega))) (f' := fun y => if y = (k : Int) then some (a.eval (.tmp (kslot v))) else f y) (by simp) (fun y hy => by simp [hy])
 unfold kop at hop
 rw [hc] at hop
 refine wpOp_skip ho hg (exec_insert hop hmv rfl rfl hr) (h.next hi hl hd ⟨B, hB.pt hi hc hw hcf hM' (by simp [hval]) (fun y hy => by simp [hy]) htn (fun j hj hne _ hds => put_eval hd h.asz hl j hj hne hds)⟩)
theorem st_all (hE : KE w E b1 b3 bt nt ht) (hj : KJ w E b1 b3 L a W) (hi : i ∈ Region.ready .any kOps L) {ops : Array Oper} {o : Oper} (D : Dep ops L i o) : wpOp Tryz.prog ops Q i (KJ w E b1 b3 (L.setIfInBounds i true)) a W := by
 cases hc : kc i with
 | m0 => exact st_m0 hj hi D hc
 | mk => exact st_mk hj hi D hc
 | bt => exact st_bt hj hi D hc
 | e1 => exact st_e1 hj hi D hc
 | e2 => exact st_e2 hj hi D hc
 | cl v => exact st_cl hE hj hi D hc
 | ins m v key p q => exact st_ins hE hj hi D hc
 | mv m => exact st_mv hj hi D hc
 | sl l => exact st_sl hj hi D hc
 | ca f k => exact st_ca hE hj hi D hc
 | co f k mi si => exact st_co hE hj hi D hc
 | wc f v k => exact st_wc hE hj hi D hc
 | pt k v => exact st_pt hj hi D hc
def NumAt (W : World) (nm : Value) (k : Nat) : Prop := (nm = .map none ∧ ∀ f, f ∈ kfs k → ¬ (4 ≤ f ∧ f ≤ 9)) ∨ ∃ b n g, nm = .map (some b) ∧ Mp 3 keyI W b n g ∧ ∀ f : Nat, f ∈ kfs k → 4 ≤ f → f ≤ 9 → ∃ v, g (f : Int) = some v ∧ CloAt W v (kpos k f) (f == 9)
def KindsAt (W : World) (b : Nat) : Prop := ∃ n g, Mp 3 keyI W b n g ∧ ∀ x : Int, (¬ (1 ≤ x ∧ x ≤ 18) → g x = none) ∧ (1 ≤ x ∧ x ≤ 18 → ∃ nm, g x = some (kst x.toNat (kcode x.toNat) (.map nm)) ∧ NumAt W (.map nm) x.toNat)
theorem knum_eq : ((List.range 19).all fun k => (kfs k).all fun f => Nat.blt f 4 || Nat.blt 9 f || match kmap k with | .nil => false | .trade => (f == 4 && kpos k f) || (f == 5 && !kpos k f) || (f == 6 && !kpos k f) | .op m => (match insOp m f with | some j => kflag j == (kpos k f, f == 9) | none => false)) = true := by kernel_rfl
theorem kopm_eq : ((List.range 19).all fun k => match kmap k with | .op m => Nat.blt m 122 && isNum m | _ => true) = true := by kernel_rfl
theorem kinsl_lt : (kinsl.all fun e => Nat.blt e.2.2 122) = true := by kernel_rfl
theorem kputl_k : (kputl.all fun e => Nat.ble 1 e.1 && Nat.ble e.1 18 && Nat.blt e.2 122) = true := by kernel_rfl
theorem kinds_region {ops : Array Oper} (hops : ops = kOps) (hE : KE w E b1 b3 bt nt ht) (h0 : KJ w E b1 b3 (Array.replicate 124 false) a w) (hQ : ∀ (a : Act) (W : World) (b : Nat), a.defers = [] → a.tmps.size = 105 → a.eval (.tmp 0) = .map (some b) → w.heap.size ≤ b → KindsAt W b → Below w.heap.size w W → Q .normal a W) :
 wpAny Tryz.prog .any ops Q 124 (Array.replicate 124 false) a w := by
 refine wpAny_inv (KJ w E b1 b3) (fun L a W hj i hi => ?_) (fun L a W hj hr => ?_) 124 _ _ _ h0 (by have := waits_le (Array.replicate 124 false).toList; simpa using this)
 ·have hi' : i ∈ Region.ready .any kOps L := by rw [← hops]; exact hi
  obtain ⟨o, D⟩ := kdep' hi'
  exact st_all hE hj hi' (by rw [hops]; exact D)
 ·obtain ⟨B, hB⟩ := hj.kb
  rw [hops] at hr
  have all := all_on hr hB.sz kback
  have e1 := hB.sat 122 (by omega) (all 122 (by omega))
  unfold Sat at e1
  have e : kc 122 = .e1 := by kernel_rfl
  rw [e] at e1
  have e2 : kslot 122 = 104 := by kernel_rfl
  rw [e2] at e1
  obtain ⟨n, g, hM, _, hmain⟩ := hB.mm (all 0 (by omega))
  refine hQ a W (B 0) hj.df hj.asz ((hj.fin (all 123 (by omega))).trans e1) (hB.low 0 (.inl rfl) (all 0 (by omega))).1 ⟨n, g, hM, fun x => ⟨fun hx => ?_, fun hx => ?_⟩⟩ hB.bw
  ·refine (hmain x).1 ?_
   cases hp : putOp x with
   | none => rfl
   | some j =>
     obtain ⟨e', he, hpe, _⟩ := find_spec hp
     simp only [beq_iff_eq] at hpe
     have := List.all_eq_true.1 kputl_k e' he
     simp only [Bool.and_eq_true, Nat.ble_eq] at this
     exact absurd ⟨by omega, by omega⟩ hx
  ·obtain ⟨k, rfl⟩ : ∃ k : Nat, x = k := ⟨x.toNat, by omega⟩
   have hk19 : k < 19 := by omega
   have hps := all_range kputl_all hk19
   simp only [Bool.or_eq_true, beq_iff_eq] at hps
   rcases hps with h0 | hps
   ·omega
   ·obtain ⟨j, hp⟩ := Option.isSome_iff_exists.1 hps
    obtain ⟨e', he, _, hj2⟩ := find_spec hp
    have hl := List.all_eq_true.1 kputl_k e' he
    simp only [Bool.and_eq_true, Nat.ble_eq, Nat.blt_eq] at hl
    have hg := ((hmain k).2 j hp).2 (all j (by omega))
    rw [show (k : Int).toNat = k from rfl] at hg ⊢
    have hkn := all_range knum_eq hk19
    simp only [List.all_eq_true, Bool.or_eq_true, Nat.blt_eq] at hkn
    have hkm := all_range kopm_eq hk19
    unfold Go.Proofs.YtbkmhmaldljgmaaGreatDoor.nmv at hg
    cases hkk : kmap k with
    | nil =>
      rw [hkk] at hg
      refine ⟨none, hg, .inl ⟨rfl, fun f hf hr2 => ?_⟩⟩
      have := hkn f hf
      rw [hkk] at this
      simp at this
      omega
    | trade =>
      rw [hkk] at hg
      simp only at hg
      rw [hE.e5] at hg
      refine ⟨some bt, hg, .inr ⟨bt, nt, ht, rfl, hE.tr.below hB.bw hE.tr.lt, fun f hf h4 h9 => ?_⟩⟩
      have := hkn f hf
      rw [hkk] at this
      simp only [Bool.or_eq_true, Bool.and_eq_true, beq_iff_eq, Bool.not_eq_true'] at this
      rcases this with (h | h) | (h | h) | h
      ·omega
      ·omega
      ·obtain ⟨rfl, hp2⟩ := h
       exact ⟨E 3, hE.t4, by rw [hp2]; exact hE.e3.stp (Stp.of_below hB.bw)⟩
      ·obtain ⟨rfl, hp2⟩ := h
       exact ⟨E 2, hE.t5, by rw [hp2]; exact hE.e2.stp (Stp.of_below hB.bw)⟩
      ·obtain ⟨rfl, hp2⟩ := h
       exact ⟨E 2, hE.t6, by rw [hp2]; exact hE.e2.stp (Stp.of_below hB.bw)⟩
    | op m =>
      rw [hkk] at hg hkm
      simp only [Bool.and_eq_true, Nat.blt_eq] at hkm
      obtain ⟨n', g', hM', _, hcf⟩ := hB.mi m hkm.2 (all m (by omega))
      refine ⟨some (B m), hg, .inr ⟨B m, n', g', rfl, hM', fun f hf h4 h9 => ?_⟩⟩
      have := hkn f hf
      rw [hkk] at this
      simp only at this
      rcases this with (h | h) | h
      ·omega
      ·omega
      ·cases hio : insOp m (f : Int) with
       | none => rw [hio] at h; cases h
       | some j' =>
         rw [hio] at h
         simp only [beq_iff_eq] at h
         obtain ⟨e3, he3, _, _, h3⟩ := insOp_spec hio
         have hl3 := List.all_eq_true.1 kinsl_lt e3 he3
         simp only [Nat.blt_eq] at hl3
         obtain ⟨v, hv1, hv2⟩ := ((hcf f).2 j' hio).2 (all j' (by omega))
         rw [h] at hv2
         exact ⟨v, hv1, hv2⟩
end
end Go.Proofs.YtbkmhmaldljgmaaGreatDoor
namespace Go.Proofs.YtbkmhmaldljgmaaGreatDoor
open Go.RowKit Tr Go.Shelf Go.Maps
theorem CloAt.form {w : World} {v : Value} {p q : Bool} (h : CloAt w v p q) : ∃ b1 b2 : Nat, v = .func (.func 278) #[] #[.pointer (some ⟨b1, 0, none⟩), .pointer (some ⟨b2, 0, none⟩)] := by
 obtain ⟨b1, b2, e, _⟩ := h; exact ⟨b1, b2, e⟩
theorem rep_off {n i : Nat} {P : Prop} (h : (Array.replicate n false).getD i false = true) : P := by
 exfalso
 rw [Array.getD_eq_getD_getElem?, Array.getElem?_replicate] at h
 split at h <;> cases h
theorem kinds_any (w : World) : Calls Tryz.prog 204 #[] w fun e w' => ∃ b, e = .returned (.map (some b)) ∧ w.heap.size ≤ b ∧ KindsAt w' b ∧ Below w.heap.size w w' := by
 have mixed : Tryz.prog.follows .mixedOrders = true := by kernel_rfl
 go_enter Tryz.func204, Tryz.ntmps204
 go_wp2_with fail
 refine (between_any true false w).mono ?_
 rintro e w1 ⟨v1, rfl, hc1, hb1⟩
 have HC1 := hI hc1
 have HB1 := hI hb1
 clear hc1 hb1
 go_wp2_with fail
 refine (between_any false false w1).mono ?_
 rintro e w2 ⟨v2, rfl, hc2, hb2⟩
 have hcl1 : CloAt w2 v1 true false := HC1.out.below hb2
 have hbw : Below w.heap.size w w2 := HB1.out.trans (hb2.mono HB1.out.size)
 obtain ⟨p1, p2, rfl⟩ := hcl1.form
 obtain ⟨p3, p4, rfl⟩ := hc2.form
 obtain ⟨W3, hW3⟩ : ∃ W3, w2.alloc (.cells #[.func (.func 278) #[] #[.pointer (some ⟨p1, 0, none⟩), .pointer (some ⟨p2, 0, none⟩)]] 287) = W3 := ⟨_, rfl⟩
 have b3 : Below w2.heap.size w2 W3 := by rw [← hW3]; exact below_alloc _ _
 have z3 : W3.heap.size = w2.heap.size + 1 := by rw [← hW3]; simp
 have k3 : W3.heap[w2.heap.size]? = some (.cells #[.func (.func 278) #[] #[.pointer (some ⟨p1, 0, none⟩), .pointer (some ⟨p2, 0, none⟩)]] 287 (0, 0)) := by rw [← hW3]; exact heap_alloc_new _ _
 obtain ⟨W4, hW4⟩ : ∃ W4, W3.alloc (.cells #[.func (.func 246) #[] #[]] 289) = W4 := ⟨_, rfl⟩
 have b4 : Below W3.heap.size W3 W4 := by rw [← hW4]; exact below_alloc _ _
 have k4 : W4.heap[W3.heap.size]? = some (.cells #[.func (.func 246) #[] #[]] 289 (0, 0)) := by rw [← hW4]; exact heap_alloc_new _ _
 have z4 : W4.heap.size = w2.heap.size + 2 := by rw [← hW4]; simp [z3]
 obtain ⟨W5, hW5⟩ : ∃ W5, W4.alloc (.map #[] 0) = W5 := ⟨_, rfl⟩
 have b5 : Below W4.heap.size W4 W5 := by rw [← hW5]; exact below_alloc _ _
 have hmk : (Instr.makeMap 245 none).run Tryz.prog W4 = .ok (.map (some W4.heap.size)) W5 := by rw [← hW5]; exact run_makeMap ..
 have hM5 : Mp 3 keyI W5 W4.heap.size 0 (fun _ => none) := by rw [← hW5]; exact Mp.made W4 _ _
 have kk : ∀ i : Int, 4 ≤ i → i ≤ 6 → keyOf Tryz.prog 3 (.int .i64 i) = some (keyI i) := fun i h1 h2 => keyOf_int_mk Tryz.underlying3 (wf_i64 (by omega) (by omega))
 obtain ⟨W6, hp6, hM6, ht6⟩ := hM5.put (key := .int .i64 4) (val := .func (.func 278) #[] #[.pointer (some ⟨p1, 0, none⟩), .pointer (some ⟨p2, 0, none⟩)]) (j := (4 : Int)) (e := 287) (t := 245) (int_keyed Tryz.underlying3) Tryz.underlying245 (by unfold maxLen; omega) keyI_inj (kk 4 (by omega) (by omega)) (f' := fun y => if y = 4 then some (.func (.func 278) #[] #[.pointer (some ⟨p1, 0, none⟩), .pointer (some ⟨p2, 0, none⟩)]) else none) (by simp) (fun y hy => by simp [hy])
 obtain ⟨W7, hp7, hM7, ht7⟩ := hM6.put (key := .int .i64 5) (val := .func (.func 278) #[] #[.pointer (some ⟨p3, 0, none⟩), .pointer (some ⟨p4, 0, none⟩)]) (j := (5 : Int)) (e := 287) (t := 245) (int_keyed Tryz.underlying3) Tryz.underlying245 (by unfold maxLen; omega) keyI_inj (kk 5 (by omega) (by omega)) (f' := fun y => if y = 5 then some (.func (.func 278) #[] #[.pointer (some ⟨p3, 0, none⟩), .pointer (some ⟨p4, 0, none⟩)]) else if y = 4 then some (.func (.func 278) #[] #[.pointer (some ⟨p1, 0, none⟩), .pointer (some ⟨p2, 0, none⟩)]) else none) (by simp) (fun y hy => by simp [hy])
 obtain ⟨W8, hp8, hM8, ht8⟩ := hM7.put (key := .int .i64 6) (val := .func (.func 278) #[] #[.pointer (some ⟨p3, 0, none⟩), .pointer (some ⟨p4, 0, none⟩)]) (j := (6 : Int)) (e := 287) (t := 245) (int_keyed Tryz.underlying3) Tryz.underlying245 (by unfold maxLen; omega) keyI_inj (kk 6 (by omega) (by omega)) (f' := fun y => if y = 6 then some (.func (.func 278) #[] #[.pointer (some ⟨p3, 0, none⟩), .pointer (some ⟨p4, 0, none⟩)]) else if y = 5 then some (.func (.func 278) #[] #[.pointer (some ⟨p3, 0, none⟩), .pointer (some ⟨p4, 0, none⟩)]) else if y = 4 then some (.func (.func 278) #[] #[.pointer (some ⟨p1, 0, none⟩), .pointer (some ⟨p2, 0, none⟩)]) else none) (by simp) (fun y hy => by simp [hy])
 have t1 : ∀ j, j < w2.heap.size + 2 → W8.heap[j]? = W4.heap[j]? := fun j hj => by
  rw [turned_other ht8 (by omega), turned_other ht7 (by omega), turned_other ht6 (by omega), b5.block _ (by omega)]
 have b58 : Below W4.heap.size W4 W8 := b5.trans (((turned_below ht6 (Nat.le_refl _)).trans (turned_below ht7 (Nat.le_refl _))).trans (turned_below ht8 (Nat.le_refl _)))
 have b28 : Below w2.heap.size w2 W8 := (b3.trans (b4.mono (by omega))).trans (b58.mono (by omega))
 have k5 : W5.heap[w2.heap.size]? = some (.cells #[.func (.func 278) #[] #[.pointer (some ⟨p1, 0, none⟩), .pointer (some ⟨p2, 0, none⟩)]] 287 (0, 0)) := by rw [b5.block _ (by omega), b4.block _ (by omega)]; exact k3
 have c5 := Lib.cell_of_heap k5 0
 simp at c5
 obtain ⟨E, hE⟩ : ∃ E : Nat → Value, E = fun n => match n with
  | 0 => .func (.func 247) #[] #[.pointer (some ⟨W3.heap.size, 0, none⟩), .pointer (some ⟨w2.heap.size, 0, none⟩)]
  | 1 => .func (.func 248) #[] #[]
  | 2 => .func (.func 278) #[] #[.pointer (some ⟨p3, 0, none⟩), .pointer (some ⟨p4, 0, none⟩)]
  | 3 => .func (.func 278) #[] #[.pointer (some ⟨p1, 0, none⟩), .pointer (some ⟨p2, 0, none⟩)]
  | 4 => .func (.func 246) #[] #[]
  | _ => .map (some W4.heap.size) := ⟨_, rfl⟩
 have HKE : Hid (KE W8.drew E w2.heap.size W3.heap.size W4.heap.size 3 (fun y => if y = 6 then some (.func (.func 278) #[] #[.pointer (some ⟨p3, 0, none⟩), .pointer (some ⟨p4, 0, none⟩)]) else if y = 5 then some (.func (.func 278) #[] #[.pointer (some ⟨p3, 0, none⟩), .pointer (some ⟨p4, 0, none⟩)]) else if y = 4 then some (.func (.func 278) #[] #[.pointer (some ⟨p1, 0, none⟩), .pointer (some ⟨p2, 0, none⟩)]) else none)) := by
  subst hE
  refine ⟨rfl, rfl, hc2.below b28.drew, hcl1.below b28.drew, rfl, rfl, ?_, ?_, hM8, rfl, rfl, rfl, fun x h4 h5 h6 => by simp [h4, h5, h6]⟩
  ·show W8.heap[w2.heap.size]? = _
   rw [t1 _ (by omega), b4.block _ (by omega)]; exact k3
  ·show W8.heap[W3.heap.size]? = _
   rw [t1 _ (by omega)]; exact k4
 have HBW : Hid (Below w.heap.size w W8.drew) := (hbw.trans (b28.mono hbw.size)).drew
 have HE := hI hE
 clear hc2 hcl1 hb2 hbw b3 z3 k3 b4 k4 z4 hW5 b5 hM5 kk hM6 ht6 hM7 ht7 hM8 ht8 t1 b58 b28 k5 hE
 go_wp2_with fail
 refine wp_region_any mixed (kinds_region (by kernel_rfl) HKE.out ?_ ?_)
 ·have hE := HE.out
  refine ⟨rfl, rfl, rfl, by rw [hE]; rfl, rfl, by rw [hE]; rfl, by rw [hE]; rfl, by rw [hE]; rfl, ⟨fun _ => 0, ?_⟩, fun h => rep_off h⟩
  exact ⟨fun i _ h => rep_off h, fun i j _ _ h => rep_off h, fun i _ h => rep_off h, fun i _ h => rep_off h, fun h => rep_off h, fun i h => rep_off h, fun i m _ h => rep_off h, fun x j _ h => rep_off h, by simp, Below.refl _ _⟩
 ·intro a W b hd hs hv hbb hK hB
  have hbl : Below w.heap.size w W := HBW.out.trans (hB.mono HBW.out.size)
  have hbw : w.heap.size ≤ b := Nat.le_trans HBW.out.size hbb
  rename_i K ha
  show K a W
  refine ha _ _ ?_
  refine wp_ret ?_
  refine bodyPost_ret (fn := Tryz.f204) (results_tmp (t := 0) rfl _ _ _) hd ?_
  exact ⟨b, congrArg Ending.returned hv, hbw, hK, hbl⟩
end Go.Proofs.YtbkmhmaldljgmaaGreatDoor
