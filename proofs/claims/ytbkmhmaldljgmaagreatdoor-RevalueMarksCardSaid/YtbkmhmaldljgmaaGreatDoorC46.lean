/-
  From the given condition on the package-level variables to what the walks ask of the world (Tabs); the wrap that keeps the world's shape.
-/
import Derived.Test.YtbkmhmaldljgmaaGreatDoorC07
import Derived.Test.YtbkmhmaldljgmaaGreatDoorCards
import Derived.Test.YtbkmhmaldljgmaaGreatDoorTie
import Derived.Lib.LaidU8
import Derived.Lay
import Derived.HandedShaped
import Derived.Shelf.Vars
import Derived.OpenShut
import Derived.ProofKit
set_option linter.unusedVariables false
set_option linter.unusedSimpArgs false
set_option maxHeartbeats 16000000
set_option maxRecDepth 100000
namespace Go.Proofs.YtbkmhmaldljgmaaGreatDoor
open Go.RowKit Tr Go.Shelf Go.ChangeShapes Go.WideShapes Go.ChangeAt
def laidL : List (String × DataW Unit) := Rows.revalueChangesRow.laid
theorem own : ownKnob Tryz.prog.godebug = none := by kernel_rfl
theorem laid_pow10 : (Rows.laid_internal_strconv_uint64pow10 : DataW Unit) = Lib.tabData .u64 Lib.pow10Tab := by rfl
theorem iface_of_reads {w : World} {n : String} {g t : Nat} {nm : String} {d : DataW Unit} {ms : Array (String × TypeId)} (hg : Tryz.prog.globalNamed n = some g) (ht : (Tryz.prog.globals[g]?).map (·.type) = some t)
 (hu : Tryz.prog.underlying t = some (.interface ms)) (h : Lib.VarReads Tryz.prog w n (.iface nm d)) : ∃ tp p, w.var? Tryz.prog n = some #[.iface tp p] := by
 obtain ⟨g', t', cs, fuel, p, hg', ht', hv, hd⟩ := h
 obtain rfl := Option.some.inj (hg.symm.trans hg')
 obtain rfl := Option.some.inj (ht.symm.trans ht')
 obtain ⟨_, u, v, hcs, _, _⟩ := iface_of_trod hu hd
 exact ⟨u, v, by rw [hv, Array.eq_one_of_toList hcs]⟩
theorem tabs_of_laid {W : World} (h : laidMetH Tryz.prog laidL W) (hsh : W.ShapedOpen Tryz.prog) : Tabs W := by
 rw [MakeChecks.laidMetH_plain _ _ _ (by kernel_rfl)] at h
 refine ⟨?_, ?_, ?_, ?_⟩
 ·have h1 : Lib.VarReads Tryz.prog W "internal/strconv.uint64pow10" Rows.laid_internal_strconv_uint64pow10 := Lib.laidMet.reads h (by simp [laidL, Rows.revalueChangesRow])
  rw [laid_pow10] at h1
  obtain ⟨g', t', cs, fuel, p, hg', ht', hv, hd⟩ := h1
  obtain rfl := Option.some.inj ((show Tryz.prog.globalNamed "internal/strconv.uint64pow10" = some 2 by kernel_rfl).symm.trans hg')
  obtain rfl := Option.some.inj ((show (Tryz.prog.globals[2]?).map (·.type) = some 279 by kernel_rfl).symm.trans ht')
  unfold Lib.TabIs
  rw [hv, ← Lib.cells_of_tab Tryz.underlying279 Tryz.underlying128 (by kernel_rfl) (by kernel_rfl) hd]
 ·exact iface_of_reads (g := 0) (t := 130) (by kernel_rfl) (by kernel_rfl) Tryz.underlying130 (Lib.laidMet.reads h (n := "strconv.ErrSyntax") (d := Rows.laid_strconv_ErrSyntax) (by simp [laidL, Rows.revalueChangesRow]))
 ·exact iface_of_reads (g := 1) (t := 130) (by kernel_rfl) (by kernel_rfl) Tryz.underlying130 (Lib.laidMet.reads h (n := "strconv.ErrRange") (d := Rows.laid_strconv_ErrRange) (by simp [laidL, Rows.revalueChangesRow]))
 ·exact cell_of_shapedOpen_int (P := Tryz.prog) (g := 3) (t := 3) (zero := #[.int .i64 0]) hsh (of_decide_eq_true (by kernel_rfl)) (by kernel_rfl) rfl (by kernel_rfl) (by kernel_rfl) Tryz.underlying3
theorem returns_of_both {H : Type} {enc : TypeId × Value → H} {a : Assume} {C : Checked} {os : Os} {f : FuncId} {fn : Func} {s : ChangeSpec} {conds : List PathCond} {apart fresh handsOn again : Bool} {X : World → Array Value → Prop}
 (hX : ∀ (w w' : World) (args : Array Value), w.heap = w'.heap → X w args → X w' args)
 (own : ownKnob C.prog.godebug = none) (started : os.Started) (noInit : C.prog.inits.idxOf? f = none) (hfn : C.prog.funcs[f]? = some fn)
 (witness : ∃ (w : World) (tape : Tape) (i : Input), w.os = os ∧ (w.forCall tape i).Shaped C.prog ∧ i.vars = [] ∧ Input.okWide C.prog (w.forCall tape i) .any w.heap.size f i ∧
   ((s.pre enc C.prog fn conds apart (w.forCall tape i).memory i.args ∧ X (w.forCall tape i).memory i.args) ∧ sizedMet enc C.prog fn (OpenSpec.ofChange s) apart (w.forCall tape i).memory i.args) ∧ a.holds C.prog (lone (Frame.enter C.prog f i.args .normal) [] (w.forCall tape i)))
 (contract : ∀ (W : World) (base : Nat) (args : Array Value) (ds gs : List (DataW H)) (before : List MemPlace),
   (∀ (j : Nat) t v, fn.params[j]? = some t → args[j]? = some v → Value.okWide C.prog W .any base t v) →
   DataW.Whole enc C.prog fn.params.toList s.vars apart W args.toList ds gs before →
   X W args → W.ShapedOpen C.prog →
   Calls C.prog f args W fun e W' => ∃ v, e = .returned v ∧ s.post enc C.prog fn apart fresh handsOn again W args v W') :
 ReturnsInHanded a C os f .any (fun w args => (s.pre enc C.prog fn conds apart w args ∧ X w args) ∧ sizedMet enc C.prog fn (OpenSpec.ofChange s) apart w args) (s.post enc C.prog fn apart fresh handsOn again) := by
 refine returnsInHanded_of_calls own started noInit witness ?_
 intro w tape i _ hsh _ hok hpre _
 obtain ⟨_, _, _, fn', hfn', _, _, _, _, hval⟩ := hok
 have e : fn' = fn := Option.some.inj (hfn'.symm.trans hfn)
 subst e
 obtain ⟨⟨⟨ds, gs, before, hw, _⟩, hx⟩, _⟩ := hpre
 have hw' := DataW.Whole.of_heap (w' := w.forCall tape i) (by rfl) hw
 refine (contract (w.forCall tape i) w.heap.size i.args ds gs before hval hw' (hX _ _ _ (by rfl) hx) hsh).mono fun e W' ⟨v, he, hp⟩ => ?_
 subst he
 exact ChangeSpec.post_blind hp
theorem door_met (os : Os) (args : Array Value) : laidMetH Tryz.prog laidL ((World.laidAll Tryz.prog os laidL).forCall (fun _ _ => 0) ⟨#[], args, []⟩).memory := by
 rw [MakeChecks.laidMetH_plain _ _ _ (by kernel_rfl)]
 exact laidMet_laidAll _ (by kernel_rfl) (by kernel_rfl)
end Go.Proofs.YtbkmhmaldljgmaaGreatDoor
