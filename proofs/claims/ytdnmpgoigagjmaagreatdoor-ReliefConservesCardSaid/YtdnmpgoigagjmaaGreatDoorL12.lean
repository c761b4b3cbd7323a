/-
  The walks of trancheref01.short, Compare, Sign, Neg, Long.
-/
import Derived.Test.YtdnmpgoigagjmaaGreatDoorL04
import Derived.Deep.DeepCutAuto
set_option linter.unusedVariables false
set_option linter.unusedSimpArgs false
set_option maxHeartbeats 16000000
set_option maxRecDepth 100000
namespace Go.Proofs.YtdnmpgoigagjmaaGreatDoor
open Go.RowKit Tr
theorem rLong_any (a : ByteArray) (w : World) :
 Calls Tryz.prog 108 #[.string a] w fun e w' => e = .returned (.bool (decide (13 < a.size))) ∧ w = w' := by
 by_cases h : 13 < a.size
 ·have hc : decide ((13 : Int) < (a.size : Int)) = true := by simp; omega
  have hd : decide (13 < a.size) = true := by simpa using h
  go_enter Tryz.func108, Tryz.ntmps108
  go_wp2_with fail
  go_ret
  exact ⟨by rw [hd]; rfl, rfl⟩
 ·have hc : decide ((13 : Int) < (a.size : Int)) = false := by simp; omega
  have hd : decide (13 < a.size) = false := by simpa using h
  go_enter Tryz.func108, Tryz.ntmps108
  go_wp2_with fail
  go_ret
  exact ⟨by rw [hd]; rfl, rfl⟩
end Go.Proofs.YtdnmpgoigagjmaaGreatDoor
