/-
  check: phase, clash.
-/
import Derived.Test.YtpopnmelcplbbaaGreatWhere
set_option linter.unusedVariables false
set_option linter.unusedSimpArgs false
namespace Go.Proofs.YtpopnmelcplbbaaGreat
open Go.RowKit

def phaseBad (x : Ph) : Bool :=
  decide (x.min < 1) || decide (x.yellow < 10) || decide (x.max < x.min) || decide (x.top < x.max) || (decide (x.step < 1) && decide (x.max < x.top)) ||
    ((x.walk == 0) != (x.blinks == 0)) || ((x.recall == 3) && (x.walk == 0))

set_option maxRecDepth 100000 in
set_option maxHeartbeats 1000000 in
theorem phase_chk (x : Ph) (w : World) : Calls Tryz.prog 42 #[.agg x.cells.toArray] w (Ret w (.bool (phaseBad x))) := by
  have hx := (Ext.refl w).alloc (.cells x.cells.toArray 26)
  unfold phaseBad
  unfold Ph.cells at hx ⊢
  have HX := Lib.hid hx; clear hx
  cases h1 : decide (x.min < 1)
  rotate_left
  · go_enter Tryz.func42, Tryz.ntmps42
    go_wp2
    go_ret
    exact ⟨by simp, HX.out⟩
  cases h2 : decide (x.yellow < 10)
  rotate_left
  · go_enter Tryz.func42, Tryz.ntmps42
    go_wp2
    go_ret
    exact ⟨by simp, HX.out⟩
  cases h3 : decide (x.max < x.min)
  rotate_left
  · go_enter Tryz.func42, Tryz.ntmps42
    go_wp2
    go_ret
    exact ⟨by simp, HX.out⟩
  cases h4 : decide (x.top < x.max)
  rotate_left
  · go_enter Tryz.func42, Tryz.ntmps42
    go_wp2
    go_ret
    exact ⟨by simp, HX.out⟩
  cases h5 : decide (x.step < 1) <;> cases h6 : decide (x.max < x.top) <;> cases h7 : (x.walk == 0) <;> cases h8 : (x.blinks == 0) <;> cases h9 : (x.recall == 3)
  all_goals
    go_enter Tryz.func42, Tryz.ntmps42
    go_wp2
    go_ret
    exact ⟨by simp, HX.out⟩
end Go.Proofs.YtpopnmelcplbbaaGreat
