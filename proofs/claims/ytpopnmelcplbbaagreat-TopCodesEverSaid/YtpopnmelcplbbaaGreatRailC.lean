/-
  check: rail.
-/
import Derived.Test.YtpopnmelcplbbaaGreatApart
set_option linter.unusedVariables false
set_option linter.unusedSimpArgs false
namespace Go.Proofs.YtpopnmelcplbbaaGreat
open Go.RowKit

def railB1 (on : Int) (r : Ra) : Bool := bits .andNot .i64 (bits .or .i64 (bits .or .i64 (bits .or .i64 r.bars r.clear) r.dwell) r.exit) on != 0
def railB4 (r : Ra) : Bool := bits .and .i64 r.dwell r.bars != 0
def railBad (t : Tab) (on : Int) (r : Ra) : Bool :=
  railB1 on r || (r.dwell == 0) || (r.exit == 0) || railB4 r || clashesS t r.clear || clashesS t r.dwell || clashesS t r.exit || apartS t r.exit ||
    (decide (0 < r.hold) != (r.clear != 0)) || decide (r.green < 1) || decide (r.stay < 1) || (decide (0 < r.most) && decide (r.most < r.stay)) || decide (r.limit ≤ r.delay)

set_option maxRecDepth 100000 in
set_option maxHeartbeats 40000000 in
theorem rail_chk (w : World) (gv dv rv bv : Value) (t : Tab) (hTA : TabAt w gv dv rv bv t) (on : Int) (r : Ra) :
    Calls Tryz.prog 52 #[tabV t gv dv rv bv, .int .i64 on, .agg r.cells.toArray] w (Ret w (.bool (railBad t on r))) := by
  have hx0 := ((Ext.refl w).alloc (.cells (t.cells gv dv rv bv).toArray 34)).alloc (.cells r.cells.toArray 72)
  have hTB := (TB.new w t gv dv rv bv 34).ext ((Ext.refl _).alloc (.cells r.cells.toArray 72))
  have hcl := fun W (s : Int) => clashes_c W gv dv rv bv t s
  have hap := fun W (h : Ext w W) (s : Int) => apart_c W gv dv rv bv t (hTA.ext h) s
  have hsz : (Tryz.prog.info? 34).map (·.size) = some (t.cells gv dv rv bv).length := by rw [t.cells_len]; kernel_rfl
  unfold railBad
  unfold tabV at hcl hap ⊢
  have hrg : ∀ W, Ext (((w.alloc (.cells (t.cells gv dv rv bv).toArray 34)).alloc (.cells r.cells.toArray 72))) W → W.rangeAt w.heap.size 0 (t.cells gv dv rv bv) := fun W h => (hTB.ext h).range
  unfold Ra.cells at hx0 hrg ⊢
  clear hTB
  generalize t.cells gv dv rv bv = C at hcl hap hsz hrg hx0 ⊢
  have HCL := Lib.hid hcl; clear hcl
  have HAP := Lib.hid hap; clear hap
  have HSZ := Lib.hid hsz; clear hsz
  have HRG := Lib.hid hrg; clear hrg
  have HX := Lib.hid hx0; clear hx0
  cases h1 : railB1 on r
  rotate_left
  · unfold railB1 at h1
    go_enter Tryz.func52, Tryz.ntmps52
    go_wp2
    all_goals (first | (go_ret; exact ⟨by simp, HX.out⟩) | (rename_i hh _; simp [undef] at hh))
  cases h2 : (r.dwell == 0)
  rotate_left
  · unfold railB1 at h1
    go_enter Tryz.func52, Tryz.ntmps52
    go_wp2
    all_goals (first | (go_ret; exact ⟨by simp, HX.out⟩) | (rename_i hh _; simp [undef] at hh))
  cases h3 : (r.exit == 0)
  rotate_left
  · unfold railB1 at h1
    go_enter Tryz.func52, Tryz.ntmps52
    go_wp2
    all_goals (first | (go_ret; exact ⟨by simp, HX.out⟩) | (rename_i hh _; simp [undef] at hh))
  cases h4 : railB4 r
  rotate_left
  · unfold railB1 at h1
    unfold railB4 at h4
    go_enter Tryz.func52, Tryz.ntmps52
    go_wp2
    all_goals (first | (go_ret; exact ⟨by simp, HX.out⟩) | (rename_i hh _; simp [undef] at hh))
  unfold railB1 at h1
  unfold railB4 at h4
  have HG0 := Lib.hid (HRG.out _ (Ext.refl _))
  go_enter Tryz.func52, Tryz.ntmps52
  go_wp2_with fail
  refine wpList_loadG 34 _ rfl (by kernel_rfl) w.heap.size 0 (by kernel_rfl) _ _ HG0.out Tryz.underlying34 rfl HSZ.out ?_
  go_wp2_with fail
  refine (HCL.out _ r.clear).mono ?_
  rintro e w1 ⟨rfl, hx⟩
  have HX1 := Lib.hid (HX.out.trans hx)
  have HY1 := Lib.hid (hx)
  have HG1 := Lib.hid (HRG.out _ HY1.out)
  obtain ⟨hc1, hf1⟩ := hx.reads
  have hz1 : w.heap.size + 1 < w1.heap.size := by have := hx.size; simp at this; omega
  clear hx
  cases hb0 : clashesS t r.clear
  rotate_left
  · go_wp2
    all_goals (first | (go_ret; exact ⟨by simp [hb0], HX1.out⟩) | (rename_i hh _; simp [undef] at hh))
  go_wp2_with fail
  refine wpList_loadG 34 _ rfl (by kernel_rfl) w.heap.size 0 (by kernel_rfl) _ _ HG1.out Tryz.underlying34 rfl HSZ.out ?_
  go_wp2_with fail
  refine (HCL.out _ r.dwell).mono ?_
  rintro e w2 ⟨rfl, hx⟩
  have HX2 := Lib.hid (HX1.out.trans hx)
  have HY2 := Lib.hid (HY1.out.trans hx)
  have HG2 := Lib.hid (HRG.out _ HY2.out)
  obtain ⟨hc2, hf2⟩ := hx.reads
  have hz2 : w.heap.size + 1 < w2.heap.size := by have := hx.size; omega
  clear hx
  cases hb1 : clashesS t r.dwell
  rotate_left
  · go_wp2
    all_goals (first | (go_ret; exact ⟨by simp [hb0, hb1], HX2.out⟩) | (rename_i hh _; simp [undef] at hh))
  go_wp2_with fail
  refine wpList_loadG 34 _ rfl (by kernel_rfl) w.heap.size 0 (by kernel_rfl) _ _ HG2.out Tryz.underlying34 rfl HSZ.out ?_
  go_wp2_with fail
  refine (HCL.out _ r.exit).mono ?_
  rintro e w3 ⟨rfl, hx⟩
  have HX3 := Lib.hid (HX2.out.trans hx)
  have HY3 := Lib.hid (HY2.out.trans hx)
  have HG3 := Lib.hid (HRG.out _ HY3.out)
  obtain ⟨hc3, hf3⟩ := hx.reads
  have hz3 : w.heap.size + 1 < w3.heap.size := by have := hx.size; omega
  clear hx
  cases hb2 : clashesS t r.exit
  rotate_left
  · go_wp2
    all_goals (first | (go_ret; exact ⟨by simp [hb0, hb1, hb2], HX3.out⟩) | (rename_i hh _; simp [undef] at hh))
  go_wp2_with fail
  refine wpList_loadG 34 _ rfl (by kernel_rfl) w.heap.size 0 (by kernel_rfl) _ _ HG3.out Tryz.underlying34 rfl HSZ.out ?_
  go_wp2_with fail
  refine (HAP.out _ HX3.out r.exit).mono ?_
  rintro e w4 ⟨rfl, hx⟩
  have HX4 := Lib.hid (HX3.out.trans hx)
  have HY4 := Lib.hid (HY3.out.trans hx)
  have HG4 := Lib.hid (HRG.out _ HY4.out)
  obtain ⟨hc4, hf4⟩ := hx.reads
  have hz4 : w.heap.size + 1 < w4.heap.size := by have := hx.size; omega
  clear hx
  cases hb3 : apartS t r.exit
  rotate_left
  · go_wp2
    all_goals (first | (go_ret; exact ⟨by simp [hb0, hb1, hb2, hb3], HX4.out⟩) | (rename_i hh _; simp [undef] at hh))
  cases h8 : decide (0 < r.hold)
  · cases h9 : (r.clear != 0)
    · skip
      cases h10 : decide (r.green < 1)
      rotate_left
      · (go_wp2; all_goals (first | (go_ret; exact ⟨by simp [hb0, hb1, hb2, hb3, h10], HX4.out⟩) | (rename_i hh _; simp [undef] at hh)))
      cases h11 : decide (r.stay < 1)
      rotate_left
      · (go_wp2; all_goals (first | (go_ret; exact ⟨by simp [hb0, hb1, hb2, hb3, h11], HX4.out⟩) | (rename_i hh _; simp [undef] at hh)))
      cases h12 : decide (0 < r.most)
      · cases h14 : decide (r.limit ≤ r.delay)
        · (go_wp2; all_goals (first | (go_ret; exact ⟨by simp [hb0, hb1, hb2, hb3, h8, h9, h10, h11, h12, h14], HX4.out⟩) | (rename_i hh _; simp [undef] at hh)))
        · (go_wp2; all_goals (first | (go_ret; exact ⟨by simp [hb0, hb1, hb2, hb3, h8, h9, h10, h11, h12, h14], HX4.out⟩) | (rename_i hh _; simp [undef] at hh)))
      · cases h13 : decide (r.most < r.stay)
        · cases h14 : decide (r.limit ≤ r.delay)
          · (go_wp2; all_goals (first | (go_ret; exact ⟨by simp [hb0, hb1, hb2, hb3, h8, h9, h10, h11, h12, h13, h14], HX4.out⟩) | (rename_i hh _; simp [undef] at hh)))
          · (go_wp2; all_goals (first | (go_ret; exact ⟨by simp [hb0, hb1, hb2, hb3, h8, h9, h10, h11, h12, h13, h14], HX4.out⟩) | (rename_i hh _; simp [undef] at hh)))
        · (go_wp2; all_goals (first | (go_ret; exact ⟨by simp [hb0, hb1, hb2, hb3, h8, h9, h10, h11, h12, h13], HX4.out⟩) | (rename_i hh _; simp [undef] at hh)))
    · (go_wp2; all_goals (first | (go_ret; exact ⟨by simp [hb0, hb1, hb2, hb3, h8, h9], HX4.out⟩) | (rename_i hh _; simp [undef] at hh)))
  · cases h9 : (r.clear != 0)
    · (go_wp2; all_goals (first | (go_ret; exact ⟨by simp [hb0, hb1, hb2, hb3, h8, h9], HX4.out⟩) | (rename_i hh _; simp [undef] at hh)))
    · skip
      cases h10 : decide (r.green < 1)
      rotate_left
      · (go_wp2; all_goals (first | (go_ret; exact ⟨by simp [hb0, hb1, hb2, hb3, h10], HX4.out⟩) | (rename_i hh _; simp [undef] at hh)))
      cases h11 : decide (r.stay < 1)
      rotate_left
      · (go_wp2; all_goals (first | (go_ret; exact ⟨by simp [hb0, hb1, hb2, hb3, h11], HX4.out⟩) | (rename_i hh _; simp [undef] at hh)))
      cases h12 : decide (0 < r.most)
      · cases h14 : decide (r.limit ≤ r.delay)
        · (go_wp2; all_goals (first | (go_ret; exact ⟨by simp [hb0, hb1, hb2, hb3, h8, h9, h10, h11, h12, h14], HX4.out⟩) | (rename_i hh _; simp [undef] at hh)))
        · (go_wp2; all_goals (first | (go_ret; exact ⟨by simp [hb0, hb1, hb2, hb3, h8, h9, h10, h11, h12, h14], HX4.out⟩) | (rename_i hh _; simp [undef] at hh)))
      · cases h13 : decide (r.most < r.stay)
        · cases h14 : decide (r.limit ≤ r.delay)
          · (go_wp2; all_goals (first | (go_ret; exact ⟨by simp [hb0, hb1, hb2, hb3, h8, h9, h10, h11, h12, h13, h14], HX4.out⟩) | (rename_i hh _; simp [undef] at hh)))
          · (go_wp2; all_goals (first | (go_ret; exact ⟨by simp [hb0, hb1, hb2, hb3, h8, h9, h10, h11, h12, h13, h14], HX4.out⟩) | (rename_i hh _; simp [undef] at hh)))
        · (go_wp2; all_goals (first | (go_ret; exact ⟨by simp [hb0, hb1, hb2, hb3, h8, h9, h10, h11, h12, h13], HX4.out⟩) | (rename_i hh _; simp [undef] at hh)))
end Go.Proofs.YtpopnmelcplbbaaGreat
