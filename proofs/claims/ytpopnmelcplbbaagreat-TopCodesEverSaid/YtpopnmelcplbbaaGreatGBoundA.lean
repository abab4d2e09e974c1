/-
  bound: feet, the closures of clearance and Over, Serve. bound.Serve.
-/
import Derived.Test.YtpopnmelcplbbaaGreatGHand
import Derived.Test.YtpopnmelcplbbaaGreatPlan
import Derived.Test.YtpopnmelcplbbaaGreatGRead
import Derived.Test.YtpopnmelcplbbaaGreatGDecode
set_option linter.unusedVariables false
set_option linter.unusedSimpArgs false
namespace Go.Proofs.YtpopnmelcplbbaaGreat
open Go.RowKit

def feetS (x : Ph) : Int := satAdd x.walk x.blinks
def clearOne (x : Ph) : Int := satAdd x.yellow x.red
def leastOne (x : Ph) : Int := max x.min (feetS x)

theorem feet_c (x : Ph) (w : World) : Calls Tryz.prog 129 #[.agg x.cells.toArray] w (Ret w (.int .i64 (feetS x))) := by
  have hx := (Ext.refl w).alloc (.cells x.cells.toArray 26)
  unfold Ph.cells at hx ⊢
  have HX := Lib.hid hx; clear hx
  go_enter Tryz.func129, Tryz.ntmps129
  go_wp2_with (go_at_call 88; refine (Add_c _ _ _).mono ?_; rintro e w' ⟨rfl, rfl⟩)
  go_ret
  exact ⟨rfl, HX.out⟩
theorem clear1_c (x : Ph) (w : World) : Calls Tryz.prog 130 #[.agg x.cells.toArray] w (Ret w (.int .i64 (clearOne x))) := by
  have hx := (Ext.refl w).alloc (.cells x.cells.toArray 26)
  unfold Ph.cells at hx ⊢
  have HX := Lib.hid hx; clear hx
  go_enter Tryz.func130, Tryz.ntmps130
  go_wp2_with (go_at_call 88; refine (Add_c _ _ _).mono ?_; rintro e w' ⟨rfl, rfl⟩)
  go_ret
  exact ⟨rfl, HX.out⟩

set_option maxRecDepth 100000 in
theorem over1_c (x : Ph) (w : World) : Calls Tryz.prog 128 #[.agg x.cells.toArray] w (Ret w (.int .i64 (leastOne x))) := by
  have hx := (Ext.refl w).alloc (.cells x.cells.toArray 26)
  have hr : (w.alloc (.cells x.cells.toArray 26)).rangeAt w.heap.size 0 x.cells := rangeAt_new _ _ _
  have hsz : (w.alloc (.cells x.cells.toArray 26)).heap.size = w.heap.size + 1 := by simp
  have c1 : x.cells[1]? = some (.int .i64 x.min) := rfl
  have hxs : (Tryz.prog.info? 26).map (·.size) = some x.cells.length := by rw [x.len]; kernel_rfl
  have hft := feet_c x
  have HFT := Lib.hid hft; clear hft
  unfold leastOne
  generalize feetS x = f at HFT ⊢
  generalize x.min = m at c1 ⊢
  generalize x.cells = cs at hx hr hsz c1 hxs HFT ⊢
  have HXS := Lib.hid hxs; clear hxs
  go_enter Tryz.func128, Tryz.ntmps128
  go_wp2
  generalize w.alloc (.cells cs.toArray 26) = W at hx hr hsz ⊢
  refine wp_region_held_drew (S := fun w' => w'.rangeAt w.heap.size 0 cs) (by kernel_rfl) (by simpa using hr) (fun hS => ?_)
  refine wpAnyH_take (i := 0) (oi := _) (v := .pointer (some ⟨w.heap.size, 1, none⟩)) rfl (by kernel_rfl) (by kernel_rfl) (by kernel_rfl) (fun _ _ _ h => h) (yields_v (Instr.fieldAt 26 (.pointer (some ⟨w.heap.size, 0, none⟩)) 1) (by kernel_rfl) (by kernel_rfl) (fun w' _ => by go_simp)) hS ?_
  refine wpAnyH_take (i := 1) (oi := _) (v := .int .i64 m) rfl (by kernel_rfl) (by kernel_rfl) (by kernel_rfl) (fun _ _ _ h => h) (yields_v (Instr.loadAt 3 (.pointer (some ⟨w.heap.size, 1, none⟩))) (by kernel_rfl) (by kernel_rfl) (fun W h => load_int (range_cell h c1))) hS ?_
  refine wpAnyH_take (i := 2) (oi := _) (v := .agg (cs).toArray) rfl (by kernel_rfl) (by kernel_rfl) (by kernel_rfl) (fun _ _ _ h => h) (yieldsIf_load_mid (by kernel_rfl) 26 (.tmp 1) rfl w.heap.size (0) (by kernel_rfl) (cs) _ (fun _ h => h) Tryz.underlying26 rfl HXS.out) hS ?_
  refine wpAnyH_call (i := 3) (f := 129) (args := #[.agg cs.toArray]) (v := .int .i64 f) (by kernel_rfl) rfl (by kernel_rfl) (by kernel_rfl) (HFT.out _) ?_
  rintro e w5 ⟨rfl, hx5⟩
  have hS5 : (fun w' : World => w'.rangeAt w.heap.size 0 cs) w5 := rangeAt_ext hS hx5 (show w.heap.size < W.heap.size by omega)
  refine ⟨rfl, hS5, ?_⟩
  refine wpAnyH_take (i := 4) (oi := _) (v := .int .i64 (max m f)) rfl (by kernel_rfl) (by kernel_rfl) (by kernel_rfl) (fun _ _ _ h => h) (Or.inl ⟨by kernel_rfl, fun W _ => by go_simp⟩) hS5 ?_
  refine wpAnyH_take (i := 5) (oi := _) (v := .int .i64 (max m f)) rfl (by kernel_rfl) (by kernel_rfl) (by kernel_rfl) (fun _ _ _ h => h) (Or.inl ⟨by kernel_rfl, fun _ _ => by kernel_rfl⟩) hS5 ?_
  refine wpAnyH_done (by kernel_rfl) ?_ _
  go_simp
  go_wp2
  go_ret
  exact ⟨rfl, (hx.drew).trans hx5⟩
end Go.Proofs.YtpopnmelcplbbaaGreat
namespace Go.Proofs.YtpopnmelcplbbaaGreat
open Go.RowKit

theorem has_range {s p : Int} (h : has s p = true) : 0 ≤ p ∧ p < 8 := by
  by_cases hp : 0 ≤ p ∧ p < 8
  · exact hp
  · exfalso
    unfold has at h
    rw [bitOf_out p hp] at h
    have h0 : bits .and .i64 s 0 = 0 := by unfold bits; simp; rfl
    rw [h0] at h
    simp at h

def serveL (t : Tab) (p : Nat) : List Int := [max (t.ph p).min (max (feetS (t.ph p)) (t.ph p).top), t.extend, (t.ph p).yellow, (t.ph p).red, t.revert, 8]
def serveS (t : Tab) (p : Int) : Int := if has (onS t) p then sumL (serveL t p.toNat) else 0

theorem table_sz (t : Tab) (gv dv rv bv : Value) : (Tryz.prog.info? 34).map (·.size) = some (t.cells gv dv rv bv).length := by rw [t.cells_len]; kernel_rfl

theorem run_max3 (P : Program) (w : World) (ts : Array TypeId) (t : TypeId) (k k' k'' : IntKind) (x y z : Int) : (Builtin.max_ ts t #[.int k x, .int k' y, .int k'' z]).run P w = .ok (.int k (max x (max y z))) w := by
  rw [run_max_int3]; congr 2; split <;> split <;> omega
attribute [local go_sem high] run_max3

set_option maxRecDepth 100000 in
set_option maxHeartbeats 2000000 in
theorem Serve_c (w : World) (gv dv rv bv : Value) (t : Tab) (p : Int) : Calls Tryz.prog 145 #[tabV t gv dv rv bv, .int .i64 p] w (Ret w (.int .i64 (serveS t p))) := by
  have hx0 := (Ext.refl w).alloc (.cells (t.cells gv dv rv bv).toArray 34)
  have hTB := TB.new w t gv dv rv bv 34
  have hon := On_c (w.alloc (.cells (t.cells gv dv rv bv).toArray 34)) gv dv rv bv t
  have hs := table_sz t gv dv rv bv
  have c116 := t.c116 gv dv rv bv
  have c119 := t.c119 gv dv rv bv
  have hph := fun (q : Nat) (hq : q < 8) (j : Nat) (v : Value) (hj : (t.ph q).cells[j]? = some v) => t.cells_phs gv dv rv bv q hq j v hj
  unfold serveS serveL
  unfold tabV at hon ⊢
  have hrg := hTB.range
  generalize t.cells gv dv rv bv = C at hx0 hon hs hrg c116 c119 hph ⊢
  clear hTB
  generalize onS t = on at hon ⊢
  have HON := Lib.hid hon; clear hon
  have HS := Lib.hid hs; clear hs
  have HRG := Lib.hid hrg; clear hrg
  have HX := Lib.hid hx0; clear hx0
  have HPH := Lib.hid hph; clear hph
  cases hh : has on p with
  | false =>
    have hc := Has_c on p
    rw [hh] at hc
    have H := Lib.hid hc; clear hc hh
    go_enter Tryz.func145, Tryz.ntmps145
    go_wp2_with ((with_reducible refine atLoad 34 rfl ?_); refine wpList_load_mid rfl 34 _ rfl _ _ rfl _ _ HRG.out Tryz.underlying34 rfl HS.out ?_)
    refine HON.out.mono ?_
    rintro e w1 ⟨rfl, hx1⟩
    have HX1 := Lib.hid (HX.out.trans hx1)
    clear hx1
    go_wp2_with fail
    refine (H.out _).mono ?_
    rintro e w2 ⟨rfl, rfl⟩
    go_wp2
    go_ret
    exact ⟨by simp, HX1.out⟩
  | true =>
    obtain ⟨hp0, hp8⟩ := has_range hh
    obtain ⟨q, rfl⟩ : ∃ q : Nat, p = (q : Int) := ⟨p.toNat, by omega⟩
    have hq : q < 8 := by omega
    have hc := Has_c on (q : Int)
    rw [hh] at hc
    have H := Lib.hid hc; clear hc hh
    rw [if_pos rfl, Int.toNat_natCast]
    have hph := HPH.out q hq
    clear HPH
    have hft := feet_c (t.ph q)
    have x1 : (t.ph q).cells[1]? = some (.int .i64 (t.ph q).min) := rfl
    have x4 : (t.ph q).cells[4]? = some (.int .i64 (t.ph q).top) := rfl
    have x6 : (t.ph q).cells[6]? = some (.int .i64 (t.ph q).yellow) := rfl
    have x7 : (t.ph q).cells[7]? = some (.int .i64 (t.ph q).red) := rfl
    have hxs : (Tryz.prog.info? 26).map (·.size) = some (t.ph q).cells.length := by rw [(t.ph q).len]; kernel_rfl
    have hxs2 : (Tryz.prog.info? 26).map (·.size) = some (t.ph q).cells.toArray.size := by rw [List.size_toArray, (t.ph q).len]; kernel_rfl
    have hone : (t.ph q).cells.toArray.all (·.oneCell') = true := all_oneCell_toArray (by simp [Ph.cells, Value.oneCell'])
    have hl13 : (t.ph q).cells.length = 13 := rfl
    generalize feetS (t.ph q) = ft at hft ⊢
    generalize (t.ph q).min = fmin at x1 ⊢
    generalize (t.ph q).top = ftop at x4 ⊢
    generalize (t.ph q).yellow = fyel at x6 ⊢
    generalize (t.ph q).red = fred at x7 ⊢
    generalize (t.ph q).cells = cs at hft x1 x4 x6 x7 hxs hxs2 hone hph hl13
    generalize t.extend = fext at c116 ⊢
    generalize t.revert = frev at c119 ⊢
    have HFT := Lib.hid hft; clear hft
    have HXS := Lib.hid hxs; clear hxs
    have HXS2 := Lib.hid hxs2; clear hxs2
    have HONE := Lib.hid hone; clear hone
    have HPH := Lib.hid hph; clear hph
    have HL13 := Lib.hid hl13; clear hl13
    go_enter Tryz.func145, Tryz.ntmps145
    go_wp2_with ((with_reducible refine atLoad 34 rfl ?_); refine wpList_load_mid rfl 34 _ rfl _ _ rfl _ _ HRG.out Tryz.underlying34 rfl HS.out ?_)
    refine HON.out.mono ?_
    rintro e w1 ⟨rfl, hx1⟩
    have HX1 := Lib.hid (HX.out.trans hx1)
    have HRG1 := Lib.hid (rangeAt_ext HRG.out hx1 (by simp))
    have hlt1 : w.heap.size < w1.heap.size := by have := hx1.size; simp at this; omega
    clear hx1 HRG HON
    go_wp2_with fail
    refine (H.out _).mono ?_
    rintro e w2 ⟨rfl, rfl⟩
    have HPR := Lib.hid (show w1.rangeAt w.heap.size (q * 13) cs from fun j v hj => range_cell HRG1.out (HPH.out j v hj))
    have HSTN := Lib.hid (show cs.toArray.size = 13 by rw [List.size_toArray, HL13.out])
    go_wp2_with (first
      | ((with_reducible refine atLoad 26 rfl ?_); refine wpList_load_mid rfl 26 _ rfl _ _ rfl _ _ HPR.out Tryz.underlying26 rfl HXS.out ?_)
      | ((with_reducible refine atStore 26 rfl ?_); refine wpList_store_new 26 _ _ rfl rfl w1 _ cs.toArray rfl _ rfl rfl rfl HXS2.out HSTN.out.symm HONE.out (halt ?_)))
    unfold Halt
    have hr5 : (w1.alloc (.cells cs.toArray 26)).rangeAt w1.heap.size 0 cs := rangeAt_new _ _ _
    have hrt : (w1.alloc (.cells cs.toArray 26)).rangeAt w.heap.size 0 C := rangeAt_ext HRG1.out ((Ext.refl w1).alloc _) hlt1
    have hX5 := HX1.out.alloc (.cells cs.toArray 26)
    have hsz5 : (w1.alloc (.cells cs.toArray 26)).heap.size = w1.heap.size + 1 := by simp
    obtain ⟨b5, hb5⟩ : ∃ b5, w1.heap.size = b5 := ⟨_, rfl⟩
    rw [hb5] at hr5 hsz5 hlt1 ⊢
    generalize w1.alloc (.cells cs.toArray 26) = W at hr5 hrt hX5 hsz5 ⊢
    clear HRG1 HX1 HPR HXS2 HONE
    go_wp2
    refine wp_region_held_drew (S := fun w' => w'.rangeAt w.heap.size 0 C ∧ w'.rangeAt b5 0 cs) (by kernel_rfl) ⟨by simpa using hrt, by simpa using hr5⟩ (fun hS => ?_)
    refine wpAnyH_take (i := 0) (oi := _) (v := .pointer (some ⟨b5, 1, none⟩)) rfl (by kernel_rfl) (by kernel_rfl) (by kernel_rfl) (fun _ _ _ h => h) (yields_v (Instr.fieldAt 26 (.pointer (some ⟨b5, 0, none⟩)) 1) (by kernel_rfl) (by kernel_rfl) (fun w' _ => by go_simp)) hS ?_
    refine wpAnyH_take (i := 1) (oi := _) (v := .int .i64 fmin) rfl (by kernel_rfl) (by kernel_rfl) (by kernel_rfl) (fun _ _ _ h => h) (yields_v (Instr.loadAt 3 (.pointer (some ⟨b5, 1, none⟩))) (by kernel_rfl) (by kernel_rfl) (fun W h => load_int (range_cell h.2 x1))) hS ?_
    refine wpAnyH_take (i := 2) (oi := _) (v := .agg (cs).toArray) rfl (by kernel_rfl) (by kernel_rfl) (by kernel_rfl) (fun _ _ _ h => h) (yieldsIf_load_mid (by kernel_rfl) 26 (.tmp 5) rfl b5 (0) (by kernel_rfl) (cs) _ (fun _ h => h.2) Tryz.underlying26 rfl HXS.out) hS ?_
    refine wpAnyH_take (i := 4) (oi := _) (v := .pointer (some ⟨b5, 4, none⟩)) rfl (by kernel_rfl) (by kernel_rfl) (by kernel_rfl) (fun _ _ _ h => h) (yields_v (Instr.fieldAt 26 (.pointer (some ⟨b5, 0, none⟩)) 4) (by kernel_rfl) (by kernel_rfl) (fun w' _ => by go_simp)) hS ?_
    refine wpAnyH_take (i := 5) (oi := _) (v := .int .i64 ftop) rfl (by kernel_rfl) (by kernel_rfl) (by kernel_rfl) (fun _ _ _ h => h) (yields_v (Instr.loadAt 3 (.pointer (some ⟨b5, 4, none⟩))) (by kernel_rfl) (by kernel_rfl) (fun W h => load_int (range_cell h.2 x4))) hS ?_
    refine wpAnyH_take (i := 7) (oi := _) (v := .pointer (some ⟨w.heap.size, 116, none⟩)) rfl (by kernel_rfl) (by kernel_rfl) (by kernel_rfl) (fun _ _ _ h => h) (yields_v (Instr.fieldAt 34 (.pointer (some ⟨w.heap.size, 0, none⟩)) 6) (by kernel_rfl) (by kernel_rfl) (fun w' _ => by go_simp)) hS ?_
    refine wpAnyH_take (i := 8) (oi := _) (v := .int .i64 fext) rfl (by kernel_rfl) (by kernel_rfl) (by kernel_rfl) (fun _ _ _ h => h) (yields_v (Instr.loadAt 3 (.pointer (some ⟨w.heap.size, 116, none⟩))) (by kernel_rfl) (by kernel_rfl) (fun W h => load_int (range_cell h.1 c116))) hS ?_
    refine wpAnyH_take (i := 9) (oi := _) (v := .pointer (some ⟨b5, 6, none⟩)) rfl (by kernel_rfl) (by kernel_rfl) (by kernel_rfl) (fun _ _ _ h => h) (yields_v (Instr.fieldAt 26 (.pointer (some ⟨b5, 0, none⟩)) 6) (by kernel_rfl) (by kernel_rfl) (fun w' _ => by go_simp)) hS ?_
    refine wpAnyH_take (i := 10) (oi := _) (v := .int .i64 fyel) rfl (by kernel_rfl) (by kernel_rfl) (by kernel_rfl) (fun _ _ _ h => h) (yields_v (Instr.loadAt 3 (.pointer (some ⟨b5, 6, none⟩))) (by kernel_rfl) (by kernel_rfl) (fun W h => load_int (range_cell h.2 x6))) hS ?_
    refine wpAnyH_take (i := 11) (oi := _) (v := .pointer (some ⟨b5, 7, none⟩)) rfl (by kernel_rfl) (by kernel_rfl) (by kernel_rfl) (fun _ _ _ h => h) (yields_v (Instr.fieldAt 26 (.pointer (some ⟨b5, 0, none⟩)) 7) (by kernel_rfl) (by kernel_rfl) (fun w' _ => by go_simp)) hS ?_
    refine wpAnyH_take (i := 12) (oi := _) (v := .int .i64 fred) rfl (by kernel_rfl) (by kernel_rfl) (by kernel_rfl) (fun _ _ _ h => h) (yields_v (Instr.loadAt 3 (.pointer (some ⟨b5, 7, none⟩))) (by kernel_rfl) (by kernel_rfl) (fun W h => load_int (range_cell h.2 x7))) hS ?_
    refine wpAnyH_take (i := 13) (oi := _) (v := .pointer (some ⟨w.heap.size, 119, none⟩)) rfl (by kernel_rfl) (by kernel_rfl) (by kernel_rfl) (fun _ _ _ h => h) (yields_v (Instr.fieldAt 34 (.pointer (some ⟨w.heap.size, 0, none⟩)) 9) (by kernel_rfl) (by kernel_rfl) (fun w' _ => by go_simp)) hS ?_
    refine wpAnyH_take (i := 14) (oi := _) (v := .int .i64 frev) rfl (by kernel_rfl) (by kernel_rfl) (by kernel_rfl) (fun _ _ _ h => h) (yields_v (Instr.loadAt 3 (.pointer (some ⟨w.heap.size, 119, none⟩))) (by kernel_rfl) (by kernel_rfl) (fun W h => load_int (range_cell h.1 c119))) hS ?_
    refine wpAnyH_call (i := 3) (f := 129) (args := #[.agg cs.toArray]) (v := .int .i64 ft) (by kernel_rfl) rfl (by kernel_rfl) (by kernel_rfl) (HFT.out _) ?_
    rintro e w5 ⟨rfl, hx5⟩
    have hlW : w.heap.size < W.drew.heap.size := show w.heap.size < W.heap.size by omega
    have hlW5 : b5 < W.drew.heap.size := show b5 < W.heap.size by omega
    have hS5 : (fun w' : World => w'.rangeAt w.heap.size 0 C ∧ w'.rangeAt b5 0 cs) w5 := ⟨rangeAt_ext hS.1 hx5 hlW, rangeAt_ext hS.2 hx5 hlW5⟩
    refine ⟨rfl, hS5, ?_⟩
    refine wpAnyH_take (i := 6) (oi := _) (v := .int .i64 (max fmin (max ft ftop))) rfl (by kernel_rfl) (by kernel_rfl) (by kernel_rfl) (fun _ _ _ h => h) (Or.inl ⟨by kernel_rfl, fun W _ => by go_simp⟩) hS5 ?_
    have hl5 : w.heap.size < w5.heap.size := Nat.lt_of_lt_of_le hlW hx5.size
    have hl55 : b5 < w5.heap.size := Nat.lt_of_lt_of_le hlW5 hx5.size
    have hS6 : (fun w' : World => w'.rangeAt w.heap.size 0 C ∧ w'.rangeAt b5 0 cs) (w5.alloc (.cells #[.int .i64 (max fmin (max ft ftop)), .int .i64 fext, .int .i64 fyel, .int .i64 fred, .int .i64 frev, .int .i64 8] 3)) := ⟨rangeAt_ext hS5.1 ((Ext.refl w5).alloc _) hl5, rangeAt_ext hS5.2 ((Ext.refl w5).alloc _) hl55⟩
    refine wpAnyH_step (i := 15) (.slice (some ⟨w5.heap.size, 0, none⟩) 6 6) (w5.alloc (.cells #[.int .i64 (max fmin (max ft ftop)), .int .i64 fext, .int .i64 fyel, .int .i64 fred, .int .i64 frev, .int .i64 8] 3)) (by kernel_rfl) rfl (by kernel_rfl) (Instr.buildSlice 64 6 #[(0, .int .i64 (max fmin (max ft ftop))), (1, .int .i64 fext), (2, .int .i64 fyel), (3, .int .i64 fred), (4, .int .i64 frev), (5, .int .i64 8)]) (by kernel_rfl) (by go_simp) hS6 ?_
    have hsm := Sum_c (w5.alloc (.cells #[.int .i64 (max fmin (max ft ftop)), .int .i64 fext, .int .i64 fyel, .int .i64 fred, .int .i64 frev, .int .i64 8] 3)) (.slice (some ⟨w5.heap.size, 0, none⟩) 6 6) [max fmin (max ft ftop), fext, fyel, fred, frev, 8] (by exact rowIn_at _ _ _ _ _ (by first | rfl | simp)) (by simp)
    refine wpAnyH_call (i := 16) (f := 90) (args := #[.slice (some ⟨w5.heap.size, 0, none⟩) 6 6]) (v := .int .i64 (sumL [max fmin (max ft ftop), fext, fyel, fred, frev, 8])) (by kernel_rfl) rfl (by kernel_rfl) (by kernel_rfl) (hsm) ?_
    rintro e w7 ⟨rfl, hx7⟩
    have hS7 : (fun w' : World => w'.rangeAt w.heap.size 0 C ∧ w'.rangeAt b5 0 cs) w7 := ⟨rangeAt_ext hS6.1 hx7 (by simp; omega), rangeAt_ext hS6.2 hx7 (by simp; omega)⟩
    refine ⟨rfl, hS7, ?_⟩
    refine wpAnyH_take (i := 17) (oi := _) (v := .int .i64 (sumL [max fmin (max ft ftop), fext, fyel, fred, frev, 8])) rfl (by kernel_rfl) (by kernel_rfl) (by kernel_rfl) (fun _ _ _ h => h) (Or.inl ⟨by kernel_rfl, fun _ _ => by kernel_rfl⟩) hS7 ?_
    clear hsm
    refine wpAnyH_done (by kernel_rfl) ?_ _
    go_simp
    go_wp2
    go_ret
    exact ⟨rfl, (hX5.drew.trans hx5).trans (((Ext.refl w5).alloc _).trans hx7)⟩
end Go.Proofs.YtpopnmelcplbbaaGreat
