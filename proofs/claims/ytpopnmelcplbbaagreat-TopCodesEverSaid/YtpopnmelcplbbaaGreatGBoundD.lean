/-
  bound: Over. bound: Wait.
-/
import Derived.Test.YtpopnmelcplbbaaGreatGBoundC
import Derived.Test.YtpopnmelcplbbaaGreatGBoundB
set_option linter.unusedVariables false
set_option linter.unusedSimpArgs false
namespace Go.Proofs.YtpopnmelcplbbaaGreat
open Go.RowKit

def wayU (t : Tab) (k : Nat) : Int := (List.range k).foldl (fun n k => max n (satAdd (entryS t k) (t.rails.getD k default).stay)) 0
theorem wayU_succ (t : Tab) (k : Nat) (h : k < t.rails.length) : wayU t (k + 1) = max (wayU t k) (satAdd (entryS t k) (t.rails[k]).stay) := by
  have hd : t.rails.getD k default = t.rails[k] := by rw [List.getD_eq_getElem?_getD, List.getElem?_eq_getElem h]; rfl
  rw [← hd]
  unfold wayU
  rw [List.range_succ, List.foldl_append]; rfl
def overS (t : Tab) : Int := if t.rails.length = 0 then 0 else sumL [wayU t t.rails.length, leastS t, clearS t, t.revert, 30]

set_option maxRecDepth 100000 in
set_option maxHeartbeats 4000000 in
theorem Over_c (w : World) (gv dv rv bv : Value) (t : Tab) (hT : TabAt w gv dv rv bv t) : Calls Tryz.prog 91 #[tabV t gv dv rv bv] w (Ret w (.int .i64 (overS t))) := by
  have hx0 := (Ext.refl w).alloc (.cells (t.cells gv dv rv bv).toArray 34)
  have hTB := TB.new w t gv dv rv bv 34
  have hs := table_sz t gv dv rv bv
  have hrl := hT.rl
  have c119 := t.c119 gv dv rv bv
  have hent := fun W (e : Ext w W) (k : Nat) (hk : k < t.rails.length) => Entry_c W gv dv rv bv t (hT.ext e) k hk
  have he : Enters 128 := fun args w => by kernel_rfl
  have hgr := fun W => greatest_c W gv dv rv bv t 128 he leastOne (fun x W => over1_c x W)
  have hcl := fun W => clearance_c W gv dv rv bv t
  obtain ⟨a, cp, rfl, hrow⟩ := hT.r
  have hc0 := fun W (e : Ext (w.alloc (.cells (t.cells gv dv (.slice a t.rails.length cp) bv).toArray 34)) W) => (hTB.ext e).cell (t.c114 gv dv (.slice a t.rails.length cp) bv)
  have hrg := fun W (e : Ext (w.alloc (.cells (t.cells gv dv (.slice a t.rails.length cp) bv).toArray 34)) W) => (hTB.ext e).range
  have hr0 := hc0 _ (Ext.refl _)
  unfold overS
  unfold tabV at hent hgr hcl ⊢
  generalize t.cells gv dv (.slice a t.rails.length cp) bv = C at hx0 hc0 hr0 hrg hs c119 hent hgr hcl ⊢
  clear hTB
  by_cases hz : t.rails.length = 0
  · rw [if_pos hz]
    have hb : ((t.rails.length : Int) == 0) = true := by simpa using hz
    clear hc0 hrg hent hgr hcl
    have HX := Lib.hid hx0; clear hx0
    go_enter Tryz.func91, Tryz.ntmps91
    go_wp2
    go_ret
    exact ⟨by simp, HX.out⟩
  rw [if_neg hz]
  have hb : ((t.rails.length : Int) == 0) = false := by simpa using hz
  rcases hrow with ⟨h0, _⟩ | ⟨b, off, rfl, hbl, hrc⟩
  · omega
  generalize leastS t = fle at hgr ⊢
  generalize clearS t = fcl at hcl ⊢
  generalize t.revert = frev at c119 ⊢
  have HRC := Lib.hid hrc; clear hrc
  have HENT := Lib.hid hent; clear hent
  have HGR := Lib.hid hgr; clear hgr
  have HCL := Lib.hid hcl; clear hcl
  have HS := Lib.hid hs; clear hs
  have HRG := Lib.hid hrg; clear hrg
  have HC0 := Lib.hid hc0; clear hc0
  have HXW := Lib.hid hx0; clear hx0
  obtain ⟨res, hres⟩ : ∃ res, sumL [wayU t t.rails.length, fle, fcl, frev, 30] = res := ⟨_, rfl⟩
  rw [hres]
  have HRES := Lib.hid hres; clear hres
  go_enter Tryz.func91, Tryz.ntmps91
  go_wp2
  clear hr0
  have hW0 : (w.alloc (.cells C.toArray 34)).heap.size = w.heap.size + 1 := by simp
  generalize w.alloc (.cells C.toArray 34) = W0 at HC0 HRG HXW hW0 ⊢
  go_loopw [3, 14] (fun s3 i wh => ∃ (j : Nat), j ≤ t.rails.length ∧ i = .int .i64 j ∧ s3 = .int .i64 (wayU t j) ∧ Ext W0 wh) (fun _ i _ => t.rails.length - (intOf i).toNat)
  case atStart => exact ⟨0, Nat.zero_le _, rfl, rfl, Ext.refl _⟩
  case round =>
    obtain ⟨j, hj, rfl, rfl, hxj⟩ := hrel
    have HXJ := Lib.hid hxj; clear hxj
    by_cases hlj : j < t.rails.length
    · have HSN := Lib.hid (wayU_succ t j hlj)
      generalize wayU t j = sj at HSN ⊢
      have hrr : wr.rangeAt b (off + j * 11) (t.rails[j]).cells := fun i v hi => by
        rw [Nat.add_assoc]
        exact ((HXW.out.trans HXJ.out).cell (p := ⟨b, off + (j * 11 + i), none⟩) hbl).trans (HRC.out (j * 11 + i) v (flat_get Ra.cells 11 t.rails (fun _ _ => rfl) j hlj i v hi))
      have hej := fun W (e : Ext w W) => HENT.out W e j hlj
      generalize entryS t j = en at hej HSN
      have HEJ := Lib.hid hej; clear hej
      have k0 : (0 : Int) ≤ (j : Int) := by omega
      have k1 : (j : Int) < (t.rails.length : Int) := by omega
      have k2 : decide ((t.rails.length : Int) ≤ (j : Int)) = false := by simp; omega
      have k3 : decide ((j : Int) < 0) = false := by simp
      have x8 : (t.rails[j]).cells[8]? = some (.int .i64 (t.rails[j]).stay) := rfl
      have hxs : (Tryz.prog.info? 72).map (·.size) = some (t.rails[j]).cells.length := by rw [(t.rails[j]).len]; kernel_rfl
      have hxs2 : (Tryz.prog.info? 72).map (·.size) = some (t.rails[j]).cells.toArray.size := by rw [List.size_toArray, (t.rails[j]).len]; kernel_rfl
      have hone : (t.rails[j]).cells.toArray.all (·.oneCell') = true := all_oneCell_toArray (by simp [Ra.cells, Value.oneCell'])
      have hl11 : (t.rails[j]).cells.toArray.size = 11 := rfl
      generalize (t.rails[j]).stay = fst at x8 HSN
      generalize (t.rails[j]).cells = cs at x8 hxs hxs2 hone hrr hl11
      have HRR := Lib.hid hrr; clear hrr
      have HXS := Lib.hid hxs; clear hxs
      have HXS2 := Lib.hid hxs2; clear hxs2
      have HONE := Lib.hid hone; clear hone
      have HL11 := Lib.hid hl11; clear hl11
      have hrj := HRG.out _ HXJ.out
      have hszr : w.heap.size < wr.heap.size := by have := HXJ.out.size; omega
      go_wp2_with (first
        | ((with_reducible refine atLoad 72 rfl ?_); refine wpList_load_mid rfl 72 _ rfl _ _ rfl _ _ HRR.out Tryz.underlying72 rfl HXS.out ?_)
        | ((with_reducible refine atStore 72 rfl ?_); refine wpList_store_new 72 _ _ rfl rfl wr _ cs.toArray rfl (wr.heap.size) rfl (by simp) rfl HXS2.out HL11.out.symm HONE.out (halt ?_)))
      unfold Halt
      have hr5 : (wr.alloc (.cells cs.toArray 72)).rangeAt wr.heap.size 0 cs := rangeAt_new wr cs 72
      have hrt : (wr.alloc (.cells cs.toArray 72)).rangeAt w.heap.size 0 C := rangeAt_ext hrj ((Ext.refl _).alloc _) (by omega)
      have hXA := HXJ.out.alloc (.cells cs.toArray 72)
      have hszA : (wr.alloc (.cells cs.toArray 72)).heap.size = wr.heap.size + 1 := by simp
      generalize wr.alloc (.cells cs.toArray 72) = W at hr5 hrt hXA hszA ⊢
      generalize wr.heap.size = xb at hr5 hszr hszA ⊢
      clear HRR HXS2 HONE HXS HL11 hrj
      go_wp2
      refine wp_region_held_drew (S := fun w' => w'.rangeAt w.heap.size 0 C ∧ w'.rangeAt xb 0 cs) (by kernel_rfl) ⟨by simpa using hrt, by simpa using hr5⟩ (fun hS => ?_)
      refine wpAnyH_take (i := 0) (oi := _) (v := .int .i64 sj) rfl (by kernel_rfl) (by kernel_rfl) (by kernel_rfl) (fun _ _ _ h => h) (Or.inl ⟨by kernel_rfl, fun _ _ => by kernel_rfl⟩) hS ?_
      refine wpAnyH_take (i := 1) (oi := _) (v := .agg (C).toArray) rfl (by kernel_rfl) (by kernel_rfl) (by kernel_rfl) (fun _ _ _ h => h) (yieldsIf_load_mid (by kernel_rfl) 34 (.tmp 1) rfl w.heap.size (0) (by kernel_rfl) (C) _ (fun _ h => h.1) Tryz.underlying34 rfl HS.out) hS ?_
      refine wpAnyH_take (i := 2) (oi := _) (v := .int .i64 (j : Int)) rfl (by kernel_rfl) (by kernel_rfl) (by kernel_rfl) (fun _ _ _ h => h) (Or.inl ⟨by kernel_rfl, fun _ _ => by kernel_rfl⟩) hS ?_
      refine wpAnyH_take (i := 4) (oi := _) (v := .pointer (some ⟨xb, 8, none⟩)) rfl (by kernel_rfl) (by kernel_rfl) (by kernel_rfl) (fun _ _ _ h => h) (yields_v (Instr.fieldAt 72 (.pointer (some ⟨xb, 0, none⟩)) 8) (by kernel_rfl) (by kernel_rfl) (fun w' _ => by go_simp)) hS ?_
      refine wpAnyH_take (i := 5) (oi := _) (v := .int .i64 fst) rfl (by kernel_rfl) (by kernel_rfl) (by kernel_rfl) (fun _ _ _ h => h) (yields_v (Instr.loadAt 3 (.pointer (some ⟨xb, 8, none⟩))) (by kernel_rfl) (by kernel_rfl) (fun W h => load_int (range_cell h.2 x8))) hS ?_
      refine wpAnyH_call (i := 3) (f := 34) (args := #[.agg C.toArray, .int .i64 (j : Int)]) (v := .int .i64 en) (by kernel_rfl) rfl (by kernel_rfl) (by kernel_rfl) (HEJ.out _ ((HXW.out.trans hXA).drew)) ?_
      rintro e w5 ⟨rfl, hx5⟩
      have hlW : W.heap.size ≤ w5.heap.size := hx5.size
      have hS5 : (fun w' : World => w'.rangeAt w.heap.size 0 C ∧ w'.rangeAt xb 0 cs) w5 := ⟨rangeAt_ext hS.1 hx5 (show w.heap.size < W.heap.size by omega), rangeAt_ext hS.2 hx5 (show xb < W.heap.size by omega)⟩
      refine ⟨rfl, hS5, ?_⟩
      refine wpAnyH_call (i := 6) (f := 88) (args := #[.int .i64 en, .int .i64 fst]) (v := .int .i64 (satAdd en fst)) (by kernel_rfl) rfl (by kernel_rfl) (by kernel_rfl) (Add_c _ _ _) ?_
      rintro e w6 ⟨rfl, rfl⟩
      refine ⟨rfl, hS5, ?_⟩
      refine wpAnyH_take (i := 7) (oi := _) (v := .int .i64 (max sj (satAdd en fst))) rfl (by kernel_rfl) (by kernel_rfl) (by kernel_rfl) (fun _ _ _ h => h) (yields_v (Builtin.max_ #[3, 3] 3 #[.int .i64 sj, .int .i64 (satAdd en fst)]) (by kernel_rfl) (by kernel_rfl) (fun W _ => run_max2 ..)) hS5 ?_
      refine wpAnyH_take (i := 8) (oi := _) (v := .int .i64 (max sj (satAdd en fst))) rfl (by kernel_rfl) (by kernel_rfl) (by kernel_rfl) (fun _ _ _ h => h) (Or.inl ⟨by kernel_rfl, fun _ _ => by kernel_rfl⟩) hS5 ?_
      refine wpAnyH_done (by kernel_rfl) ?_ _
      go_simp
      go_wp2
      go_roundw
      case rel => exact ⟨j + 1, by omega, by go_num, by rw [HSN.out], (hXA.drew).trans hx5⟩
      case measure => simp [intOf]; omega
    · have hjj : j = t.rails.length := by omega
      subst hjj
      generalize wayU t t.rails.length = way at HRES ⊢
      have HRJ := Lib.hid (HRG.out _ HXJ.out)
      go_wp2_with ((with_reducible refine atLoad 34 rfl ?_); refine wpList_load_mid rfl 34 _ rfl _ _ rfl _ _ HRJ.out Tryz.underlying34 rfl HS.out ?_)
      refine (HGR.out _).mono ?_
      rintro e w2 ⟨rfl, hx2⟩
      have HX2 := Lib.hid (HXJ.out.trans hx2); clear hx2
      have hr2 := HRG.out _ HX2.out
      have hsz2 : w.heap.size < w2.heap.size := by have := HX2.out.size; omega
      go_wp2
      refine wp_region_held_drew (S := fun w' => w'.rangeAt w.heap.size 0 C) (by kernel_rfl) (by simpa using hr2) (fun hS => ?_)
      refine wpAnyH_take (i := 0) (oi := _) (v := .int .i64 way) rfl (by kernel_rfl) (by kernel_rfl) (by kernel_rfl) (fun _ _ _ h => h) (Or.inl ⟨by kernel_rfl, fun _ _ => by kernel_rfl⟩) hS ?_
      refine wpAnyH_take (i := 1) (oi := _) (v := .int .i64 fle) rfl (by kernel_rfl) (by kernel_rfl) (by kernel_rfl) (fun _ _ _ h => h) (Or.inl ⟨by kernel_rfl, fun _ _ => by kernel_rfl⟩) hS ?_
      refine wpAnyH_take (i := 2) (oi := _) (v := .agg (C).toArray) rfl (by kernel_rfl) (by kernel_rfl) (by kernel_rfl) (fun _ _ _ h => h) (yieldsIf_load_mid (by kernel_rfl) 34 (.tmp 1) rfl w.heap.size (0) (by kernel_rfl) (C) _ (fun _ h => h) Tryz.underlying34 rfl HS.out) hS ?_
      refine wpAnyH_take (i := 4) (oi := _) (v := .pointer (some ⟨w.heap.size, 119, none⟩)) rfl (by kernel_rfl) (by kernel_rfl) (by kernel_rfl) (fun _ _ _ h => h) (yields_v (Instr.fieldAt 34 (.pointer (some ⟨w.heap.size, 0, none⟩)) 9) (by kernel_rfl) (by kernel_rfl) (fun w' _ => by go_simp)) hS ?_
      refine wpAnyH_take (i := 5) (oi := _) (v := .int .i64 frev) rfl (by kernel_rfl) (by kernel_rfl) (by kernel_rfl) (fun _ _ _ h => h) (yields_v (Instr.loadAt 3 (.pointer (some ⟨w.heap.size, 119, none⟩))) (by kernel_rfl) (by kernel_rfl) (fun W h => load_int (range_cell h c119))) hS ?_
      refine wpAnyH_call (i := 3) (f := 92) (args := #[.agg C.toArray]) (v := .int .i64 fcl) (by kernel_rfl) rfl (by kernel_rfl) (by kernel_rfl) (HCL.out _) ?_
      rintro e w5 ⟨rfl, hx5⟩
      have hlW : w.heap.size < w5.heap.size := Nat.lt_of_lt_of_le (show w.heap.size < w2.heap.size by omega) hx5.size
      have hS5 : (fun w' : World => w'.rangeAt w.heap.size 0 C) w5 := rangeAt_ext hS hx5 (show w.heap.size < w2.heap.size by omega)
      refine ⟨rfl, hS5, ?_⟩
      have hS6 : (fun w' : World => w'.rangeAt w.heap.size 0 C) (w5.alloc (.cells #[.int .i64 way, .int .i64 fle, .int .i64 fcl, .int .i64 frev, .int .i64 30] 3)) := rangeAt_ext hS5 ((Ext.refl w5).alloc _) (by omega)
      refine wpAnyH_step (i := 6) (.slice (some ⟨w5.heap.size, 0, none⟩) 5 5) (w5.alloc (.cells #[.int .i64 way, .int .i64 fle, .int .i64 fcl, .int .i64 frev, .int .i64 30] 3)) (by kernel_rfl) rfl (by kernel_rfl) (Instr.buildSlice 64 5 #[(0, .int .i64 way), (1, .int .i64 fle), (2, .int .i64 fcl), (3, .int .i64 frev), (4, .int .i64 30)]) (by kernel_rfl) (by go_simp) hS6 ?_
      have hsm := Sum_c (w5.alloc (.cells #[.int .i64 way, .int .i64 fle, .int .i64 fcl, .int .i64 frev, .int .i64 30] 3)) (.slice (some ⟨w5.heap.size, 0, none⟩) 5 5) [way, fle, fcl, frev, 30] (by exact rowIn_at _ _ _ _ _ (by first | rfl | simp)) (by simp)
      rw [HRES.out] at hsm
      refine wpAnyH_call (i := 7) (f := 90) (args := #[.slice (some ⟨w5.heap.size, 0, none⟩) 5 5]) (v := .int .i64 res) (by kernel_rfl) rfl (by kernel_rfl) (by kernel_rfl) (hsm) ?_
      rintro e w7 ⟨rfl, hx7⟩
      have hS7 : (fun w' : World => w'.rangeAt w.heap.size 0 C) w7 := rangeAt_ext hS6 hx7 (by simp; omega)
      refine ⟨rfl, hS7, ?_⟩
      refine wpAnyH_take (i := 8) (oi := _) (v := .int .i64 res) rfl (by kernel_rfl) (by kernel_rfl) (by kernel_rfl) (fun _ _ _ h => h) (Or.inl ⟨by kernel_rfl, fun _ _ => by kernel_rfl⟩) hS7 ?_
      clear hsm
      refine wpAnyH_done (by kernel_rfl) ?_ _
      go_simp
      go_wp2
      go_ret
      exact ⟨by kernel_rfl, ((HXW.out.trans HX2.out).drew.trans hx5).trans (((Ext.refl w5).alloc _).trans hx7)⟩
end Go.Proofs.YtpopnmelcplbbaaGreat
namespace Go.Proofs.YtpopnmelcplbbaaGreat
open Go.RowKit

def waitS (t : Tab) (p : Int) : Int := if freeS t p = 0 ∨ t.rails.length = 0 then freeS t p else satAdd (satMul (satAdd t.share 1) (sumL [overS t, freeS t p, 2])) t.share

set_option maxRecDepth 100000 in
set_option maxHeartbeats 4000000 in
theorem Wait_c (w : World) (gv dv rv bv : Value) (t : Tab) (hT : TabAt w gv dv rv bv t) (p : Int) : Calls Tryz.prog 32 #[tabV t gv dv rv bv, .int .i64 p] w (Ret w (.int .i64 (waitS t p))) := by
  have hx0 := (Ext.refl w).alloc (.cells (t.cells gv dv rv bv).toArray 34)
  have hTB := TB.new w t gv dv rv bv 34
  have hs := table_sz t gv dv rv bv
  have hrl := hT.rl
  have c130 := t.c130 gv dv rv bv
  have hfr := Free_c _ gv dv rv bv t (hT.ext hx0) p
  have hov := fun W (e : Ext w W) => Over_c W gv dv rv bv t (hT.ext e)
  obtain ⟨a, cp, rfl, hrow⟩ := hT.r
  have hc0 := fun W (e : Ext (w.alloc (.cells (t.cells gv dv (.slice a t.rails.length cp) bv).toArray 34)) W) => (hTB.ext e).cell (t.c114 gv dv (.slice a t.rails.length cp) bv)
  have hrg := fun W (e : Ext (w.alloc (.cells (t.cells gv dv (.slice a t.rails.length cp) bv).toArray 34)) W) => (hTB.ext e).range
  unfold waitS
  unfold tabV at hfr hov ⊢
  generalize t.cells gv dv (.slice a t.rails.length cp) bv = C at hx0 hc0 hrg hs c130 hfr hov ⊢
  clear hTB
  generalize freeS t p = ff at hfr ⊢
  generalize overS t = fov at hov ⊢
  generalize t.share = fsh at c130 ⊢
  have HR0 := Lib.hid (hrg _ (Ext.refl _))
  have HFR := Lib.hid hfr; clear hfr
  have HOV := Lib.hid hov; clear hov
  have HS := Lib.hid hs; clear hs
  have HRG := Lib.hid hrg; clear hrg
  have HC0 := Lib.hid hc0; clear hc0
  have HXW := Lib.hid hx0; clear hx0
  by_cases hf : ff = 0
  · rw [if_pos (Or.inl hf)]
    subst hf
    go_enter Tryz.func32, Tryz.ntmps32
    go_wp2_with ((with_reducible refine atLoad 34 rfl ?_); refine wpList_load_mid rfl 34 _ rfl _ _ rfl _ _ HR0.out Tryz.underlying34 rfl HS.out ?_)
    refine HFR.out.mono ?_
    rintro e w1 ⟨rfl, hx1⟩
    have HX1 := Lib.hid (HXW.out.trans hx1); clear hx1
    go_wp2
    go_ret
    exact ⟨by simp, HX1.out⟩
  have hfb : (ff == 0) = false := by simpa using hf
  by_cases hz : t.rails.length = 0
  · rw [if_pos (Or.inr hz)]
    have hb : ((t.rails.length : Int) == 0) = true := by simpa using hz
    go_enter Tryz.func32, Tryz.ntmps32
    go_wp2_with ((with_reducible refine atLoad 34 rfl ?_); refine wpList_load_mid rfl 34 _ rfl _ _ rfl _ _ HR0.out Tryz.underlying34 rfl HS.out ?_)
    refine HFR.out.mono ?_
    rintro e w1 ⟨rfl, hx1⟩
    have HX1 := Lib.hid (HXW.out.trans hx1)
    have hr1 := HC0.out _ hx1
    clear hx1
    go_wp2
    all_goals first | (go_ret; exact ⟨by simp, HX1.out⟩) | (rename_i hh _; simp [undef] at hh)
  rw [if_neg (by simp [hf, hz])]
  have hb : ((t.rails.length : Int) == 0) = false := by simpa using hz
  obtain ⟨res, hres⟩ : ∃ res, sumL [fov, ff, 2] = res := ⟨_, rfl⟩
  rw [hres]
  have HRES := Lib.hid hres; clear hres
  go_enter Tryz.func32, Tryz.ntmps32
  go_wp2_with ((with_reducible refine atLoad 34 rfl ?_); refine wpList_load_mid rfl 34 _ rfl _ _ rfl _ _ HR0.out Tryz.underlying34 rfl HS.out ?_)
  refine HFR.out.mono ?_
  rintro e w1 ⟨rfl, hx1⟩
  have HX1 := Lib.hid hx1; clear hx1
  have hr1 := HC0.out _ HX1.out
  have hrt := HRG.out _ HX1.out
  have hsz1 : w.heap.size < w1.heap.size := by have := HX1.out.size; simp at this; omega
  clear HR0 HFR
  go_wp2
  refine wp_region_held_drew (S := fun w' => w'.rangeAt w.heap.size 0 C) (by kernel_rfl) (by simpa using hrt) (fun hS => ?_)
  refine wpAnyH_take (i := 0) (oi := _) (v := .pointer (some ⟨w.heap.size, 130, none⟩)) rfl (by kernel_rfl) (by kernel_rfl) (by kernel_rfl) (fun _ _ _ h => h) (yields_v (Instr.fieldAt 34 (.pointer (some ⟨w.heap.size, 0, none⟩)) 13) (by kernel_rfl) (by kernel_rfl) (fun w' _ => by go_simp)) hS ?_
  refine wpAnyH_take (i := 1) (oi := _) (v := .int .i64 fsh) rfl (by kernel_rfl) (by kernel_rfl) (by kernel_rfl) (fun _ _ _ h => h) (yields_v (Instr.loadAt 3 (.pointer (some ⟨w.heap.size, 130, none⟩))) (by kernel_rfl) (by kernel_rfl) (fun W h => load_int (range_cell h c130))) hS ?_
  refine wpAnyH_take (i := 3) (oi := _) (v := .agg (C).toArray) rfl (by kernel_rfl) (by kernel_rfl) (by kernel_rfl) (fun _ _ _ h => h) (yieldsIf_load_mid (by kernel_rfl) 34 (.tmp 2) rfl w.heap.size (0) (by kernel_rfl) (C) _ (fun _ h => h) Tryz.underlying34 rfl HS.out) hS ?_
  refine wpAnyH_take (i := 5) (oi := _) (v := .int .i64 ff) rfl (by kernel_rfl) (by kernel_rfl) (by kernel_rfl) (fun _ _ _ h => h) (Or.inl ⟨by kernel_rfl, fun _ _ => by kernel_rfl⟩) hS ?_
  refine wpAnyH_take (i := 9) (oi := _) (v := .pointer (some ⟨w.heap.size, 130, none⟩)) rfl (by kernel_rfl) (by kernel_rfl) (by kernel_rfl) (fun _ _ _ h => h) (yields_v (Instr.fieldAt 34 (.pointer (some ⟨w.heap.size, 0, none⟩)) 13) (by kernel_rfl) (by kernel_rfl) (fun w' _ => by go_simp)) hS ?_
  refine wpAnyH_take (i := 10) (oi := _) (v := .int .i64 fsh) rfl (by kernel_rfl) (by kernel_rfl) (by kernel_rfl) (fun _ _ _ h => h) (yields_v (Instr.loadAt 3 (.pointer (some ⟨w.heap.size, 130, none⟩))) (by kernel_rfl) (by kernel_rfl) (fun W h => load_int (range_cell h c130))) hS ?_
  refine wpAnyH_call (i := 2) (f := 88) (args := #[.int .i64 fsh, .int .i64 1]) (v := .int .i64 (satAdd fsh 1)) (by kernel_rfl) rfl (by kernel_rfl) (by kernel_rfl) (Add_c _ _ _) ?_
  rintro e w6 ⟨rfl, rfl⟩
  refine ⟨rfl, hS, ?_⟩
  refine wpAnyH_call (i := 4) (f := 91) (args := #[.agg C.toArray]) (v := .int .i64 fov) (by kernel_rfl) rfl (by kernel_rfl) (by kernel_rfl) (HOV.out _ ((HXW.out.trans HX1.out).drew)) ?_
  rintro e w5 ⟨rfl, hx5⟩
  have hlW : w.heap.size < w5.heap.size := Nat.lt_of_lt_of_le (show w.heap.size < w1.heap.size by omega) hx5.size
  have hS5 : (fun w' : World => w'.rangeAt w.heap.size 0 C) w5 := rangeAt_ext hS hx5 (show w.heap.size < w1.heap.size by omega)
  refine ⟨rfl, hS5, ?_⟩
  have hS6 : (fun w' : World => w'.rangeAt w.heap.size 0 C) (w5.alloc (.cells #[.int .i64 fov, .int .i64 ff, .int .i64 2] 3)) := rangeAt_ext hS5 ((Ext.refl w5).alloc _) (by omega)
  refine wpAnyH_step (i := 6) (.slice (some ⟨w5.heap.size, 0, none⟩) 3 3) (w5.alloc (.cells #[.int .i64 fov, .int .i64 ff, .int .i64 2] 3)) (by kernel_rfl) rfl (by kernel_rfl) (Instr.buildSlice 64 3 #[(0, .int .i64 fov), (1, .int .i64 ff), (2, .int .i64 2)]) (by kernel_rfl) (by go_simp) hS6 ?_
  have hsm := Sum_c (w5.alloc (.cells #[.int .i64 fov, .int .i64 ff, .int .i64 2] 3)) (.slice (some ⟨w5.heap.size, 0, none⟩) 3 3) [fov, ff, 2] (by exact rowIn_at _ _ _ _ _ (by first | rfl | simp)) (by simp)
  rw [HRES.out] at hsm
  refine wpAnyH_call (i := 7) (f := 90) (args := #[.slice (some ⟨w5.heap.size, 0, none⟩) 3 3]) (v := .int .i64 res) (by kernel_rfl) rfl (by kernel_rfl) (by kernel_rfl) (hsm) ?_
  rintro e w7 ⟨rfl, hx7⟩
  have hS7 : (fun w' : World => w'.rangeAt w.heap.size 0 C) w7 := rangeAt_ext hS6 hx7 (by simp; omega)
  refine ⟨rfl, hS7, ?_⟩
  refine wpAnyH_call (i := 8) (f := 89) (args := #[.int .i64 (satAdd fsh 1), .int .i64 res]) (v := .int .i64 (satMul (satAdd fsh 1) res)) (by kernel_rfl) rfl (by kernel_rfl) (by kernel_rfl) (Mul_c _ _ _) ?_
  rintro e w8 ⟨rfl, rfl⟩
  refine ⟨rfl, hS7, ?_⟩
  refine wpAnyH_call (i := 11) (f := 88) (args := #[.int .i64 (satMul (satAdd fsh 1) res), .int .i64 fsh]) (v := .int .i64 (satAdd (satMul (satAdd fsh 1) res) fsh)) (by kernel_rfl) rfl (by kernel_rfl) (by kernel_rfl) (Add_c _ _ _) ?_
  rintro e w9 ⟨rfl, rfl⟩
  refine ⟨rfl, hS7, ?_⟩
  refine wpAnyH_take (i := 12) (oi := _) (v := .int .i64 (satAdd (satMul (satAdd fsh 1) res) fsh)) rfl (by kernel_rfl) (by kernel_rfl) (by kernel_rfl) (fun _ _ _ h => h) (Or.inl ⟨by kernel_rfl, fun _ _ => by kernel_rfl⟩) hS7 ?_
  clear hsm
  refine wpAnyH_done (by kernel_rfl) ?_ _
  go_simp
  go_wp2
  go_ret
  exact ⟨rfl, ((HXW.out.trans HX1.out).drew.trans hx5).trans (((Ext.refl w5).alloc _).trans hx7)⟩
end Go.Proofs.YtpopnmelcplbbaaGreat
