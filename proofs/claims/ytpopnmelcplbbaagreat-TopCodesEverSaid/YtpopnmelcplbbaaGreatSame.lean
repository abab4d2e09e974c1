/-
  the reference's Same: two values of the same table are the same.
-/
import Derived.DeepKeys
import Derived.Deep.CutRange
import Derived.Test.YtpopnmelcplbbaaGreatGRef
import Derived.Test.YtpopnmelcplbbaaGreatGDecode
import Derived.Test.YtpopnmelcplbbaaGreatPlan
import Derived.Test.YtpopnmelcplbbaaGreatEach
set_option linter.unusedVariables false
set_option linter.unusedSimpArgs false
namespace Go.Proofs.YtpopnmelcplbbaaGreat
open Go.RowKit

theorem eq_same {P : Program} {t : TypeId} {v : Value} (m : Nat) (hm : m ≤ 10000) (hk : P.keyTypeAt m t = true) (hf : v.formed P t = true) (hl : (P.keyLits 9 t v.cells.toList).isSome = true) (w : World) : (Op.equalIn 10000 t v v).run P w = .ok true w := by
  obtain ⟨la, hla⟩ := Option.isSome_iff_exists.1 hl
  obtain ⟨r, h1, h2⟩ := run_equalIn_deep (P := P) (10000 - m) m t hk w 9 9 v v la la hf hf hla hla
  rw [show 10000 - m + m = 10000 by omega] at h1
  rw [h1, h2.2 rfl]

/-- the parts of a table that Go compares whole -/
structure Keyed (t : Tab) : Prop where
  p : (Tryz.prog.keyLits 9 27 (t.phs.flatMap Ph.cells)).isSome = true
  c : (Tryz.prog.keyLits 9 29 (ints (arr8 t.conflict))).isSome = true
  f : (Tryz.prog.keyLits 9 29 (ints (arr8 t.flash))).isSome = true
  r : ∀ x ∈ t.rails, (Tryz.prog.keyLits 9 72 x.cells).isSome = true
  b : ∀ x ∈ t.buses, (Tryz.prog.keyLits 9 74 x.cells).isSome = true

theorem arr8_len (f : Nat → Int) : (ints (arr8 f)).length = 8 := rfl
theorem TB.conf {W : World} {b : Nat} {t : Tab} {gv dv rv bv : Value} (h : TB W b t gv dv rv bv) : W.rangeAt b 105 (ints (arr8 t.conflict)) := fun j v hj => by
  have hlt : j < 8 := (List.getElem?_eq_some_iff.1 hj).1
  rw [h.cell (t.conf_at gv dv rv bv j hlt), ← hj]
  match j, hlt with
  | 0, _ | 1, _ | 2, _ | 3, _ | 4, _ | 5, _ | 6, _ | 7, _ => rfl
theorem TB.flash {W : World} {b : Nat} {t : Tab} {gv dv rv bv : Value} (h : TB W b t gv dv rv bv) : W.rangeAt b 121 (ints (arr8 t.flash)) := fun j v hj => by
  have hlt : j < 8 := (List.getElem?_eq_some_iff.1 hj).1
  rw [h.cell (t.flash_at gv dv rv bv j hlt), ← hj]
  match j, hlt with
  | 0, _ | 1, _ | 2, _ | 3, _ | 4, _ | 5, _ | 6, _ | 7, _ => rfl

theorem load_gs {W : World} {A : Addr} {p : Option Addr} {n c : Nat} (h : W.cell? A = some (.slice p n c)) : (Instr.loadAt 28 (.pointer (some A))).run Tryz.prog W = .ok (.slice p n c) W := by go_simp
theorem load_ds {W : World} {A : Addr} {p : Option Addr} {n c : Nat} (h : W.cell? A = some (.slice p n c)) : (Instr.loadAt 30 (.pointer (some A))).run Tryz.prog W = .ok (.slice p n c) W := by go_simp
theorem store_agg {W : World} {b : Nat} {T : TypeId} {cells : Array Value} (ht : W.there b 0 cells.size) (hi : (Tryz.prog.info? T).map (·.size) = some cells.size) (h1 : cells.all (·.oneCell') = true) :
    (Instr.storeAt T (.pointer (some ⟨b, 0, none⟩)) (.agg cells)).run Tryz.prog W = .ok () (W.setCells b 0 cells.toList) := by
  simp only [Instr.storeAt, Instr.sureAddr, Sem.run_bind, Sem.run_pure, Result.andThen_ok, run_storeVar_mid W b 0 T cells ht hi h1]
/-- a detector that was made and not yet written -/
def ZD : Obj := .cells #[.int .i64 0, .float .f64 0, .float .f64 0, .float .f64 0, .float .f64 0, .int .i64 0, .int .i64 0] 68
theorem two_made12 (W : World) (d : Det) : ∃ (Wa Wb Wc Wd : World) (B1 B2 : Nat), (Instr.alloc 68 true (.tuple #[])).run Tryz.prog W = .ok (.pointer (some ⟨B1, 0, none⟩)) Wa ∧ (Instr.alloc 68 true (.tuple #[])).run Tryz.prog Wa = .ok (.pointer (some ⟨B2, 0, none⟩)) Wb ∧
    (Instr.storeAt 68 (.pointer (some ⟨B1, 0, none⟩)) (.agg d.cells.toArray)).run Tryz.prog Wb = .ok () Wc ∧ (Instr.storeAt 68 (.pointer (some ⟨B2, 0, none⟩)) (.agg d.cells.toArray)).run Tryz.prog Wc = .ok () Wd ∧
    Ext W Wa ∧ Ext W Wb ∧ Ext W Wc ∧ Ext W Wd ∧ Wd.rangeAt B1 0 d.cells ∧ Wd.rangeAt B2 0 d.cells ∧ B1 < Wd.heap.size ∧ B2 < Wd.heap.size := by
  have oa0 := Own0.made (Ext.refl W) ([.int .i64 0, .float .f64 0, .float .f64 0, .float .f64 0, .float .f64 0, .int .i64 0, .int .i64 0] : List Value) 68
  have ob := Own0.made oa0.x ([.int .i64 0, .float .f64 0, .float .f64 0, .float .f64 0, .float .f64 0, .int .i64 0, .int .i64 0] : List Value) 68
  have oa := oa0.ext ((Ext.refl _).alloc (.cells ([.int .i64 0, .float .f64 0, .float .f64 0, .float .f64 0, .float .f64 0, .int .i64 0, .int .i64 0] : List Value).toArray 68))
  have hne : (W.alloc ZD).heap.size ≠ W.heap.size := by rw [World.size_alloc]; omega
  have of1 := oa.all d.cells rfl
  have og1 := ob.sets_other oa.new (by first | exact hne | exact hne.symm) 0 d.cells
  have og2 := og1.all d.cells rfl
  have of2 := of1.sets_other ob.new (by first | exact hne | exact hne.symm) 0 d.cells
  have hone : d.cells.toArray.all (·.oneCell') = true := all_oneCell_toArray (by simp [Det.cells, Value.oneCell'])
  have hxs : (Tryz.prog.info? 68).map (·.size) = some d.cells.toArray.size := by rw [List.size_toArray, d.len]; kernel_rfl
  refine ⟨W.alloc ZD, ((W.alloc ZD).alloc ZD), (((W.alloc ZD).alloc ZD).setCells (W.heap.size) 0 d.cells), ((((W.alloc ZD).alloc ZD).setCells (W.heap.size) 0 d.cells).setCells ((W.alloc ZD).heap.size) 0 d.cells), W.heap.size, (W.alloc ZD).heap.size, by unfold ZD; go_simp, by unfold ZD; go_simp, store_agg (oa.there 0 7 (by simp)) hxs hone, store_agg (og1.there 0 7 (by simp)) hxs hone, oa0.x, oa.x, of1.x, of2.x, of2.range, og2.range, of2.lt, og2.lt⟩

theorem two_made21 (W : World) (d : Det) : ∃ (Wa Wb Wc Wd : World) (B1 B2 : Nat), (Instr.alloc 68 true (.tuple #[])).run Tryz.prog W = .ok (.pointer (some ⟨B1, 0, none⟩)) Wa ∧ (Instr.alloc 68 true (.tuple #[])).run Tryz.prog Wa = .ok (.pointer (some ⟨B2, 0, none⟩)) Wb ∧
    (Instr.storeAt 68 (.pointer (some ⟨B2, 0, none⟩)) (.agg d.cells.toArray)).run Tryz.prog Wb = .ok () Wc ∧ (Instr.storeAt 68 (.pointer (some ⟨B1, 0, none⟩)) (.agg d.cells.toArray)).run Tryz.prog Wc = .ok () Wd ∧
    Ext W Wa ∧ Ext W Wb ∧ Ext W Wc ∧ Ext W Wd ∧ Wd.rangeAt B1 0 d.cells ∧ Wd.rangeAt B2 0 d.cells ∧ B1 < Wd.heap.size ∧ B2 < Wd.heap.size := by
  have oa0 := Own0.made (Ext.refl W) ([.int .i64 0, .float .f64 0, .float .f64 0, .float .f64 0, .float .f64 0, .int .i64 0, .int .i64 0] : List Value) 68
  have ob := Own0.made oa0.x ([.int .i64 0, .float .f64 0, .float .f64 0, .float .f64 0, .float .f64 0, .int .i64 0, .int .i64 0] : List Value) 68
  have oa := oa0.ext ((Ext.refl _).alloc (.cells ([.int .i64 0, .float .f64 0, .float .f64 0, .float .f64 0, .float .f64 0, .int .i64 0, .int .i64 0] : List Value).toArray 68))
  have hne : (W.alloc ZD).heap.size ≠ W.heap.size := by rw [World.size_alloc]; omega
  have of1 := ob.all d.cells rfl
  have og1 := oa.sets_other ob.new (by first | exact hne | exact hne.symm) 0 d.cells
  have og2 := og1.all d.cells rfl
  have of2 := of1.sets_other oa.new (by first | exact hne | exact hne.symm) 0 d.cells
  have hone : d.cells.toArray.all (·.oneCell') = true := all_oneCell_toArray (by simp [Det.cells, Value.oneCell'])
  have hxs : (Tryz.prog.info? 68).map (·.size) = some d.cells.toArray.size := by rw [List.size_toArray, d.len]; kernel_rfl
  refine ⟨W.alloc ZD, ((W.alloc ZD).alloc ZD), (((W.alloc ZD).alloc ZD).setCells ((W.alloc ZD).heap.size) 0 d.cells), ((((W.alloc ZD).alloc ZD).setCells ((W.alloc ZD).heap.size) 0 d.cells).setCells (W.heap.size) 0 d.cells), W.heap.size, (W.alloc ZD).heap.size, by unfold ZD; go_simp, by unfold ZD; go_simp, store_agg (ob.there 0 7 (by simp)) hxs hone, store_agg (og1.there 0 7 (by simp)) hxs hone, oa0.x, oa.x, of1.x, of2.x, og2.range, of2.range, og2.lt, of2.lt⟩

theorem load_flt {W : World} {A : Addr} {x : Nat} (h : W.cell? A = some (.float .f64 x)) : (Instr.loadAt 66 (.pointer (some A))).run Tryz.prog W = .ok (.float .f64 x) W := by go_simp
theorem load_bs {W : World} {A : Addr} {p : Option Addr} {n c : Nat} (h : W.cell? A = some (.slice p n c)) : (Instr.loadAt 32 (.pointer (some A))).run Tryz.prog W = .ok (.slice p n c) W := by go_simp
theorem load_is {W : World} {A : Addr} {p : Option Addr} {n c : Nat} (h : W.cell? A = some (.slice p n c)) : (Instr.loadAt 64 (.pointer (some A))).run Tryz.prog W = .ok (.slice p n c) W := by go_simp

set_option maxRecDepth 100000 in
set_option maxHeartbeats 8000000 in
theorem Same_c (w : World) (gv dv rv bv gv2 dv2 rv2 bv2 : Value) (t : Tab) (hT : TabAt w gv dv rv bv t) (hT2 : TabAt w gv2 dv2 rv2 bv2 t) (hk : Keyed t) :
    Calls Tryz.prog 7 #[tabV t gv dv rv bv, tabV t gv2 dv2 rv2 bv2] w (Ret w (.bool true)) := by
  have hx1 := ((Ext.refl w).alloc (.cells (t.cells gv dv rv bv).toArray 34)).alloc (.cells (t.cells gv2 dv2 rv2 bv2).toArray 34)
  have hB1 := (TB.new w t gv dv rv bv 34).ext ((Ext.refl _).alloc (.cells (t.cells gv2 dv2 rv2 bv2).toArray 34))
  have hB2 := TB.new (w.alloc (.cells (t.cells gv dv rv bv).toArray 34)) t gv2 dv2 rv2 bv2 34
  rw [World.size_alloc] at hB2
  have e27 := fun w' => eq_same (P := Tryz.prog) (t := 27) (v := .agg (t.phs.flatMap Ph.cells).toArray) 6 (by omega) (by kernel_rfl) (by kernel_rfl) (by simpa [Value.cells] using hk.p) w'
  have eC := fun w' => eq_same (P := Tryz.prog) (t := 29) (v := .agg (ints (arr8 t.conflict)).toArray) 6 (by omega) (by kernel_rfl) (by kernel_rfl) (by simpa [Value.cells] using hk.c) w'
  have eF := fun w' => eq_same (P := Tryz.prog) (t := 29) (v := .agg (ints (arr8 t.flash)).toArray) 6 (by omega) (by kernel_rfl) (by kernel_rfl) (by simpa [Value.cells] using hk.f) w'
  obtain ⟨ga, gcp, rfl⟩ : ∃ a c, gv = .slice a t.groups.length c := by
    obtain ⟨gvs, hgs, hgr, hok⟩ := hT.g
    obtain ⟨a, c, rfl, hrow⟩ := hgr
    exact ⟨a, c, by rw [hgs, List.length_map]⟩
  obtain ⟨ga2, gcp2, rfl⟩ : ∃ a c, gv2 = .slice a t.groups.length c := by
    obtain ⟨gvs, hgs, hgr, hok⟩ := hT2.g
    obtain ⟨a, c, rfl, hrow⟩ := hgr
    exact ⟨a, c, by rw [hgs, List.length_map]⟩
  obtain ⟨da, dcp, rfl, hd1⟩ := hT.d
  obtain ⟨da2, dcp2, rfl, hd2⟩ := hT2.d
  obtain ⟨ra, rcp, rfl, hr1⟩ := hT.r
  obtain ⟨ra2, rcp2, rfl, hr2⟩ := hT2.r
  obtain ⟨ba, bcp, rfl, hb1⟩ := hT.b
  obtain ⟨ba2, bcp2, rfl, hb2⟩ := hT2.b
  have q1_104 := hB1.cell (t.c104 (.slice ga t.groups.length gcp) (.slice da t.dets.length dcp) (.slice ra t.rails.length rcp) (.slice ba t.buses.length bcp))
  have q1_113 := hB1.cell (t.c113 (.slice ga t.groups.length gcp) (.slice da t.dets.length dcp) (.slice ra t.rails.length rcp) (.slice ba t.buses.length bcp))
  have q1_114 := hB1.cell (t.c114 (.slice ga t.groups.length gcp) (.slice da t.dets.length dcp) (.slice ra t.rails.length rcp) (.slice ba t.buses.length bcp))
  have q1_115 := hB1.cell (t.c115 (.slice ga t.groups.length gcp) (.slice da t.dets.length dcp) (.slice ra t.rails.length rcp) (.slice ba t.buses.length bcp))
  have q1_116 := hB1.cell (t.c116 (.slice ga t.groups.length gcp) (.slice da t.dets.length dcp) (.slice ra t.rails.length rcp) (.slice ba t.buses.length bcp))
  have q1_117 := hB1.cell (t.c117 (.slice ga t.groups.length gcp) (.slice da t.dets.length dcp) (.slice ra t.rails.length rcp) (.slice ba t.buses.length bcp))
  have q1_118 := hB1.cell (t.c118 (.slice ga t.groups.length gcp) (.slice da t.dets.length dcp) (.slice ra t.rails.length rcp) (.slice ba t.buses.length bcp))
  have q1_119 := hB1.cell (t.c119 (.slice ga t.groups.length gcp) (.slice da t.dets.length dcp) (.slice ra t.rails.length rcp) (.slice ba t.buses.length bcp))
  have q1_120 := hB1.cell (t.c120 (.slice ga t.groups.length gcp) (.slice da t.dets.length dcp) (.slice ra t.rails.length rcp) (.slice ba t.buses.length bcp))
  have q1_129 := hB1.cell (t.c129 (.slice ga t.groups.length gcp) (.slice da t.dets.length dcp) (.slice ra t.rails.length rcp) (.slice ba t.buses.length bcp))
  have q1_130 := hB1.cell (t.c130 (.slice ga t.groups.length gcp) (.slice da t.dets.length dcp) (.slice ra t.rails.length rcp) (.slice ba t.buses.length bcp))
  have q2_104 := hB2.cell (t.c104 (.slice ga2 t.groups.length gcp2) (.slice da2 t.dets.length dcp2) (.slice ra2 t.rails.length rcp2) (.slice ba2 t.buses.length bcp2))
  have q2_113 := hB2.cell (t.c113 (.slice ga2 t.groups.length gcp2) (.slice da2 t.dets.length dcp2) (.slice ra2 t.rails.length rcp2) (.slice ba2 t.buses.length bcp2))
  have q2_114 := hB2.cell (t.c114 (.slice ga2 t.groups.length gcp2) (.slice da2 t.dets.length dcp2) (.slice ra2 t.rails.length rcp2) (.slice ba2 t.buses.length bcp2))
  have q2_115 := hB2.cell (t.c115 (.slice ga2 t.groups.length gcp2) (.slice da2 t.dets.length dcp2) (.slice ra2 t.rails.length rcp2) (.slice ba2 t.buses.length bcp2))
  have q2_116 := hB2.cell (t.c116 (.slice ga2 t.groups.length gcp2) (.slice da2 t.dets.length dcp2) (.slice ra2 t.rails.length rcp2) (.slice ba2 t.buses.length bcp2))
  have q2_117 := hB2.cell (t.c117 (.slice ga2 t.groups.length gcp2) (.slice da2 t.dets.length dcp2) (.slice ra2 t.rails.length rcp2) (.slice ba2 t.buses.length bcp2))
  have q2_118 := hB2.cell (t.c118 (.slice ga2 t.groups.length gcp2) (.slice da2 t.dets.length dcp2) (.slice ra2 t.rails.length rcp2) (.slice ba2 t.buses.length bcp2))
  have q2_119 := hB2.cell (t.c119 (.slice ga2 t.groups.length gcp2) (.slice da2 t.dets.length dcp2) (.slice ra2 t.rails.length rcp2) (.slice ba2 t.buses.length bcp2))
  have q2_120 := hB2.cell (t.c120 (.slice ga2 t.groups.length gcp2) (.slice da2 t.dets.length dcp2) (.slice ra2 t.rails.length rcp2) (.slice ba2 t.buses.length bcp2))
  have q2_129 := hB2.cell (t.c129 (.slice ga2 t.groups.length gcp2) (.slice da2 t.dets.length dcp2) (.slice ra2 t.rails.length rcp2) (.slice ba2 t.buses.length bcp2))
  have q2_130 := hB2.cell (t.c130 (.slice ga2 t.groups.length gcp2) (.slice da2 t.dets.length dcp2) (.slice ra2 t.rails.length rcp2) (.slice ba2 t.buses.length bcp2))
  have p1 := hB1.phs
  have p2 := hB2.phs
  have cf1 := hB1.conf
  have cf2 := hB2.conf
  have fl1 := hB1.flash
  have fl2 := hB2.flash
  have n27 : (Tryz.prog.info? 27).map (·.size) = some (t.phs.flatMap Ph.cells).length := by kernel_rfl
  have nC : (Tryz.prog.info? 29).map (·.size) = some (ints (arr8 t.conflict)).length := by kernel_rfl
  have nF : (Tryz.prog.info? 29).map (·.size) = some (ints (arr8 t.flash)).length := by kernel_rfl
  have HK := Lib.hid hk; clear hk
  unfold tabV
  generalize t.phs.flatMap Ph.cells = CP at e27 p1 p2 n27
  generalize ints (arr8 t.conflict) = CC at eC cf1 cf2 nC
  generalize ints (arr8 t.flash) = CF at eF fl1 fl2 nF
  have HP1 := Lib.hid p1; clear p1
  have HP2 := Lib.hid p2; clear p2
  have HC1 := Lib.hid cf1; clear cf1
  have HC2 := Lib.hid cf2; clear cf2
  have HF1 := Lib.hid fl1; clear fl1
  have HF2 := Lib.hid fl2; clear fl2
  have HN27 := Lib.hid n27; clear n27
  have HNC := Lib.hid nC; clear nC
  have HNF := Lib.hid nF; clear nF
  generalize hC1 : t.cells (.slice ga t.groups.length gcp) (.slice da t.dets.length dcp) (.slice ra t.rails.length rcp) (.slice ba t.buses.length bcp) = C1 at *
  generalize hC2 : t.cells (.slice ga2 t.groups.length gcp2) (.slice da2 t.dets.length dcp2) (.slice ra2 t.rails.length rcp2) (.slice ba2 t.buses.length bcp2) = C2 at *
  have HX1 := Lib.hid hx1; clear hx1
  have HB1 := Lib.hid hB1; clear hB1
  have HB2 := Lib.hid hB2; clear hB2
  have HC1' := Lib.hid hC1; clear hC1
  have HC2' := Lib.hid hC2; clear hC2
  go_enter Tryz.func7, Tryz.ntmps7
  go_wp2_with (first
    | ((with_reducible refine atLoad 27 rfl ?_); first | refine wpList_load_mid rfl 27 _ rfl _ _ rfl _ _ HP1.out Tryz.underlying27 rfl HN27.out ?_ | refine wpList_load_mid rfl 27 _ rfl _ _ rfl _ _ HP2.out Tryz.underlying27 rfl HN27.out ?_)
    | ((with_reducible refine atLoad 29 rfl ?_); first
      | refine wpList_loadG 29 _ rfl (by rfl) w.heap.size 105 rfl _ _ HC1.out Tryz.underlying29 rfl HNC.out ?_
      | refine wpList_loadG 29 _ rfl (by rfl) (w.heap.size + 1) 105 rfl _ _ HC2.out Tryz.underlying29 rfl HNC.out ?_
      | refine wpList_loadG 29 _ rfl (by rfl) w.heap.size 121 rfl _ _ HF1.out Tryz.underlying29 rfl HNF.out ?_
      | refine wpList_loadG 29 _ rfl (by rfl) (w.heap.size + 1) 121 rfl _ _ HF2.out Tryz.underlying29 rfl HNF.out ?_))
  have hex := (HX1.out.alloc (.cells (ints [t.extend, t.budget, t.start, t.revert, t.least, t.window, t.share]).toArray 3)).alloc (.cells (ints [t.extend, t.budget, t.start, t.revert, t.least, t.window, t.share]).toArray 3)
  have hex0 := ((Ext.refl ((w.alloc (.cells C1.toArray 34)).alloc (.cells C2.toArray 34))).alloc (.cells (ints [t.extend, t.budget, t.start, t.revert, t.least, t.window, t.share]).toArray 3)).alloc (.cells (ints [t.extend, t.budget, t.start, t.revert, t.least, t.window, t.share]).toArray 3)
  have hsi := SameInts_c _ (.slice (some ⟨w.heap.size + 1 + 1, 0, none⟩) 7 7) (.slice (some ⟨w.heap.size + 1 + 1 + 1, 0, none⟩) 7 7) [t.extend, t.budget, t.start, t.revert, t.least, t.window, t.share]
    (by have := (rowIn_new ((w.alloc (.cells C1.toArray 34)).alloc (.cells C2.toArray 34)) (ints [t.extend, t.budget, t.start, t.revert, t.least, t.window, t.share]) 3 7).ext ((Ext.refl _).alloc (.cells (ints [t.extend, t.budget, t.start, t.revert, t.least, t.window, t.share]).toArray 3)); rw [World.size_alloc, World.size_alloc] at this; exact this)
    (by have := rowIn_new (((w.alloc (.cells C1.toArray 34)).alloc (.cells C2.toArray 34)).alloc (.cells (ints [t.extend, t.budget, t.start, t.revert, t.least, t.window, t.share]).toArray 3)) (ints [t.extend, t.budget, t.start, t.revert, t.least, t.window, t.share]) 3 7; rw [World.size_alloc, World.size_alloc, World.size_alloc] at this; exact this) (by simp)
  refine hsi.mono ?_
  rintro e w1 ⟨rfl, hx2⟩
  have HY := Lib.hid (hex0.trans hx2)
  clear hsi hex hex0 hx2
  clear q1_104 q1_113 q1_114 q1_115 q1_116 q1_117 q1_118 q1_119 q1_120 q1_129 q1_130 q2_104 q2_113 q2_114 q2_115 q2_116 q2_117 q2_118 q2_119 q2_120 q2_129 q2_130 e27 eC eF HP1 HP2 HC1 HC2 HF1 HF2 HN27 HNC HNF
  have hsW : ((w.alloc (.cells C1.toArray 34)).alloc (.cells C2.toArray 34)).heap.size = w.heap.size + 2 := by simp
  generalize (w.alloc (.cells C1.toArray 34)).alloc (.cells C2.toArray 34) = W0 at HX1 HB1 HB2 HY hsW ⊢
  have HA104 := Lib.hid (fun W (e : Ext W0 W) => (HB1.out.ext e).cell (t.c104 (.slice ga t.groups.length gcp) (.slice da t.dets.length dcp) (.slice ra t.rails.length rcp) (.slice ba t.buses.length bcp)))
  have HD104 := Lib.hid (fun W (e : Ext W0 W) => (HB2.out.ext e).cell (t.c104 (.slice ga2 t.groups.length gcp2) (.slice da2 t.dets.length dcp2) (.slice ra2 t.rails.length rcp2) (.slice ba2 t.buses.length bcp2)))
  have HA113 := Lib.hid (fun W (e : Ext W0 W) => (HB1.out.ext e).cell (t.c113 (.slice ga t.groups.length gcp) (.slice da t.dets.length dcp) (.slice ra t.rails.length rcp) (.slice ba t.buses.length bcp)))
  have HD113 := Lib.hid (fun W (e : Ext W0 W) => (HB2.out.ext e).cell (t.c113 (.slice ga2 t.groups.length gcp2) (.slice da2 t.dets.length dcp2) (.slice ra2 t.rails.length rcp2) (.slice ba2 t.buses.length bcp2)))
  have HA114 := Lib.hid (fun W (e : Ext W0 W) => (HB1.out.ext e).cell (t.c114 (.slice ga t.groups.length gcp) (.slice da t.dets.length dcp) (.slice ra t.rails.length rcp) (.slice ba t.buses.length bcp)))
  have HD114 := Lib.hid (fun W (e : Ext W0 W) => (HB2.out.ext e).cell (t.c114 (.slice ga2 t.groups.length gcp2) (.slice da2 t.dets.length dcp2) (.slice ra2 t.rails.length rcp2) (.slice ba2 t.buses.length bcp2)))
  have HA115 := Lib.hid (fun W (e : Ext W0 W) => (HB1.out.ext e).cell (t.c115 (.slice ga t.groups.length gcp) (.slice da t.dets.length dcp) (.slice ra t.rails.length rcp) (.slice ba t.buses.length bcp)))
  have HD115 := Lib.hid (fun W (e : Ext W0 W) => (HB2.out.ext e).cell (t.c115 (.slice ga2 t.groups.length gcp2) (.slice da2 t.dets.length dcp2) (.slice ra2 t.rails.length rcp2) (.slice ba2 t.buses.length bcp2)))
  have HGL := Lib.hid hT.gl
  have a0 := HA104.out _ HY.out
  go_wp2
  go_loopw [5] (fun i wh => ∃ (j : Nat), j ≤ t.groups.length ∧ i = .int .i64 j ∧ Ext W0 wh) (fun i _ => t.groups.length - (intOf i).toNat)
  case atStart => exact ⟨0, Nat.zero_le _, rfl, HY.out⟩
  case round =>
    obtain ⟨j, hj, rfl, hx⟩ := hrel
    have HX := Lib.hid hx; clear hx
    have a1 := HA104.out _ HX.out
    by_cases hlj : j < t.groups.length
    · have hgl := HGL.out
      obtain ⟨gvs, hgs, ⟨_, _, hsl, hrow⟩, hok⟩ := hT.g
      simp only [Value.slice.injEq] at hsl
      obtain ⟨rfl, hln, rfl⟩ := hsl
      obtain ⟨gvs2, hgs2, ⟨_, _, hsl2, hrow2⟩, hok2⟩ := hT2.g
      simp only [Value.slice.injEq] at hsl2
      obtain ⟨rfl, hln2, rfl⟩ := hsl2
      rcases hrow with ⟨h0, _⟩ | ⟨b, off, rfl, hb, hcl⟩
      · omega
      rcases hrow2 with ⟨h0, _⟩ | ⟨b2, off2, rfl, hb2, hcl2⟩
      · omega
      have hj1 : j < gvs.length := by omega
      have hj2 : j < gvs2.length := by omega
      have hxw := HX1.out.trans HX.out
      have hm1 : wr.rangeAt b (off + j * 2) (GV.cells gvs[j]) := fun i v hi => by
        rw [Nat.add_assoc]
        exact (hxw.cell (p := ⟨b, off + (j * 2 + i), none⟩) hb).trans (hcl (j * 2 + i) v (flat_get GV.cells 2 gvs (fun _ _ => rfl) j hj1 i v hi))
      have hm2 : wr.rangeAt b2 (off2 + j * 2) (GV.cells gvs2[j]) := fun i v hi => by
        rw [Nat.add_assoc]
        exact (hxw.cell (p := ⟨b2, off2 + (j * 2 + i), none⟩) hb2).trans (hcl2 (j * 2 + i) v (flat_get GV.cells 2 gvs2 (fun _ _ => rfl) j hj2 i v hi))
      have hgg : (gvs[j]).g = (gvs2[j]).g := by
        have e1 : (gvs.map GV.g)[j]? = (gvs2.map GV.g)[j]? := by rw [← hgs, ← hgs2]
        simpa [hj1, hj2] using e1
      have ho1 := (hok gvs[j] (by simp)).ext hxw
      have ho2 := (hok2 gvs2[j] (by simp)).ext hxw
      generalize gvs[j] = x1 at hm1 hgg ho1
      generalize gvs2[j] = x2 at hm2 hgg ho2
      obtain ⟨va, vb, gl, gr⟩ := x1
      obtain ⟨va2, vb2, gl2, gr2⟩ := x2
      simp only [GV.g, Prod.mk.injEq] at hgg
      obtain ⟨rfl, rfl⟩ := hgg
      obtain ⟨hA, hB, hla, hlb⟩ := ho1
      obtain ⟨hA2, hB2, _, _⟩ := ho2
      dsimp only at hA hB hA2 hB2 hla hlb
      have m1a := hm1 0 va rfl
      have m1b := hm1 1 vb rfl
      have m2a := hm2 0 va2 rfl
      have m2b := hm2 1 vb2 rfl
      rw [Nat.add_zero] at m1a m2a
      have HHA := Lib.hid hA
      have HHB := Lib.hid hB
      have HHA2 := Lib.hid hA2
      have HHB2 := Lib.hid hB2
      obtain ⟨pa, ca, rfl, -⟩ := hA
      obtain ⟨pb, cb, rfl, -⟩ := hB
      obtain ⟨pa2, ca2, rfl, -⟩ := hA2
      obtain ⟨pb2, cb2, rfl, -⟩ := hB2
      have a2 := HD104.out _ HX.out
      have k0 : (0 : Int) ≤ (j : Int) := by omega
      have k1 : (j : Int) < (t.groups.length : Int) := by omega
      have k2 : decide ((t.groups.length : Int) ≤ (j : Int)) = false := by simp; omega
      have k3 : decide ((j : Int) < 0) = false := by simp
      have hbw : b < wr.drew.heap.size := Nat.lt_of_lt_of_le hb hxw.size
      have hbw2 : b2 < wr.drew.heap.size := Nat.lt_of_lt_of_le hb2 hxw.size
      have htw0 : w.heap.size < wr.drew.heap.size := by have := HX.out.size; show w.heap.size < wr.heap.size; omega
      have htw : w.heap.size + 1 < wr.drew.heap.size := by have := HX.out.size; show w.heap.size + 1 < wr.heap.size; omega
      clear hcl hcl2 hm1 hm2 hok hok2 hsW
      go_wp2
      refine wp_region_held_drew (S := fun w' => w'.cell? ⟨w.heap.size, 104, none⟩ = some (.slice (some ⟨b, off, none⟩) t.groups.length gcp) ∧ w'.cell? ⟨w.heap.size + 1, 104, none⟩ = some (.slice (some ⟨b2, off2, none⟩) t.groups.length gcp2) ∧
        w'.cell? ⟨b, off + j * 2, none⟩ = some (.slice pa gl.length ca) ∧ w'.cell? ⟨b, off + j * 2 + 1, none⟩ = some (.slice pb gr.length cb) ∧ w'.cell? ⟨b2, off2 + j * 2, none⟩ = some (.slice pa2 gl.length ca2) ∧ w'.cell? ⟨b2, off2 + j * 2 + 1, none⟩ = some (.slice pb2 gr.length cb2)) (by kernel_rfl)
        ⟨by simpa using a1, by simpa using a2, by simpa using m1a, by simpa using m1b, by simpa using m2a, by simpa using m2b⟩ (fun hS => ?_)
      refine wpAnyH_take (i := 0) (oi := _) (v := .pointer (some ⟨w.heap.size, 104, none⟩)) rfl (by kernel_rfl) (by kernel_rfl) (by kernel_rfl) (fun _ _ _ h => h) (yields_v (Instr.fieldAt 34 (.pointer (some ⟨w.heap.size, 0, none⟩)) 1) (by kernel_rfl) (by kernel_rfl) (fun w' _ => by go_simp)) hS ?_
      refine wpAnyH_take (i := 1) (oi := _) (v := .slice (some ⟨b, off, none⟩) t.groups.length gcp) rfl (by kernel_rfl) (by kernel_rfl) (by kernel_rfl) (fun _ _ _ h => h) (yields_v (Instr.loadAt 28 (.pointer (some ⟨w.heap.size, 104, none⟩))) (by kernel_rfl) (by kernel_rfl) (fun W h => load_gs (h.1))) hS ?_
      refine wpAnyH_take (i := 2) (oi := _) (v := .int .i64 (j : Int)) rfl (by kernel_rfl) (by kernel_rfl) (by kernel_rfl) (fun _ _ _ h => h) (Or.inl ⟨by kernel_rfl, fun _ _ => by kernel_rfl⟩) hS ?_
      refine wpAnyH_take (i := 3) (oi := _) (v := .pointer (some ⟨b, off + j * 2, none⟩)) rfl (by kernel_rfl) (by kernel_rfl) (by kernel_rfl) (fun _ _ _ h => h) (yields_v (Instr.indexAt 28 (.slice (some ⟨b, off, none⟩) t.groups.length gcp) (.int .i64 (j : Int))) (by kernel_rfl) (by kernel_rfl) (fun w' _ => by go_simp)) hS ?_
      refine wpAnyH_take (i := 4) (oi := _) (v := .pointer (some ⟨b, off + j * 2, none⟩)) rfl (by kernel_rfl) (by kernel_rfl) (by kernel_rfl) (fun _ _ _ h => h) (yields_v (Instr.indexAt 65 (.pointer (some ⟨b, off + j * 2, none⟩)) (.int .i64 0)) (by kernel_rfl) (by kernel_rfl) (fun w' _ => by go_simp)) hS ?_
      refine wpAnyH_take (i := 5) (oi := _) (v := .slice pa gl.length ca) rfl (by kernel_rfl) (by kernel_rfl) (by kernel_rfl) (fun _ _ _ h => h) (yields_v (Instr.loadAt 64 (.pointer (some ⟨b, off + j * 2, none⟩))) (by kernel_rfl) (by kernel_rfl) (fun W h => load_is (h.2.2.1))) hS ?_
      refine wpAnyH_take (i := 6) (oi := _) (v := .pointer (some ⟨w.heap.size + 1, 104, none⟩)) rfl (by kernel_rfl) (by kernel_rfl) (by kernel_rfl) (fun _ _ _ h => h) (yields_v (Instr.fieldAt 34 (.pointer (some ⟨w.heap.size + 1, 0, none⟩)) 1) (by kernel_rfl) (by kernel_rfl) (fun w' _ => by go_simp)) hS ?_
      refine wpAnyH_take (i := 7) (oi := _) (v := .slice (some ⟨b2, off2, none⟩) t.groups.length gcp2) rfl (by kernel_rfl) (by kernel_rfl) (by kernel_rfl) (fun _ _ _ h => h) (yields_v (Instr.loadAt 28 (.pointer (some ⟨w.heap.size + 1, 104, none⟩))) (by kernel_rfl) (by kernel_rfl) (fun W h => load_gs (h.2.1))) hS ?_
      refine wpAnyH_take (i := 8) (oi := _) (v := .int .i64 (j : Int)) rfl (by kernel_rfl) (by kernel_rfl) (by kernel_rfl) (fun _ _ _ h => h) (Or.inl ⟨by kernel_rfl, fun _ _ => by kernel_rfl⟩) hS ?_
      refine wpAnyH_take (i := 9) (oi := _) (v := .pointer (some ⟨b2, off2 + j * 2, none⟩)) rfl (by kernel_rfl) (by kernel_rfl) (by kernel_rfl) (fun _ _ _ h => h) (yields_v (Instr.indexAt 28 (.slice (some ⟨b2, off2, none⟩) t.groups.length gcp2) (.int .i64 (j : Int))) (by kernel_rfl) (by kernel_rfl) (fun w' _ => by go_simp)) hS ?_
      refine wpAnyH_take (i := 10) (oi := _) (v := .pointer (some ⟨b2, off2 + j * 2, none⟩)) rfl (by kernel_rfl) (by kernel_rfl) (by kernel_rfl) (fun _ _ _ h => h) (yields_v (Instr.indexAt 65 (.pointer (some ⟨b2, off2 + j * 2, none⟩)) (.int .i64 0)) (by kernel_rfl) (by kernel_rfl) (fun w' _ => by go_simp)) hS ?_
      refine wpAnyH_take (i := 11) (oi := _) (v := .slice pa2 gl.length ca2) rfl (by kernel_rfl) (by kernel_rfl) (by kernel_rfl) (fun _ _ _ h => h) (yields_v (Instr.loadAt 64 (.pointer (some ⟨b2, off2 + j * 2, none⟩))) (by kernel_rfl) (by kernel_rfl) (fun W h => load_is (h.2.2.2.2.1))) hS ?_
      refine wpAnyH_call (i := 12) (f := 22) (args := #[.slice pa gl.length ca, .slice pa2 gl.length ca2]) (v := .bool true) (by kernel_rfl) rfl (by kernel_rfl) (by kernel_rfl) (SameInts_c _ _ _ gl (HHA.out.ext (Ext.refl wr).drew) (HHA2.out.ext (Ext.refl wr).drew) (by omega)) ?_
      rintro e w5 ⟨rfl, hx5⟩
      have hz5 := hx5.size
      have hS5 : (fun w' : World => w'.cell? ⟨w.heap.size, 104, none⟩ = some (.slice (some ⟨b, off, none⟩) t.groups.length gcp) ∧ w'.cell? ⟨w.heap.size + 1, 104, none⟩ = some (.slice (some ⟨b2, off2, none⟩) t.groups.length gcp2) ∧ w'.cell? ⟨b, off + j * 2, none⟩ = some (.slice pa gl.length ca) ∧ w'.cell? ⟨b, off + j * 2 + 1, none⟩ = some (.slice pb gr.length cb) ∧ w'.cell? ⟨b2, off2 + j * 2, none⟩ = some (.slice pa2 gl.length ca2) ∧ w'.cell? ⟨b2, off2 + j * 2 + 1, none⟩ = some (.slice pb2 gr.length cb2)) w5 := ⟨(hx5.cell (p := ⟨w.heap.size, 104, none⟩) htw0).trans hS.1, (hx5.cell (p := ⟨w.heap.size + 1, 104, none⟩) htw).trans hS.2.1, (hx5.cell (p := ⟨b, off + j * 2, none⟩) hbw).trans hS.2.2.1, (hx5.cell (p := ⟨b, off + j * 2 + 1, none⟩) hbw).trans hS.2.2.2.1, (hx5.cell (p := ⟨b2, off2 + j * 2, none⟩) hbw2).trans hS.2.2.2.2.1, (hx5.cell (p := ⟨b2, off2 + j * 2 + 1, none⟩) hbw2).trans hS.2.2.2.2.2⟩
      refine ⟨rfl, hS5, ?_⟩
      refine wpAnyH_take (i := 13) (oi := _) (v := .bool false) rfl (by kernel_rfl) (by kernel_rfl) (by kernel_rfl) (fun _ _ _ h => h) (Or.inl ⟨by kernel_rfl, fun W _ => by go_simp⟩) hS5 ?_
      refine wpAnyH_take (i := 14) (oi := _) (v := .bool false) rfl (by kernel_rfl) (by kernel_rfl) (by kernel_rfl) (fun _ _ _ h => h) (Or.inl ⟨by kernel_rfl, fun _ _ => by kernel_rfl⟩) hS5 ?_
      refine wpAnyH_take (i := 15) (oi := _) (v := .pointer (some ⟨w.heap.size, 104, none⟩)) rfl (by kernel_rfl) (by kernel_rfl) (by kernel_rfl) (fun _ _ _ h => h) (yields_v (Instr.fieldAt 34 (.pointer (some ⟨w.heap.size, 0, none⟩)) 1) (by kernel_rfl) (by kernel_rfl) (fun w' _ => by go_simp)) hS5 ?_
      refine wpAnyH_take (i := 16) (oi := _) (v := .slice (some ⟨b, off, none⟩) t.groups.length gcp) rfl (by kernel_rfl) (by kernel_rfl) (by kernel_rfl) (fun _ _ _ h => h) (yields_v (Instr.loadAt 28 (.pointer (some ⟨w.heap.size, 104, none⟩))) (by kernel_rfl) (by kernel_rfl) (fun W h => load_gs (h.1))) hS5 ?_
      refine wpAnyH_take (i := 17) (oi := _) (v := .int .i64 (j : Int)) rfl (by kernel_rfl) (by kernel_rfl) (by kernel_rfl) (fun _ _ _ h => h) (Or.inl ⟨by kernel_rfl, fun _ _ => by kernel_rfl⟩) hS5 ?_
      refine wpAnyH_take (i := 18) (oi := _) (v := .pointer (some ⟨b, off + j * 2, none⟩)) rfl (by kernel_rfl) (by kernel_rfl) (by kernel_rfl) (fun _ _ _ h => h) (yields_v (Instr.indexAt 28 (.slice (some ⟨b, off, none⟩) t.groups.length gcp) (.int .i64 (j : Int))) (by kernel_rfl) (by kernel_rfl) (fun w' _ => by go_simp)) hS5 ?_
      refine wpAnyH_take (i := 19) (oi := _) (v := .pointer (some ⟨b, off + j * 2 + 1, none⟩)) rfl (by kernel_rfl) (by kernel_rfl) (by kernel_rfl) (fun _ _ _ h => h) (yields_v (Instr.indexAt 65 (.pointer (some ⟨b, off + j * 2, none⟩)) (.int .i64 1)) (by kernel_rfl) (by kernel_rfl) (fun w' _ => by go_simp)) hS5 ?_
      refine wpAnyH_take (i := 20) (oi := _) (v := .slice pb gr.length cb) rfl (by kernel_rfl) (by kernel_rfl) (by kernel_rfl) (fun _ _ _ h => h) (yields_v (Instr.loadAt 64 (.pointer (some ⟨b, off + j * 2 + 1, none⟩))) (by kernel_rfl) (by kernel_rfl) (fun W h => load_is (h.2.2.2.1))) hS5 ?_
      refine wpAnyH_take (i := 21) (oi := _) (v := .pointer (some ⟨w.heap.size + 1, 104, none⟩)) rfl (by kernel_rfl) (by kernel_rfl) (by kernel_rfl) (fun _ _ _ h => h) (yields_v (Instr.fieldAt 34 (.pointer (some ⟨w.heap.size + 1, 0, none⟩)) 1) (by kernel_rfl) (by kernel_rfl) (fun w' _ => by go_simp)) hS5 ?_
      refine wpAnyH_take (i := 22) (oi := _) (v := .slice (some ⟨b2, off2, none⟩) t.groups.length gcp2) rfl (by kernel_rfl) (by kernel_rfl) (by kernel_rfl) (fun _ _ _ h => h) (yields_v (Instr.loadAt 28 (.pointer (some ⟨w.heap.size + 1, 104, none⟩))) (by kernel_rfl) (by kernel_rfl) (fun W h => load_gs (h.2.1))) hS5 ?_
      refine wpAnyH_take (i := 23) (oi := _) (v := .int .i64 (j : Int)) rfl (by kernel_rfl) (by kernel_rfl) (by kernel_rfl) (fun _ _ _ h => h) (Or.inl ⟨by kernel_rfl, fun _ _ => by kernel_rfl⟩) hS5 ?_
      refine wpAnyH_take (i := 24) (oi := _) (v := .pointer (some ⟨b2, off2 + j * 2, none⟩)) rfl (by kernel_rfl) (by kernel_rfl) (by kernel_rfl) (fun _ _ _ h => h) (yields_v (Instr.indexAt 28 (.slice (some ⟨b2, off2, none⟩) t.groups.length gcp2) (.int .i64 (j : Int))) (by kernel_rfl) (by kernel_rfl) (fun w' _ => by go_simp)) hS5 ?_
      refine wpAnyH_take (i := 25) (oi := _) (v := .pointer (some ⟨b2, off2 + j * 2 + 1, none⟩)) rfl (by kernel_rfl) (by kernel_rfl) (by kernel_rfl) (fun _ _ _ h => h) (yields_v (Instr.indexAt 65 (.pointer (some ⟨b2, off2 + j * 2, none⟩)) (.int .i64 1)) (by kernel_rfl) (by kernel_rfl) (fun w' _ => by go_simp)) hS5 ?_
      refine wpAnyH_take (i := 26) (oi := _) (v := .slice pb2 gr.length cb2) rfl (by kernel_rfl) (by kernel_rfl) (by kernel_rfl) (fun _ _ _ h => h) (yields_v (Instr.loadAt 64 (.pointer (some ⟨b2, off2 + j * 2 + 1, none⟩))) (by kernel_rfl) (by kernel_rfl) (fun W h => load_is (h.2.2.2.2.2))) hS5 ?_
      refine wpAnyH_call (i := 27) (f := 22) (args := #[.slice pb gr.length cb, .slice pb2 gr.length cb2]) (v := .bool true) (by kernel_rfl) rfl (by kernel_rfl) (by kernel_rfl) (SameInts_c _ _ _ gr ((HHB.out.ext (Ext.refl wr).drew).ext hx5) ((HHB2.out.ext (Ext.refl wr).drew).ext hx5) (by omega)) ?_
      rintro e w6 ⟨rfl, hx6⟩
      have hz6 := hx6.size
      have hS6 : (fun w' : World => w'.cell? ⟨w.heap.size, 104, none⟩ = some (.slice (some ⟨b, off, none⟩) t.groups.length gcp) ∧ w'.cell? ⟨w.heap.size + 1, 104, none⟩ = some (.slice (some ⟨b2, off2, none⟩) t.groups.length gcp2) ∧ w'.cell? ⟨b, off + j * 2, none⟩ = some (.slice pa gl.length ca) ∧ w'.cell? ⟨b, off + j * 2 + 1, none⟩ = some (.slice pb gr.length cb) ∧ w'.cell? ⟨b2, off2 + j * 2, none⟩ = some (.slice pa2 gl.length ca2) ∧ w'.cell? ⟨b2, off2 + j * 2 + 1, none⟩ = some (.slice pb2 gr.length cb2)) w6 := ⟨(hx6.cell (p := ⟨w.heap.size, 104, none⟩) (Nat.lt_of_lt_of_le htw0 hz5)).trans hS5.1, (hx6.cell (p := ⟨w.heap.size + 1, 104, none⟩) (Nat.lt_of_lt_of_le htw hz5)).trans hS5.2.1, (hx6.cell (p := ⟨b, off + j * 2, none⟩) (Nat.lt_of_lt_of_le hbw hz5)).trans hS5.2.2.1, (hx6.cell (p := ⟨b, off + j * 2 + 1, none⟩) (Nat.lt_of_lt_of_le hbw hz5)).trans hS5.2.2.2.1, (hx6.cell (p := ⟨b2, off2 + j * 2, none⟩) (Nat.lt_of_lt_of_le hbw2 hz5)).trans hS5.2.2.2.2.1, (hx6.cell (p := ⟨b2, off2 + j * 2 + 1, none⟩) (Nat.lt_of_lt_of_le hbw2 hz5)).trans hS5.2.2.2.2.2⟩
      refine ⟨rfl, hS6, ?_⟩
      refine wpAnyH_take (i := 28) (oi := _) (v := .bool false) rfl (by kernel_rfl) (by kernel_rfl) (by kernel_rfl) (fun _ _ _ h => h) (Or.inl ⟨by kernel_rfl, fun W _ => by go_simp⟩) hS6 ?_
      refine wpAnyH_take (i := 29) (oi := _) (v := .bool false) rfl (by kernel_rfl) (by kernel_rfl) (by kernel_rfl) (fun _ _ _ h => h) (Or.inl ⟨by kernel_rfl, fun W _ => by go_simp⟩) hS6 ?_
      refine wpAnyH_done (by kernel_rfl) ?_ _
      go_simp
      go_wp2
      go_roundw
      case rel => exact ⟨j + 1, by omega, by go_num, ((HX.out.drew).trans hx5).trans hx6⟩
      case measure => simp [intOf]; omega
    · have hjj : j = t.groups.length := by omega
      subst hjj
      have a2 := HA113.out _ HX.out
      go_wp2
      clear a2
      go_loopw [6] (fun i wh => ∃ (j : Nat), j ≤ t.dets.length ∧ i = .int .i64 j ∧ Ext W0 wh) (fun i _ => t.dets.length - (intOf i).toNat)
      case atStart => exact ⟨0, Nat.zero_le _, rfl, HX.out⟩
      case round =>
        clear HX a1
        obtain ⟨j, hj, rfl, hx⟩ := hrel
        have HX := Lib.hid hx; clear hx
        have a1 := HA113.out _ HX.out
        by_cases hlj : j < t.dets.length
        · have hdl := hT.dl
          rcases hd1 with ⟨h0, _⟩ | ⟨b, off, rfl, hb, hcl⟩
          · omega
          rcases hd2 with ⟨h0, _⟩ | ⟨b2, off2, rfl, hb2, hcl2⟩
          · omega
          have hxw := HX1.out.trans HX.out
          have hm1 : wr.rangeAt b (off + j * 7) (t.dets[j]).cells := fun i v hi => by
            rw [Nat.add_assoc]
            exact (hxw.cell (p := ⟨b, off + (j * 7 + i), none⟩) hb).trans (hcl (j * 7 + i) v (flat_get Det.cells 7 t.dets (fun _ _ => rfl) j hlj i v hi))
          have hm2 : wr.rangeAt b2 (off2 + j * 7) (t.dets[j]).cells := fun i v hi => by
            rw [Nat.add_assoc]
            exact (hxw.cell (p := ⟨b2, off2 + (j * 7 + i), none⟩) hb2).trans (hcl2 (j * 7 + i) v (flat_get Det.cells 7 t.dets (fun _ _ => rfl) j hlj i v hi))
          generalize t.dets[j] = d at hm1 hm2
          have hxs : (Tryz.prog.info? 68).map (·.size) = some d.cells.length := by rw [d.len]; kernel_rfl
          have hone : d.cells.toArray.all (·.oneCell') = true := all_oneCell_toArray (by simp [Det.cells, Value.oneCell'])
          have a2 := HD113.out _ HX.out
          have k0 : (0 : Int) ≤ (j : Int) := by omega
          have k1 : (j : Int) < (t.dets.length : Int) := by omega
          have k2 : decide ((t.dets.length : Int) ≤ (j : Int)) = false := by simp; omega
          have k3 : decide ((j : Int) < 0) = false := by simp
          have hbw : b < wr.drew.heap.size := Nat.lt_of_lt_of_le hb hxw.size
          have hbw2 : b2 < wr.drew.heap.size := Nat.lt_of_lt_of_le hb2 hxw.size
          have htw : w.heap.size + 1 < wr.drew.heap.size := by have := HX.out.size; show w.heap.size + 1 < wr.heap.size; omega
          have HXS := Lib.hid hxs
          have HM1 := Lib.hid hm1
          have HM2 := Lib.hid hm2
          have HONE := Lib.hid hone
          have HXS2 := Lib.hid (show (Tryz.prog.info? 68).map (·.size) = some d.cells.toArray.size from by rw [List.size_toArray]; exact hxs)
          have htw0 : w.heap.size < wr.drew.heap.size := by have := HX.out.size; show w.heap.size < wr.heap.size; omega
          clear hcl hcl2 hm1 hm2 hxs hone
          go_wp2
          go_cut [7, 8] from 135 to 206 (fun p7 p8 wc => ∃ B7 B8, p7 = .pointer (some ⟨B7, 0, none⟩) ∧ p8 = .pointer (some ⟨B8, 0, none⟩) ∧ wc.rangeAt B7 0 d.cells ∧ wc.rangeAt B8 0 d.cells ∧ B7 < wc.heap.size ∧ B8 < wc.heap.size ∧ Ext W0 wc)
          case first =>
            refine wp_region_held_drew (S := fun w' => w'.cell? ⟨w.heap.size, 113, none⟩ = some (.slice (some ⟨b, off, none⟩) t.dets.length dcp) ∧ w'.cell? ⟨w.heap.size + 1, 113, none⟩ = some (.slice (some ⟨b2, off2, none⟩) t.dets.length dcp2) ∧ w'.rangeAt b (off + j * 7) d.cells ∧ w'.rangeAt b2 (off2 + j * 7) d.cells) (by kernel_rfl)
              ⟨by simpa using a1, by simpa using a2, by simpa using HM1.out, by simpa using HM2.out⟩ (fun hS => ?_)
            refine wpAnyH_take (i := 0) (oi := _) (v := .pointer (some ⟨w.heap.size, 113, none⟩)) rfl (by kernel_rfl) (by kernel_rfl) (by kernel_rfl) (fun _ _ _ h => h) (yields_v (Instr.fieldAt 34 (.pointer (some ⟨w.heap.size, 0, none⟩)) 3) (by kernel_rfl) (by kernel_rfl) (fun w' _ => by go_simp)) hS ?_
            refine wpAnyH_take (i := 1) (oi := _) (v := .slice (some ⟨b, off, none⟩) t.dets.length dcp) rfl (by kernel_rfl) (by kernel_rfl) (by kernel_rfl) (fun _ _ _ h => h) (yields_v (Instr.loadAt 30 (.pointer (some ⟨w.heap.size, 113, none⟩))) (by kernel_rfl) (by kernel_rfl) (fun W h => load_ds (h.1))) hS ?_
            refine wpAnyH_take (i := 2) (oi := _) (v := .int .i64 (j : Int)) rfl (by kernel_rfl) (by kernel_rfl) (by kernel_rfl) (fun _ _ _ h => h) (Or.inl ⟨by kernel_rfl, fun _ _ => by kernel_rfl⟩) hS ?_
            refine wpAnyH_take (i := 3) (oi := _) (v := .pointer (some ⟨b, off + j * 7, none⟩)) rfl (by kernel_rfl) (by kernel_rfl) (by kernel_rfl) (fun _ _ _ h => h) (yields_v (Instr.indexAt 30 (.slice (some ⟨b, off, none⟩) t.dets.length dcp) (.int .i64 (j : Int))) (by kernel_rfl) (by kernel_rfl) (fun w' _ => by go_simp)) hS ?_
            refine wpAnyH_take (i := 4) (oi := _) (v := .agg (d.cells).toArray) rfl (by kernel_rfl) (by kernel_rfl) (by kernel_rfl) (fun _ _ _ h => h) (yieldsIf_load_mid (by kernel_rfl) 68 (.tmp 145) rfl b (off + j * 7) (by kernel_rfl) (d.cells) _ (fun _ h => h.2.2.1) Tryz.underlying68 rfl HXS.out) hS ?_
            refine wpAnyH_take (i := 5) (oi := _) (v := .pointer (some ⟨w.heap.size + 1, 113, none⟩)) rfl (by kernel_rfl) (by kernel_rfl) (by kernel_rfl) (fun _ _ _ h => h) (yields_v (Instr.fieldAt 34 (.pointer (some ⟨w.heap.size + 1, 0, none⟩)) 3) (by kernel_rfl) (by kernel_rfl) (fun w' _ => by go_simp)) hS ?_
            refine wpAnyH_take (i := 6) (oi := _) (v := .slice (some ⟨b2, off2, none⟩) t.dets.length dcp2) rfl (by kernel_rfl) (by kernel_rfl) (by kernel_rfl) (fun _ _ _ h => h) (yields_v (Instr.loadAt 30 (.pointer (some ⟨w.heap.size + 1, 113, none⟩))) (by kernel_rfl) (by kernel_rfl) (fun W h => load_ds (h.2.1))) hS ?_
            refine wpAnyH_take (i := 7) (oi := _) (v := .int .i64 (j : Int)) rfl (by kernel_rfl) (by kernel_rfl) (by kernel_rfl) (fun _ _ _ h => h) (Or.inl ⟨by kernel_rfl, fun _ _ => by kernel_rfl⟩) hS ?_
            refine wpAnyH_take (i := 8) (oi := _) (v := .pointer (some ⟨b2, off2 + j * 7, none⟩)) rfl (by kernel_rfl) (by kernel_rfl) (by kernel_rfl) (fun _ _ _ h => h) (yields_v (Instr.indexAt 30 (.slice (some ⟨b2, off2, none⟩) t.dets.length dcp2) (.int .i64 (j : Int))) (by kernel_rfl) (by kernel_rfl) (fun w' _ => by go_simp)) hS ?_
            refine wpAnyH_take (i := 9) (oi := _) (v := .agg (d.cells).toArray) rfl (by kernel_rfl) (by kernel_rfl) (by kernel_rfl) (fun _ _ _ h => h) (yieldsIf_load_mid (by kernel_rfl) 68 (.tmp 150) rfl b2 (off2 + j * 7) (by kernel_rfl) (d.cells) _ (fun _ h => h.2.2.2) Tryz.underlying68 rfl HXS.out) hS ?_
            have SX : ∀ W', Ext wr.drew W' → (W'.cell? ⟨w.heap.size, 113, none⟩ = some (.slice (some ⟨b, off, none⟩) t.dets.length dcp) ∧ W'.cell? ⟨w.heap.size + 1, 113, none⟩ = some (.slice (some ⟨b2, off2, none⟩) t.dets.length dcp2) ∧ W'.rangeAt b (off + j * 7) d.cells ∧ W'.rangeAt b2 (off2 + j * 7) d.cells) := fun W' e =>
              ⟨(e.cell (p := ⟨w.heap.size, 113, none⟩) htw0).trans hS.1, (e.cell (p := ⟨w.heap.size + 1, 113, none⟩) htw).trans hS.2.1, rangeAt_ext hS.2.2.1 e hbw, rangeAt_ext hS.2.2.2 e hbw2⟩
            refine wpAnyH_two (i := 10) (k := 11) (by kernel_rfl) ?_ ?_
            · obtain ⟨Wa, Wb, Wc, Wd, B1, B2, e1, e2, e3, e4, xa, xb, xc, xd, ra, rb, la, lb⟩ := two_made12 wr.drew d
              refine wpOp_val (.pointer (some ⟨B1, 0, none⟩)) Wa rfl (by kernel_rfl) (Instr.alloc 68 true (.tuple #[])) (by kernel_rfl) e1 ⟨SX _ xa, ?_⟩
              refine wpAnyH_one (i := 11) (by kernel_rfl) ?_
              refine wpOp_val (.pointer (some ⟨B2, 0, none⟩)) Wb rfl (by kernel_rfl) (Instr.alloc 68 true (.tuple #[])) (by kernel_rfl) e2 ⟨SX _ xb, ?_⟩
              refine wpAnyH_one (i := 12) (by kernel_rfl) ?_
              refine wpOp_unit Wc rfl (by kernel_rfl) (Instr.storeAt 68 (.pointer (some ⟨B1, 0, none⟩)) (.agg d.cells.toArray)) (by kernel_rfl) e3 ⟨SX _ xc, ?_⟩
              refine wpAnyH_one (i := 13) (by kernel_rfl) ?_
              refine wpOp_unit Wd rfl (by kernel_rfl) (Instr.storeAt 68 (.pointer (some ⟨B2, 0, none⟩)) (.agg d.cells.toArray)) (by kernel_rfl) e4 ⟨SX _ xd, ?_⟩
              refine wpAnyH_done (by kernel_rfl) ?_ _
              have HF := Lib.hid (show _ ∧ _ ∧ _ ∧ _ ∧ _ from ⟨ra, rb, la, lb, HX.out.drew.trans xd⟩)
              clear e1 e2 e3 e4 xa xb xc xd ra rb la lb
              go_simp
              go_wp2
              go_meet
              case rel => exact ⟨_, _, rfl, rfl, HF.out⟩
            · obtain ⟨Wa, Wb, Wc, Wd, B1, B2, e1, e2, e3, e4, xa, xb, xc, xd, ra, rb, la, lb⟩ := two_made21 wr.drew d
              refine wpOp_val (.pointer (some ⟨B1, 0, none⟩)) Wa rfl (by kernel_rfl) (Instr.alloc 68 true (.tuple #[])) (by kernel_rfl) e1 ⟨SX _ xa, ?_⟩
              refine wpAnyH_one (i := 10) (by kernel_rfl) ?_
              refine wpOp_val (.pointer (some ⟨B2, 0, none⟩)) Wb rfl (by kernel_rfl) (Instr.alloc 68 true (.tuple #[])) (by kernel_rfl) e2 ⟨SX _ xb, ?_⟩
              refine wpAnyH_one (i := 12) (by kernel_rfl) ?_
              refine wpOp_unit Wc rfl (by kernel_rfl) (Instr.storeAt 68 (.pointer (some ⟨B2, 0, none⟩)) (.agg d.cells.toArray)) (by kernel_rfl) e3 ⟨SX _ xc, ?_⟩
              refine wpAnyH_one (i := 13) (by kernel_rfl) ?_
              refine wpOp_unit Wd rfl (by kernel_rfl) (Instr.storeAt 68 (.pointer (some ⟨B1, 0, none⟩)) (.agg d.cells.toArray)) (by kernel_rfl) e4 ⟨SX _ xd, ?_⟩
              refine wpAnyH_done (by kernel_rfl) ?_ _
              have HF := Lib.hid (show _ ∧ _ ∧ _ ∧ _ ∧ _ from ⟨rb, ra, lb, la, HX.out.drew.trans xd⟩)
              clear e1 e2 e3 e4 xa xb xc xd ra rb la lb
              go_simp
              go_wp2
              go_meet
              case rel => exact ⟨_, _, rfl, rfl, HF.out⟩
          case rest =>
            obtain ⟨B7, B8, rfl, rfl, r7, r8, l7, l8, hxc⟩ := hcut
            have HXC := Lib.hid hxc.drew
            clear HXS HM1 HM2 HONE HXS2
            go_wp2
            refine wp_region_held_drew (S := fun w' => w'.rangeAt B7 0 d.cells ∧ w'.rangeAt B8 0 d.cells) (by kernel_rfl) ⟨by simpa using r7, by simpa using r8⟩ (fun hS => ?_)
            refine wpAnyH_take (i := 0) (oi := _) (v := .pointer (some ⟨B7, 0, none⟩)) rfl (by kernel_rfl) (by kernel_rfl) (by kernel_rfl) (fun _ _ _ h => h) (yields_v (Instr.fieldAt 68 (.pointer (some ⟨B7, 0, none⟩)) 0) (by kernel_rfl) (by kernel_rfl) (fun w' _ => by go_simp)) hS ?_
            refine wpAnyH_take (i := 1) (oi := _) (v := .int .i64 d.phase) rfl (by kernel_rfl) (by kernel_rfl) (by kernel_rfl) (fun _ _ _ h => h) (yields_v (Instr.loadAt 3 (.pointer (some ⟨B7, 0, none⟩))) (by kernel_rfl) (by kernel_rfl) (fun W h => load_int (range_cell h.1 rfl))) hS ?_
            refine wpAnyH_take (i := 2) (oi := _) (v := .pointer (some ⟨B8, 0, none⟩)) rfl (by kernel_rfl) (by kernel_rfl) (by kernel_rfl) (fun _ _ _ h => h) (yields_v (Instr.fieldAt 68 (.pointer (some ⟨B8, 0, none⟩)) 0) (by kernel_rfl) (by kernel_rfl) (fun w' _ => by go_simp)) hS ?_
            refine wpAnyH_take (i := 3) (oi := _) (v := .int .i64 d.phase) rfl (by kernel_rfl) (by kernel_rfl) (by kernel_rfl) (fun _ _ _ h => h) (yields_v (Instr.loadAt 3 (.pointer (some ⟨B8, 0, none⟩))) (by kernel_rfl) (by kernel_rfl) (fun W h => load_int (range_cell h.2 rfl))) hS ?_
            refine wpAnyH_take (i := 4) (oi := _) (v := .bool false) rfl (by kernel_rfl) (by kernel_rfl) (by kernel_rfl) (fun _ _ _ h => h) (Or.inl ⟨by kernel_rfl, fun W _ => by go_simp⟩) hS ?_
            refine wpAnyH_take (i := 5) (oi := _) (v := .bool false) rfl (by kernel_rfl) (by kernel_rfl) (by kernel_rfl) (fun _ _ _ h => h) (Or.inl ⟨by kernel_rfl, fun _ _ => by kernel_rfl⟩) hS ?_
            refine wpAnyH_take (i := 6) (oi := _) (v := .pointer (some ⟨B7, 5, none⟩)) rfl (by kernel_rfl) (by kernel_rfl) (by kernel_rfl) (fun _ _ _ h => h) (yields_v (Instr.fieldAt 68 (.pointer (some ⟨B7, 0, none⟩)) 5) (by kernel_rfl) (by kernel_rfl) (fun w' _ => by go_simp)) hS ?_
            refine wpAnyH_take (i := 7) (oi := _) (v := .int .i64 d.maxOn) rfl (by kernel_rfl) (by kernel_rfl) (by kernel_rfl) (fun _ _ _ h => h) (yields_v (Instr.loadAt 3 (.pointer (some ⟨B7, 5, none⟩))) (by kernel_rfl) (by kernel_rfl) (fun W h => load_int (range_cell h.1 rfl))) hS ?_
            refine wpAnyH_take (i := 8) (oi := _) (v := .pointer (some ⟨B8, 5, none⟩)) rfl (by kernel_rfl) (by kernel_rfl) (by kernel_rfl) (fun _ _ _ h => h) (yields_v (Instr.fieldAt 68 (.pointer (some ⟨B8, 0, none⟩)) 5) (by kernel_rfl) (by kernel_rfl) (fun w' _ => by go_simp)) hS ?_
            refine wpAnyH_take (i := 9) (oi := _) (v := .int .i64 d.maxOn) rfl (by kernel_rfl) (by kernel_rfl) (by kernel_rfl) (fun _ _ _ h => h) (yields_v (Instr.loadAt 3 (.pointer (some ⟨B8, 5, none⟩))) (by kernel_rfl) (by kernel_rfl) (fun W h => load_int (range_cell h.2 rfl))) hS ?_
            refine wpAnyH_take (i := 10) (oi := _) (v := .bool false) rfl (by kernel_rfl) (by kernel_rfl) (by kernel_rfl) (fun _ _ _ h => h) (Or.inl ⟨by kernel_rfl, fun W _ => by go_simp⟩) hS ?_
            refine wpAnyH_take (i := 11) (oi := _) (v := .bool false) rfl (by kernel_rfl) (by kernel_rfl) (by kernel_rfl) (fun _ _ _ h => h) (Or.inl ⟨by kernel_rfl, fun W _ => by go_simp⟩) hS ?_
            refine wpAnyH_take (i := 12) (oi := _) (v := .bool false) rfl (by kernel_rfl) (by kernel_rfl) (by kernel_rfl) (fun _ _ _ h => h) (Or.inl ⟨by kernel_rfl, fun _ _ => by kernel_rfl⟩) hS ?_
            refine wpAnyH_take (i := 13) (oi := _) (v := .pointer (some ⟨B7, 6, none⟩)) rfl (by kernel_rfl) (by kernel_rfl) (by kernel_rfl) (fun _ _ _ h => h) (yields_v (Instr.fieldAt 68 (.pointer (some ⟨B7, 0, none⟩)) 6) (by kernel_rfl) (by kernel_rfl) (fun w' _ => by go_simp)) hS ?_
            refine wpAnyH_take (i := 14) (oi := _) (v := .int .i64 d.maxOff) rfl (by kernel_rfl) (by kernel_rfl) (by kernel_rfl) (fun _ _ _ h => h) (yields_v (Instr.loadAt 3 (.pointer (some ⟨B7, 6, none⟩))) (by kernel_rfl) (by kernel_rfl) (fun W h => load_int (range_cell h.1 rfl))) hS ?_
            refine wpAnyH_take (i := 15) (oi := _) (v := .pointer (some ⟨B8, 6, none⟩)) rfl (by kernel_rfl) (by kernel_rfl) (by kernel_rfl) (fun _ _ _ h => h) (yields_v (Instr.fieldAt 68 (.pointer (some ⟨B8, 0, none⟩)) 6) (by kernel_rfl) (by kernel_rfl) (fun w' _ => by go_simp)) hS ?_
            refine wpAnyH_take (i := 16) (oi := _) (v := .int .i64 d.maxOff) rfl (by kernel_rfl) (by kernel_rfl) (by kernel_rfl) (fun _ _ _ h => h) (yields_v (Instr.loadAt 3 (.pointer (some ⟨B8, 6, none⟩))) (by kernel_rfl) (by kernel_rfl) (fun W h => load_int (range_cell h.2 rfl))) hS ?_
            refine wpAnyH_take (i := 17) (oi := _) (v := .bool false) rfl (by kernel_rfl) (by kernel_rfl) (by kernel_rfl) (fun _ _ _ h => h) (Or.inl ⟨by kernel_rfl, fun W _ => by go_simp⟩) hS ?_
            refine wpAnyH_take (i := 18) (oi := _) (v := .bool false) rfl (by kernel_rfl) (by kernel_rfl) (by kernel_rfl) (fun _ _ _ h => h) (Or.inl ⟨by kernel_rfl, fun W _ => by go_simp⟩) hS ?_
            refine wpAnyH_take (i := 19) (oi := _) (v := .bool false) rfl (by kernel_rfl) (by kernel_rfl) (by kernel_rfl) (fun _ _ _ h => h) (Or.inl ⟨by kernel_rfl, fun _ _ => by kernel_rfl⟩) hS ?_
            refine wpAnyH_take (i := 20) (oi := _) (v := .pointer (some ⟨B7, 1, none⟩)) rfl (by kernel_rfl) (by kernel_rfl) (by kernel_rfl) (fun _ _ _ h => h) (yields_v (Instr.fieldAt 68 (.pointer (some ⟨B7, 0, none⟩)) 1) (by kernel_rfl) (by kernel_rfl) (fun w' _ => by go_simp)) hS ?_
            refine wpAnyH_take (i := 21) (oi := _) (v := .float .f64 d.on) rfl (by kernel_rfl) (by kernel_rfl) (by kernel_rfl) (fun _ _ _ h => h) (yields_v (Instr.loadAt 66 (.pointer (some ⟨B7, 1, none⟩))) (by kernel_rfl) (by kernel_rfl) (fun W h => load_flt (range_cell h.1 rfl))) hS ?_
            refine wpAnyH_take (i := 23) (oi := _) (v := .pointer (some ⟨B8, 1, none⟩)) rfl (by kernel_rfl) (by kernel_rfl) (by kernel_rfl) (fun _ _ _ h => h) (yields_v (Instr.fieldAt 68 (.pointer (some ⟨B8, 0, none⟩)) 1) (by kernel_rfl) (by kernel_rfl) (fun w' _ => by go_simp)) hS ?_
            refine wpAnyH_take (i := 24) (oi := _) (v := .float .f64 d.on) rfl (by kernel_rfl) (by kernel_rfl) (by kernel_rfl) (fun _ _ _ h => h) (yields_v (Instr.loadAt 66 (.pointer (some ⟨B8, 1, none⟩))) (by kernel_rfl) (by kernel_rfl) (fun W h => load_flt (range_cell h.2 rfl))) hS ?_
            refine wpAnyH_call (i := 22) (f := 23) (args := #[.float .f64 d.on]) (v := .int .u64 d.on) (by kernel_rfl) rfl (by kernel_rfl) (by kernel_rfl) (Bits_c d.on _) ?_
            rintro e w9 ⟨rfl, rfl⟩
            refine ⟨rfl, hS, ?_⟩
            refine wpAnyH_call (i := 25) (f := 23) (args := #[.float .f64 d.on]) (v := .int .u64 d.on) (by kernel_rfl) rfl (by kernel_rfl) (by kernel_rfl) (Bits_c d.on _) ?_
            rintro e w9 ⟨rfl, rfl⟩
            refine ⟨rfl, hS, ?_⟩
            refine wpAnyH_take (i := 26) (oi := _) (v := .bool false) rfl (by kernel_rfl) (by kernel_rfl) (by kernel_rfl) (fun _ _ _ h => h) (Or.inl ⟨by kernel_rfl, fun W _ => by go_simp⟩) hS ?_
            refine wpAnyH_take (i := 27) (oi := _) (v := .bool false) rfl (by kernel_rfl) (by kernel_rfl) (by kernel_rfl) (fun _ _ _ h => h) (Or.inl ⟨by kernel_rfl, fun W _ => by go_simp⟩) hS ?_
            refine wpAnyH_take (i := 28) (oi := _) (v := .bool false) rfl (by kernel_rfl) (by kernel_rfl) (by kernel_rfl) (fun _ _ _ h => h) (Or.inl ⟨by kernel_rfl, fun _ _ => by kernel_rfl⟩) hS ?_
            refine wpAnyH_take (i := 29) (oi := _) (v := .pointer (some ⟨B7, 2, none⟩)) rfl (by kernel_rfl) (by kernel_rfl) (by kernel_rfl) (fun _ _ _ h => h) (yields_v (Instr.fieldAt 68 (.pointer (some ⟨B7, 0, none⟩)) 2) (by kernel_rfl) (by kernel_rfl) (fun w' _ => by go_simp)) hS ?_
            refine wpAnyH_take (i := 30) (oi := _) (v := .float .f64 d.off) rfl (by kernel_rfl) (by kernel_rfl) (by kernel_rfl) (fun _ _ _ h => h) (yields_v (Instr.loadAt 66 (.pointer (some ⟨B7, 2, none⟩))) (by kernel_rfl) (by kernel_rfl) (fun W h => load_flt (range_cell h.1 rfl))) hS ?_
            refine wpAnyH_take (i := 32) (oi := _) (v := .pointer (some ⟨B8, 2, none⟩)) rfl (by kernel_rfl) (by kernel_rfl) (by kernel_rfl) (fun _ _ _ h => h) (yields_v (Instr.fieldAt 68 (.pointer (some ⟨B8, 0, none⟩)) 2) (by kernel_rfl) (by kernel_rfl) (fun w' _ => by go_simp)) hS ?_
            refine wpAnyH_take (i := 33) (oi := _) (v := .float .f64 d.off) rfl (by kernel_rfl) (by kernel_rfl) (by kernel_rfl) (fun _ _ _ h => h) (yields_v (Instr.loadAt 66 (.pointer (some ⟨B8, 2, none⟩))) (by kernel_rfl) (by kernel_rfl) (fun W h => load_flt (range_cell h.2 rfl))) hS ?_
            refine wpAnyH_call (i := 31) (f := 23) (args := #[.float .f64 d.off]) (v := .int .u64 d.off) (by kernel_rfl) rfl (by kernel_rfl) (by kernel_rfl) (Bits_c d.off _) ?_
            rintro e w9 ⟨rfl, rfl⟩
            refine ⟨rfl, hS, ?_⟩
            refine wpAnyH_call (i := 34) (f := 23) (args := #[.float .f64 d.off]) (v := .int .u64 d.off) (by kernel_rfl) rfl (by kernel_rfl) (by kernel_rfl) (Bits_c d.off _) ?_
            rintro e w9 ⟨rfl, rfl⟩
            refine ⟨rfl, hS, ?_⟩
            refine wpAnyH_take (i := 35) (oi := _) (v := .bool false) rfl (by kernel_rfl) (by kernel_rfl) (by kernel_rfl) (fun _ _ _ h => h) (Or.inl ⟨by kernel_rfl, fun W _ => by go_simp⟩) hS ?_
            refine wpAnyH_take (i := 36) (oi := _) (v := .bool false) rfl (by kernel_rfl) (by kernel_rfl) (by kernel_rfl) (fun _ _ _ h => h) (Or.inl ⟨by kernel_rfl, fun W _ => by go_simp⟩) hS ?_
            refine wpAnyH_take (i := 37) (oi := _) (v := .bool false) rfl (by kernel_rfl) (by kernel_rfl) (by kernel_rfl) (fun _ _ _ h => h) (Or.inl ⟨by kernel_rfl, fun _ _ => by kernel_rfl⟩) hS ?_
            refine wpAnyH_take (i := 38) (oi := _) (v := .pointer (some ⟨B7, 3, none⟩)) rfl (by kernel_rfl) (by kernel_rfl) (by kernel_rfl) (fun _ _ _ h => h) (yields_v (Instr.fieldAt 68 (.pointer (some ⟨B7, 0, none⟩)) 3) (by kernel_rfl) (by kernel_rfl) (fun w' _ => by go_simp)) hS ?_
            refine wpAnyH_take (i := 39) (oi := _) (v := .float .f64 d.delay) rfl (by kernel_rfl) (by kernel_rfl) (by kernel_rfl) (fun _ _ _ h => h) (yields_v (Instr.loadAt 66 (.pointer (some ⟨B7, 3, none⟩))) (by kernel_rfl) (by kernel_rfl) (fun W h => load_flt (range_cell h.1 rfl))) hS ?_
            refine wpAnyH_take (i := 41) (oi := _) (v := .pointer (some ⟨B8, 3, none⟩)) rfl (by kernel_rfl) (by kernel_rfl) (by kernel_rfl) (fun _ _ _ h => h) (yields_v (Instr.fieldAt 68 (.pointer (some ⟨B8, 0, none⟩)) 3) (by kernel_rfl) (by kernel_rfl) (fun w' _ => by go_simp)) hS ?_
            refine wpAnyH_take (i := 42) (oi := _) (v := .float .f64 d.delay) rfl (by kernel_rfl) (by kernel_rfl) (by kernel_rfl) (fun _ _ _ h => h) (yields_v (Instr.loadAt 66 (.pointer (some ⟨B8, 3, none⟩))) (by kernel_rfl) (by kernel_rfl) (fun W h => load_flt (range_cell h.2 rfl))) hS ?_
            refine wpAnyH_call (i := 40) (f := 23) (args := #[.float .f64 d.delay]) (v := .int .u64 d.delay) (by kernel_rfl) rfl (by kernel_rfl) (by kernel_rfl) (Bits_c d.delay _) ?_
            rintro e w9 ⟨rfl, rfl⟩
            refine ⟨rfl, hS, ?_⟩
            refine wpAnyH_call (i := 43) (f := 23) (args := #[.float .f64 d.delay]) (v := .int .u64 d.delay) (by kernel_rfl) rfl (by kernel_rfl) (by kernel_rfl) (Bits_c d.delay _) ?_
            rintro e w9 ⟨rfl, rfl⟩
            refine ⟨rfl, hS, ?_⟩
            refine wpAnyH_take (i := 44) (oi := _) (v := .bool false) rfl (by kernel_rfl) (by kernel_rfl) (by kernel_rfl) (fun _ _ _ h => h) (Or.inl ⟨by kernel_rfl, fun W _ => by go_simp⟩) hS ?_
            refine wpAnyH_take (i := 45) (oi := _) (v := .bool false) rfl (by kernel_rfl) (by kernel_rfl) (by kernel_rfl) (fun _ _ _ h => h) (Or.inl ⟨by kernel_rfl, fun W _ => by go_simp⟩) hS ?_
            refine wpAnyH_take (i := 46) (oi := _) (v := .bool false) rfl (by kernel_rfl) (by kernel_rfl) (by kernel_rfl) (fun _ _ _ h => h) (Or.inl ⟨by kernel_rfl, fun _ _ => by kernel_rfl⟩) hS ?_
            refine wpAnyH_take (i := 47) (oi := _) (v := .pointer (some ⟨B7, 4, none⟩)) rfl (by kernel_rfl) (by kernel_rfl) (by kernel_rfl) (fun _ _ _ h => h) (yields_v (Instr.fieldAt 68 (.pointer (some ⟨B7, 0, none⟩)) 4) (by kernel_rfl) (by kernel_rfl) (fun w' _ => by go_simp)) hS ?_
            refine wpAnyH_take (i := 48) (oi := _) (v := .float .f64 d.extend) rfl (by kernel_rfl) (by kernel_rfl) (by kernel_rfl) (fun _ _ _ h => h) (yields_v (Instr.loadAt 66 (.pointer (some ⟨B7, 4, none⟩))) (by kernel_rfl) (by kernel_rfl) (fun W h => load_flt (range_cell h.1 rfl))) hS ?_
            refine wpAnyH_take (i := 50) (oi := _) (v := .pointer (some ⟨B8, 4, none⟩)) rfl (by kernel_rfl) (by kernel_rfl) (by kernel_rfl) (fun _ _ _ h => h) (yields_v (Instr.fieldAt 68 (.pointer (some ⟨B8, 0, none⟩)) 4) (by kernel_rfl) (by kernel_rfl) (fun w' _ => by go_simp)) hS ?_
            refine wpAnyH_take (i := 51) (oi := _) (v := .float .f64 d.extend) rfl (by kernel_rfl) (by kernel_rfl) (by kernel_rfl) (fun _ _ _ h => h) (yields_v (Instr.loadAt 66 (.pointer (some ⟨B8, 4, none⟩))) (by kernel_rfl) (by kernel_rfl) (fun W h => load_flt (range_cell h.2 rfl))) hS ?_
            refine wpAnyH_call (i := 49) (f := 23) (args := #[.float .f64 d.extend]) (v := .int .u64 d.extend) (by kernel_rfl) rfl (by kernel_rfl) (by kernel_rfl) (Bits_c d.extend _) ?_
            rintro e w9 ⟨rfl, rfl⟩
            refine ⟨rfl, hS, ?_⟩
            refine wpAnyH_call (i := 52) (f := 23) (args := #[.float .f64 d.extend]) (v := .int .u64 d.extend) (by kernel_rfl) rfl (by kernel_rfl) (by kernel_rfl) (Bits_c d.extend _) ?_
            rintro e w9 ⟨rfl, rfl⟩
            refine ⟨rfl, hS, ?_⟩
            refine wpAnyH_take (i := 53) (oi := _) (v := .bool false) rfl (by kernel_rfl) (by kernel_rfl) (by kernel_rfl) (fun _ _ _ h => h) (Or.inl ⟨by kernel_rfl, fun W _ => by go_simp⟩) hS ?_
            refine wpAnyH_take (i := 54) (oi := _) (v := .bool false) rfl (by kernel_rfl) (by kernel_rfl) (by kernel_rfl) (fun _ _ _ h => h) (Or.inl ⟨by kernel_rfl, fun W _ => by go_simp⟩) hS ?_
            refine wpAnyH_done (by kernel_rfl) ?_ _
            go_simp
            go_wp2
            go_roundw
            case rel => exact ⟨j + 1, by omega, by go_num, HXC.out⟩
            case measure => simp [intOf]; omega
        · have hjj : j = t.dets.length := by omega
          subst hjj
          have a2 := HA114.out _ HX.out
          go_wp2
          clear a2
          go_loopw [9] (fun i wh => ∃ (j : Nat), j ≤ t.rails.length ∧ i = .int .i64 j ∧ Ext W0 wh) (fun i _ => t.rails.length - (intOf i).toNat)
          case atStart => exact ⟨0, Nat.zero_le _, rfl, HX.out⟩
          case round =>
            clear HX a1
            obtain ⟨j, hj, rfl, hx⟩ := hrel
            have HX := Lib.hid hx; clear hx
            have a1 := HA114.out _ HX.out
            by_cases hlj : j < t.rails.length
            · have hdl := hT.rl
              rcases hr1 with ⟨h0, _⟩ | ⟨b, off, rfl, hb, hcl⟩
              · omega
              rcases hr2 with ⟨h0, _⟩ | ⟨b2, off2, rfl, hb2, hcl2⟩
              · omega
              have hxw := HX1.out.trans HX.out
              have hm1 : wr.rangeAt b (off + j * 11) (t.rails[j]).cells := fun i v hi => by
                rw [Nat.add_assoc]
                exact (hxw.cell (p := ⟨b, off + (j * 11 + i), none⟩) hb).trans (hcl (j * 11 + i) v (flat_get Ra.cells 11 t.rails (fun _ _ => rfl) j hlj i v hi))
              have hm2 : wr.rangeAt b2 (off2 + j * 11) (t.rails[j]).cells := fun i v hi => by
                rw [Nat.add_assoc]
                exact (hxw.cell (p := ⟨b2, off2 + (j * 11 + i), none⟩) hb2).trans (hcl2 (j * 11 + i) v (flat_get Ra.cells 11 t.rails (fun _ _ => rfl) j hlj i v hi))
              have hkk := HK.out.r t.rails[j] (by simp)
              generalize t.rails[j] = d at hm1 hm2 hkk
              have HEQ := Lib.hid (fun w' => eq_same (P := Tryz.prog) (t := 72) (v := .agg d.cells.toArray) 6 (by omega) (by kernel_rfl) (by kernel_rfl) (by simpa [Value.cells] using hkk) w')
              have hxs : (Tryz.prog.info? 72).map (·.size) = some d.cells.length := by rw [d.len]; kernel_rfl
              have a2 := HD114.out _ HX.out
              have k0 : (0 : Int) ≤ (j : Int) := by omega
              have k1 : (j : Int) < (t.rails.length : Int) := by omega
              have k2 : decide ((t.rails.length : Int) ≤ (j : Int)) = false := by simp; omega
              have k3 : decide ((j : Int) < 0) = false := by simp
              have HXS := Lib.hid hxs
              have HM1 := Lib.hid hm1
              have HM2 := Lib.hid hm2
              clear hcl hcl2 hm1 hm2 hxs hkk
              go_wp2
              refine wp_region_held_drew (S := fun w' : World => w'.cell? ⟨w.heap.size, 114, none⟩ = some (.slice (some ⟨b, off, none⟩) t.rails.length rcp) ∧ w'.cell? ⟨w.heap.size + 1, 114, none⟩ = some (.slice (some ⟨b2, off2, none⟩) t.rails.length rcp2) ∧ w'.rangeAt b (off + j * 11) d.cells ∧ w'.rangeAt b2 (off2 + j * 11) d.cells) (by kernel_rfl)
                ⟨by simpa using a1, by simpa using a2, by simpa using HM1.out, by simpa using HM2.out⟩ (fun hS => ?_)
              refine wpAnyH_take (i := 0) (oi := _) (v := .pointer (some ⟨w.heap.size, 114, none⟩)) rfl (by kernel_rfl) (by kernel_rfl) (by kernel_rfl) (fun _ _ _ h => h) (yields_v (Instr.fieldAt 34 (.pointer (some ⟨w.heap.size, 0, none⟩)) 4) (by kernel_rfl) (by kernel_rfl) (fun w' _ => by go_simp)) hS ?_
              refine wpAnyH_take (i := 1) (oi := _) (v := .slice (some ⟨b, off, none⟩) t.rails.length rcp) rfl (by kernel_rfl) (by kernel_rfl) (by kernel_rfl) (fun _ _ _ h => h) (yields_v (Instr.loadAt 31 (.pointer (some ⟨w.heap.size, 114, none⟩))) (by kernel_rfl) (by kernel_rfl) (fun W h => load_rails (h.1))) hS ?_
              refine wpAnyH_take (i := 2) (oi := _) (v := .int .i64 (j : Int)) rfl (by kernel_rfl) (by kernel_rfl) (by kernel_rfl) (fun _ _ _ h => h) (Or.inl ⟨by kernel_rfl, fun _ _ => by kernel_rfl⟩) hS ?_
              refine wpAnyH_take (i := 3) (oi := _) (v := .pointer (some ⟨b, off + j * 11, none⟩)) rfl (by kernel_rfl) (by kernel_rfl) (by kernel_rfl) (fun _ _ _ h => h) (yields_v (Instr.indexAt 31 (.slice (some ⟨b, off, none⟩) t.rails.length rcp) (.int .i64 (j : Int))) (by kernel_rfl) (by kernel_rfl) (fun w' _ => by go_simp)) hS ?_
              refine wpAnyH_take (i := 4) (oi := _) (v := .agg (d.cells).toArray) rfl (by kernel_rfl) (by kernel_rfl) (by kernel_rfl) (fun _ _ _ h => h) (yieldsIf_load_mid (by kernel_rfl) 72 (.tmp 217) rfl b (off + j * 11) (by kernel_rfl) (d.cells) _ (fun _ h => h.2.2.1) Tryz.underlying72 rfl HXS.out) hS ?_
              refine wpAnyH_take (i := 5) (oi := _) (v := .pointer (some ⟨w.heap.size + 1, 114, none⟩)) rfl (by kernel_rfl) (by kernel_rfl) (by kernel_rfl) (fun _ _ _ h => h) (yields_v (Instr.fieldAt 34 (.pointer (some ⟨w.heap.size + 1, 0, none⟩)) 4) (by kernel_rfl) (by kernel_rfl) (fun w' _ => by go_simp)) hS ?_
              refine wpAnyH_take (i := 6) (oi := _) (v := .slice (some ⟨b2, off2, none⟩) t.rails.length rcp2) rfl (by kernel_rfl) (by kernel_rfl) (by kernel_rfl) (fun _ _ _ h => h) (yields_v (Instr.loadAt 31 (.pointer (some ⟨w.heap.size + 1, 114, none⟩))) (by kernel_rfl) (by kernel_rfl) (fun W h => load_rails (h.2.1))) hS ?_
              refine wpAnyH_take (i := 7) (oi := _) (v := .int .i64 (j : Int)) rfl (by kernel_rfl) (by kernel_rfl) (by kernel_rfl) (fun _ _ _ h => h) (Or.inl ⟨by kernel_rfl, fun _ _ => by kernel_rfl⟩) hS ?_
              refine wpAnyH_take (i := 8) (oi := _) (v := .pointer (some ⟨b2, off2 + j * 11, none⟩)) rfl (by kernel_rfl) (by kernel_rfl) (by kernel_rfl) (fun _ _ _ h => h) (yields_v (Instr.indexAt 31 (.slice (some ⟨b2, off2, none⟩) t.rails.length rcp2) (.int .i64 (j : Int))) (by kernel_rfl) (by kernel_rfl) (fun w' _ => by go_simp)) hS ?_
              refine wpAnyH_take (i := 9) (oi := _) (v := .agg (d.cells).toArray) rfl (by kernel_rfl) (by kernel_rfl) (by kernel_rfl) (fun _ _ _ h => h) (yieldsIf_load_mid (by kernel_rfl) 72 (.tmp 222) rfl b2 (off2 + j * 11) (by kernel_rfl) (d.cells) _ (fun _ h => h.2.2.2) Tryz.underlying72 rfl HXS.out) hS ?_
              refine wpAnyH_take (i := 10) (oi := _) (v := .bool false) rfl (by kernel_rfl) (by kernel_rfl) (by kernel_rfl) (fun _ _ _ h => h) (Or.inl ⟨by kernel_rfl, fun W _ => (by clear HEQ; unfold Ra.cells; go_simp)⟩) hS ?_
              refine wpAnyH_done (by kernel_rfl) ?_ _
              go_simp
              go_wp2
              go_roundw
              case rel => exact ⟨j + 1, by omega, by go_num, HX.out.drew⟩
              case measure => simp [intOf]; omega
            · have hjj : j = t.rails.length := by omega
              subst hjj
              have a2 := HA115.out _ HX.out
              go_wp2
              clear a2
              go_loopw [10] (fun i wh => ∃ (j : Nat), j ≤ t.buses.length ∧ i = .int .i64 j ∧ Ext W0 wh) (fun i _ => t.buses.length - (intOf i).toNat)
              case atStart => exact ⟨0, Nat.zero_le _, rfl, HX.out⟩
              case round =>
                clear HX a1
                obtain ⟨j, hj, rfl, hx⟩ := hrel
                have HX := Lib.hid hx; clear hx
                have a1 := HA115.out _ HX.out
                by_cases hlj : j < t.buses.length
                · have hdl := hT.bl
                  rcases hb1 with ⟨h0, _⟩ | ⟨b, off, rfl, hb, hcl⟩
                  · omega
                  rcases hb2 with ⟨h0, _⟩ | ⟨b2, off2, rfl, hb2, hcl2⟩
                  · omega
                  have hxw := HX1.out.trans HX.out
                  have hm1 : wr.rangeAt b (off + j * 2) (t.buses[j]).cells := fun i v hi => by
                    rw [Nat.add_assoc]
                    exact (hxw.cell (p := ⟨b, off + (j * 2 + i), none⟩) hb).trans (hcl (j * 2 + i) v (flat_get Bu.cells 2 t.buses (fun _ _ => rfl) j hlj i v hi))
                  have hm2 : wr.rangeAt b2 (off2 + j * 2) (t.buses[j]).cells := fun i v hi => by
                    rw [Nat.add_assoc]
                    exact (hxw.cell (p := ⟨b2, off2 + (j * 2 + i), none⟩) hb2).trans (hcl2 (j * 2 + i) v (flat_get Bu.cells 2 t.buses (fun _ _ => rfl) j hlj i v hi))
                  have hkk := HK.out.b t.buses[j] (by simp)
                  generalize t.buses[j] = d at hm1 hm2 hkk
                  have HEQ := Lib.hid (fun w' => eq_same (P := Tryz.prog) (t := 74) (v := .agg d.cells.toArray) 6 (by omega) (by kernel_rfl) (by kernel_rfl) (by simpa [Value.cells] using hkk) w')
                  have hxs : (Tryz.prog.info? 74).map (·.size) = some d.cells.length := by rw [d.len]; kernel_rfl
                  have a2 := HD115.out _ HX.out
                  have k0 : (0 : Int) ≤ (j : Int) := by omega
                  have k1 : (j : Int) < (t.buses.length : Int) := by omega
                  have k2 : decide ((t.buses.length : Int) ≤ (j : Int)) = false := by simp; omega
                  have k3 : decide ((j : Int) < 0) = false := by simp
                  have HXS := Lib.hid hxs
                  have HM1 := Lib.hid hm1
                  have HM2 := Lib.hid hm2
                  clear hcl hcl2 hm1 hm2 hxs hkk
                  go_wp2
                  refine wp_region_held_drew (S := fun w' : World => w'.cell? ⟨w.heap.size, 115, none⟩ = some (.slice (some ⟨b, off, none⟩) t.buses.length bcp) ∧ w'.cell? ⟨w.heap.size + 1, 115, none⟩ = some (.slice (some ⟨b2, off2, none⟩) t.buses.length bcp2) ∧ w'.rangeAt b (off + j * 2) d.cells ∧ w'.rangeAt b2 (off2 + j * 2) d.cells) (by kernel_rfl)
                    ⟨by simpa using a1, by simpa using a2, by simpa using HM1.out, by simpa using HM2.out⟩ (fun hS => ?_)
                  refine wpAnyH_take (i := 0) (oi := _) (v := .pointer (some ⟨w.heap.size, 115, none⟩)) rfl (by kernel_rfl) (by kernel_rfl) (by kernel_rfl) (fun _ _ _ h => h) (yields_v (Instr.fieldAt 34 (.pointer (some ⟨w.heap.size, 0, none⟩)) 5) (by kernel_rfl) (by kernel_rfl) (fun w' _ => by go_simp)) hS ?_
                  refine wpAnyH_take (i := 1) (oi := _) (v := .slice (some ⟨b, off, none⟩) t.buses.length bcp) rfl (by kernel_rfl) (by kernel_rfl) (by kernel_rfl) (fun _ _ _ h => h) (yields_v (Instr.loadAt 32 (.pointer (some ⟨w.heap.size, 115, none⟩))) (by kernel_rfl) (by kernel_rfl) (fun W h => load_bs (h.1))) hS ?_
                  refine wpAnyH_take (i := 2) (oi := _) (v := .int .i64 (j : Int)) rfl (by kernel_rfl) (by kernel_rfl) (by kernel_rfl) (fun _ _ _ h => h) (Or.inl ⟨by kernel_rfl, fun _ _ => by kernel_rfl⟩) hS ?_
                  refine wpAnyH_take (i := 3) (oi := _) (v := .pointer (some ⟨b, off + j * 2, none⟩)) rfl (by kernel_rfl) (by kernel_rfl) (by kernel_rfl) (fun _ _ _ h => h) (yields_v (Instr.indexAt 32 (.slice (some ⟨b, off, none⟩) t.buses.length bcp) (.int .i64 (j : Int))) (by kernel_rfl) (by kernel_rfl) (fun w' _ => by go_simp)) hS ?_
                  refine wpAnyH_take (i := 4) (oi := _) (v := .agg (d.cells).toArray) rfl (by kernel_rfl) (by kernel_rfl) (by kernel_rfl) (fun _ _ _ h => h) (yieldsIf_load_mid (by kernel_rfl) 74 (.tmp 235) rfl b (off + j * 2) (by kernel_rfl) (d.cells) _ (fun _ h => h.2.2.1) Tryz.underlying74 rfl HXS.out) hS ?_
                  refine wpAnyH_take (i := 5) (oi := _) (v := .pointer (some ⟨w.heap.size + 1, 115, none⟩)) rfl (by kernel_rfl) (by kernel_rfl) (by kernel_rfl) (fun _ _ _ h => h) (yields_v (Instr.fieldAt 34 (.pointer (some ⟨w.heap.size + 1, 0, none⟩)) 5) (by kernel_rfl) (by kernel_rfl) (fun w' _ => by go_simp)) hS ?_
                  refine wpAnyH_take (i := 6) (oi := _) (v := .slice (some ⟨b2, off2, none⟩) t.buses.length bcp2) rfl (by kernel_rfl) (by kernel_rfl) (by kernel_rfl) (fun _ _ _ h => h) (yields_v (Instr.loadAt 32 (.pointer (some ⟨w.heap.size + 1, 115, none⟩))) (by kernel_rfl) (by kernel_rfl) (fun W h => load_bs (h.2.1))) hS ?_
                  refine wpAnyH_take (i := 7) (oi := _) (v := .int .i64 (j : Int)) rfl (by kernel_rfl) (by kernel_rfl) (by kernel_rfl) (fun _ _ _ h => h) (Or.inl ⟨by kernel_rfl, fun _ _ => by kernel_rfl⟩) hS ?_
                  refine wpAnyH_take (i := 8) (oi := _) (v := .pointer (some ⟨b2, off2 + j * 2, none⟩)) rfl (by kernel_rfl) (by kernel_rfl) (by kernel_rfl) (fun _ _ _ h => h) (yields_v (Instr.indexAt 32 (.slice (some ⟨b2, off2, none⟩) t.buses.length bcp2) (.int .i64 (j : Int))) (by kernel_rfl) (by kernel_rfl) (fun w' _ => by go_simp)) hS ?_
                  refine wpAnyH_take (i := 9) (oi := _) (v := .agg (d.cells).toArray) rfl (by kernel_rfl) (by kernel_rfl) (by kernel_rfl) (fun _ _ _ h => h) (yieldsIf_load_mid (by kernel_rfl) 74 (.tmp 240) rfl b2 (off2 + j * 2) (by kernel_rfl) (d.cells) _ (fun _ h => h.2.2.2) Tryz.underlying74 rfl HXS.out) hS ?_
                  refine wpAnyH_take (i := 10) (oi := _) (v := .bool false) rfl (by kernel_rfl) (by kernel_rfl) (by kernel_rfl) (fun _ _ _ h => h) (Or.inl ⟨by kernel_rfl, fun W _ => (by clear HEQ; unfold Bu.cells; go_simp)⟩) hS ?_
                  refine wpAnyH_done (by kernel_rfl) ?_ _
                  go_simp
                  go_wp2
                  go_roundw
                  case rel => exact ⟨j + 1, by omega, by go_num, HX.out.drew⟩
                  case measure => simp [intOf]; omega
                · have hjj : j = t.buses.length := by omega
                  subst hjj
                  go_wp2
                  go_ret
                  exact ⟨by kernel_rfl, HX1.out.trans HX.out⟩
end Go.Proofs.YtpopnmelcplbbaaGreat
