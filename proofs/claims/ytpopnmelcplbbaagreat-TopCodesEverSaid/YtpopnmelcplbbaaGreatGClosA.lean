/-
  check: the closures of Check over phases and groups. check: the rules of Check over phases, and the groups' rule. check: what is wrong with a detector, a rail, a bus.
-/
import Derived.Test.YtpopnmelcplbbaaGreatFirst
import Derived.Test.YtpopnmelcplbbaaGreatChkP
import Derived.Test.YtpopnmelcplbbaaGreatConf
import Derived.Test.YtpopnmelcplbbaaGreatFlash
set_option linter.unusedVariables false
set_option linter.unusedSimpArgs false
namespace Go.Proofs.YtpopnmelcplbbaaGreat
open Go.RowKit

/-- the boxes that Check's closures have captured -/
structure Env (W : World) (bt bo bp : Nat) (t : Tab) (gv dv rv bv : Value) (on : Int) : Prop where
  tb : TB W bt t gv dv rv bv
  ta : TabAt W gv dv rv bv t
  o : W.cell? ⟨bo, 0, none⟩ = some (.int .i64 on)
  p : W.cell? ⟨bp, 0, none⟩ = some (.func (.func 36) #[] #[.pointer (some ⟨bo, 0, none⟩)])
section
variable {W W' : World} {bt bo bp : Nat} {t : Tab} {gv dv rv bv : Value} {on : Int}
theorem Env.ext (h : Env W bt bo bp t gv dv rv bv on) (e : Ext W W') : Env W' bt bo bp t gv dv rv bv on :=
  ⟨h.tb.ext e, h.ta.ext e, (e.cell (p := ⟨bo, 0, none⟩) (World.block_lt_of_cell? W _ h.o)).trans h.o, (e.cell (p := ⟨bp, 0, none⟩) (World.block_lt_of_cell? W _ h.p)).trans h.p⟩
theorem Env.ltt (h : Env W bt bo bp t gv dv rv bv on) : bt < W.heap.size := h.tb.lt
theorem Env.lto (h : Env W bt bo bp t gv dv rv bv on) : bo < W.heap.size := World.block_lt_of_cell? W ⟨bo, 0, none⟩ h.o
theorem Env.ltp (h : Env W bt bo bp t gv dv rv bv on) : bp < W.heap.size := World.block_lt_of_cell? W ⟨bp, 0, none⟩ h.p
end

theorem check1_1_c (w : World) (p : Int) (bo bw : Nat) (on : Int) (f : FuncId) (caps : Array Value) (hE : Enters f) (b : Bool) (ho : w.cell? ⟨bo, 0, none⟩ = some (.int .i64 on)) (hw : w.cell? ⟨bw, 0, none⟩ = some (.func (.func f) #[] caps))
    (hC : has on p = true → Calls Tryz.prog f (#[.int .i64 p] ++ caps) w (Ret w (.bool b))) :
    Calls Tryz.prog 38 #[.int .i64 p, .pointer (some ⟨bo, 0, none⟩), .pointer (some ⟨bw, 0, none⟩)] w (Ret w (.bool (has on p && b))) := by
  unfold Enters at hE
  have hh := Has_c on p w
  cases hb : has on p with
  | false =>
    rw [hb] at hh
    have H := Lib.hid hh; clear hh hC hb
    go_enter Tryz.func38, Tryz.ntmps38
    go_wp2_with fail
    refine H.out.mono ?_
    rintro e w1 ⟨rfl, rfl⟩
    go_wp2
    go_ret
    exact ⟨by simp, Ext.refl _⟩
  | true =>
    rw [hb] at hh
    have H := Lib.hid hh
    have HC := Lib.hid (hC hb); clear hh hC hb
    go_enter Tryz.func38, Tryz.ntmps38
    go_wp2_with fail
    refine H.out.mono ?_
    rintro e w1 ⟨rfl, rfl⟩
    go_wp2_with fail
    refine HC.out.mono ?_
    rintro e w1 ⟨rfl, hx⟩
    clear hw ho
    go_wp2
    go_ret
    exact ⟨by simp, hx⟩

/-- what is wrong first with a phase that there is -/
def phasesS (code : Int) (on : Int) (wg : Nat → Bool) : Int × Int := firstS code 8 fun p => has on (p : Int) && wg p

theorem check1_c (w : World) (code : Int) (bo : Nat) (on : Int) (f : FuncId) (caps : Array Value) (hE : Enters f) (wg : Nat → Bool) (ho : w.cell? ⟨bo, 0, none⟩ = some (.int .i64 on))
    (hC : ∀ p, p < 8 → ∀ w1, Ext w w1 → Calls Tryz.prog f (#[.int .i64 p] ++ caps) w1 (Ret w1 (.bool (wg p)))) :
    Calls Tryz.prog 36 #[.int .i64 code, .func (.func f) #[] caps, .pointer (some ⟨bo, 0, none⟩)] w (Ret w (faultA (phasesS code on wg))) := by
  have hlo := World.block_lt_of_cell? w ⟨bo, 0, none⟩ ho
  have hmf := make_func
  have hx1 := ((Ext.refl w).alloc (.cells #[.func (.func f) #[] caps] 89)).alloc (.cells #[.int .i64 0, .int .i64 0] 37)
  have hO := Own0.made ((Ext.refl w).alloc (.cells #[.func (.func f) #[] caps] 89)) [.int .i64 0, .int .i64 0] 37
  rw [World.size_alloc] at hO
  have hw : ((w.alloc (.cells #[.func (.func f) #[] caps] 89)).alloc (.cells #[.int .i64 0, .int .i64 0] 37)).cell? ⟨w.heap.size, 0, none⟩ = some (.func (.func f) #[] caps) :=
    (((Ext.refl _).alloc (.cells #[.int .i64 0, .int .i64 0] 37)).cell (p := ⟨w.heap.size, 0, none⟩) (by simp)).trans (by rw [World.cell?_alloc_at _ _ _ _ rfl]; rfl)
  have he : Enters 38 := fun args w => by kernel_rfl
  have hf := first_c ((w.alloc (.cells #[.func (.func f) #[] caps] 89)).alloc (.cells #[.int .i64 0, .int .i64 0] 37)) code 8 (by omega) 38 #[.pointer (some ⟨bo, 0, none⟩), .pointer (some ⟨w.heap.size, 0, none⟩)] he
    (fun p => has on (p : Int) && wg p) (fun p hp w1 h1 => check1_1_c w1 p bo w.heap.size on f caps hE (wg p)
      (((hx1.trans h1).cell (p := ⟨bo, 0, none⟩) hlo).trans ho) ((h1.cell (p := ⟨w.heap.size, 0, none⟩) (by simp; omega)).trans hw) (fun _ => hC p hp w1 (hx1.trans h1)))
  unfold phasesS
  generalize firstS code 8 (fun p => has on (p : Int) && wg p) = r at hf ⊢
  have H := Lib.hid hf; clear hf he
  have HO := Lib.hid hO; clear hO hw hC hE
  have HIN := Lib.hid (show (Tryz.prog.info? 37).map (·.size) = some 2 by kernel_rfl)
  have HON := fun (c a : Int) => Lib.hid (show (#[.int .i64 c, .int .i64 a] : Array Value).all (·.oneCell') = true by simp [Value.oneCell'])
  clear hx1
  go_enter Tryz.func36, Tryz.ntmps36
  go_wp2_with fail
  refine H.out.mono ?_
  unfold faultA
  rintro e w1 ⟨rfl, hx⟩
  have hOb := HO.out.ext hx
  have HTH := Lib.hid (hOb.there 0 2 (by simp))
  have HOE := Lib.hid (hOb.all (faultC r) rfl)
  clear hOb hx H HO
  go_wp2_with ((with_reducible refine atStore 37 rfl ?_); refine wpList_store_mid rfl 37 _ _ rfl (w.heap.size + 1) 0 _ rfl rfl HTH.out HIN.out (HON _ _).out (halt ?_))
  unfold Halt
  go_wp2
  exact bodyPost_ret (results_agg rfl _ _ _ _ rfl _ _ HOE.out.range Tryz.underlying37 rfl (by kernel_rfl)) rfl ⟨rfl, HOE.out.x⟩
end Go.Proofs.YtpopnmelcplbbaaGreat
namespace Go.Proofs.YtpopnmelcplbbaaGreat
open Go.RowKit

theorem table_size (t : Tab) (gv dv rv bv : Value) : (Tryz.prog.info? 34).map (·.size) = some (t.cells gv dv rv bv).length := by rw [t.cells_len]; kernel_rfl

theorem chk41 (w : World) (bt bo bp : Nat) (t : Tab) (gv dv rv bv : Value) (on : Int) (h : Env w bt bo bp t gv dv rv bv on) (p : Nat) (hp : p < 8) :
    Calls Tryz.prog 41 #[.int .i64 p, .pointer (some ⟨bt, 0, none⟩)] w (Ret w (.bool (phaseBad (t.ph p)))) := by
  have hr := h.tb.ph p hp
  generalize t.ph p = x at hr ⊢
  have HR := Lib.hid hr; clear hr h
  have HIN := Lib.hid (show (Tryz.prog.info? 26).map (·.size) = some x.cells.length by rw [x.len]; kernel_rfl)
  have hc := phase_chk x w
  have H := Lib.hid hc; clear hc
  have p0 : (0 : Int) ≤ (p : Int) := by omega
  have p1 : (p : Int) < 8 := by omega
  go_enter Tryz.func41, Tryz.ntmps41
  go_wp2_with ((with_reducible refine atLoad 26 rfl ?_); refine wpList_load_mid rfl 26 _ rfl _ _ rfl _ _ HR.out Tryz.underlying26 rfl HIN.out ?_)
  refine H.out.mono ?_
  rintro e w1 ⟨rfl, hx⟩
  go_wp2
  go_ret
  exact ⟨rfl, hx⟩

theorem chk46 (w : World) (bt bo bp : Nat) (t : Tab) (gv dv rv bv : Value) (on : Int) (h : Env w bt bo bp t gv dv rv bv on) (p : Nat) (hp : p < 8) :
    Calls Tryz.prog 46 #[.int .i64 p, .pointer (some ⟨bt, 0, none⟩), .pointer (some ⟨bo, 0, none⟩)] w (Ret w (.bool (conflictS t on p))) := by
  have hr := h.tb.range
  have ho := h.o
  have hs := table_size t gv dv rv bv
  have hc := conflict_c w gv dv rv bv t h.ta on p hp
  unfold tabV at hc
  generalize t.cells gv dv rv bv = C at hr hs hc
  generalize conflictS t on p = b at hc ⊢
  have HR := Lib.hid hr; clear hr h
  have HS := Lib.hid hs; clear hs
  have H := Lib.hid hc; clear hc
  go_enter Tryz.func46, Tryz.ntmps46
  go_wp2_with ((with_reducible refine atLoad 34 rfl ?_); refine wpList_load_mid rfl 34 _ rfl _ _ rfl _ _ HR.out Tryz.underlying34 rfl HS.out ?_)
  refine H.out.mono ?_
  rintro e w1 ⟨rfl, hx⟩
  clear ho
  go_wp2
  go_ret
  exact ⟨rfl, hx⟩

theorem chk56 (w : World) (bt bo bp : Nat) (t : Tab) (gv dv rv bv : Value) (on : Int) (h : Env w bt bo bp t gv dv rv bv on) (p : Nat) (hp : p < 8) :
    Calls Tryz.prog 56 #[.int .i64 p, .pointer (some ⟨bt, 0, none⟩), .pointer (some ⟨bo, 0, none⟩)] w (Ret w (.bool (flashS t on p))) := by
  have hr := h.tb.range
  have ho := h.o
  have hs := table_size t gv dv rv bv
  have hc := flash_c w gv dv rv bv t on p hp
  unfold tabV at hc
  generalize t.cells gv dv rv bv = C at hr hs hc
  generalize flashS t on p = b at hc ⊢
  have HR := Lib.hid hr; clear hr h
  have HS := Lib.hid hs; clear hs
  have H := Lib.hid hc; clear hc
  go_enter Tryz.func56, Tryz.ntmps56
  go_wp2_with ((with_reducible refine atLoad 34 rfl ?_); refine wpList_load_mid rfl 34 _ rfl _ _ rfl _ _ HR.out Tryz.underlying34 rfl HS.out ?_)
  refine H.out.mono ?_
  rintro e w1 ⟨rfl, hx⟩
  clear ho
  go_wp2
  go_ret
  exact ⟨rfl, hx⟩

theorem rule1 (w : World) (bt bo bp : Nat) (t : Tab) (gv dv rv bv : Value) (on : Int) (h : Env w bt bo bp t gv dv rv bv on) :
    Calls Tryz.prog 40 #[.pointer (some ⟨bp, 0, none⟩), .pointer (some ⟨bt, 0, none⟩)] w (Ret w (faultA (phasesS 7 on (fun p => phaseBad (t.ph p))))) := by
  have hmf := make_func
  have hx1 := (Ext.refl w).alloc (.cells #[.int .i64 0, .int .i64 0] 37)
  have hO := Own0.made (Ext.refl w) [.int .i64 0, .int .i64 0] 37
  have h1 := h.ext hx1
  have HO := Lib.hid hO; clear hO
  have HIN := Lib.hid (show (Tryz.prog.info? 37).map (·.size) = some 2 by kernel_rfl)
  have HON := fun (c a : Int) => Lib.hid (show (#[.int .i64 c, .int .i64 a] : Array Value).all (·.oneCell') = true by simp [Value.oneCell'])
  have he : Enters 41 := fun args w => by kernel_rfl
  have heP : ∀ (args : Array Value) (w : World), (callFunc 36 args).run Tryz.prog w = .ok (.enter 36 args) w := fun args w => by kernel_rfl
  have hf := check1_c _ 7 bo on 41 #[.pointer (some ⟨bt, 0, none⟩)] he (fun p => phaseBad (t.ph p)) h1.o (fun p hp w2 h2 => chk41 w2 bt bo bp t gv dv rv bv on (h1.ext h2) p hp)
  have hp := h1.p
  generalize phasesS 7 on (fun p => phaseBad (t.ph p)) = r at hf ⊢
  have H := Lib.hid hf; clear hf he h h1 hx1
  go_enter Tryz.func40, Tryz.ntmps40
  go_wp2_with fail
  refine H.out.mono ?_
  clear hp heP
  unfold faultA
  rintro e w1 ⟨rfl, hx⟩
  have hOb := HO.out.ext hx
  have HTH := Lib.hid (hOb.there 0 2 (by simp))
  have HOE := Lib.hid (hOb.all (faultC r) rfl)
  clear hOb hx H HO
  go_wp2_with ((with_reducible refine atStore 37 rfl ?_); refine wpList_store_mid rfl 37 _ _ rfl w.heap.size 0 _ rfl rfl HTH.out HIN.out (HON _ _).out (halt ?_))
  unfold Halt
  go_wp2
  exact bodyPost_ret (results_agg rfl _ _ _ _ rfl _ _ HOE.out.range Tryz.underlying37 rfl (by kernel_rfl)) rfl ⟨rfl, HOE.out.x⟩

theorem rule3 (w : World) (bt bo bp : Nat) (t : Tab) (gv dv rv bv : Value) (on : Int) (h : Env w bt bo bp t gv dv rv bv on) :
    Calls Tryz.prog 45 #[.pointer (some ⟨bp, 0, none⟩), .pointer (some ⟨bt, 0, none⟩), .pointer (some ⟨bo, 0, none⟩)] w (Ret w (faultA (phasesS 9 on (fun p => conflictS t on p)))) := by
  have hmf := make_func
  have hx1 := (Ext.refl w).alloc (.cells #[.int .i64 0, .int .i64 0] 37)
  have hO := Own0.made (Ext.refl w) [.int .i64 0, .int .i64 0] 37
  have h1 := h.ext hx1
  have HO := Lib.hid hO; clear hO
  have HIN := Lib.hid (show (Tryz.prog.info? 37).map (·.size) = some 2 by kernel_rfl)
  have HON := fun (c a : Int) => Lib.hid (show (#[.int .i64 c, .int .i64 a] : Array Value).all (·.oneCell') = true by simp [Value.oneCell'])
  have he : Enters 46 := fun args w => by kernel_rfl
  have heP : ∀ (args : Array Value) (w : World), (callFunc 36 args).run Tryz.prog w = .ok (.enter 36 args) w := fun args w => by kernel_rfl
  have hf := check1_c _ 9 bo on 46 #[.pointer (some ⟨bt, 0, none⟩), .pointer (some ⟨bo, 0, none⟩)] he (fun p => conflictS t on p) h1.o (fun p hp w2 h2 => chk46 w2 bt bo bp t gv dv rv bv on (h1.ext h2) p hp)
  have hp := h1.p
  generalize phasesS 9 on (fun p => conflictS t on p) = r at hf ⊢
  have H := Lib.hid hf; clear hf he h h1 hx1
  go_enter Tryz.func45, Tryz.ntmps45
  go_wp2_with fail
  refine H.out.mono ?_
  clear hp heP
  unfold faultA
  rintro e w1 ⟨rfl, hx⟩
  have hOb := HO.out.ext hx
  have HTH := Lib.hid (hOb.there 0 2 (by simp))
  have HOE := Lib.hid (hOb.all (faultC r) rfl)
  clear hOb hx H HO
  go_wp2_with ((with_reducible refine atStore 37 rfl ?_); refine wpList_store_mid rfl 37 _ _ rfl w.heap.size 0 _ rfl rfl HTH.out HIN.out (HON _ _).out (halt ?_))
  unfold Halt
  go_wp2
  exact bodyPost_ret (results_agg rfl _ _ _ _ rfl _ _ HOE.out.range Tryz.underlying37 rfl (by kernel_rfl)) rfl ⟨rfl, HOE.out.x⟩

theorem rule7 (w : World) (bt bo bp : Nat) (t : Tab) (gv dv rv bv : Value) (on : Int) (h : Env w bt bo bp t gv dv rv bv on) :
    Calls Tryz.prog 55 #[.pointer (some ⟨bp, 0, none⟩), .pointer (some ⟨bt, 0, none⟩), .pointer (some ⟨bo, 0, none⟩)] w (Ret w (faultA (phasesS 13 on (fun p => flashS t on p)))) := by
  have hmf := make_func
  have hx1 := (Ext.refl w).alloc (.cells #[.int .i64 0, .int .i64 0] 37)
  have hO := Own0.made (Ext.refl w) [.int .i64 0, .int .i64 0] 37
  have h1 := h.ext hx1
  have HO := Lib.hid hO; clear hO
  have HIN := Lib.hid (show (Tryz.prog.info? 37).map (·.size) = some 2 by kernel_rfl)
  have HON := fun (c a : Int) => Lib.hid (show (#[.int .i64 c, .int .i64 a] : Array Value).all (·.oneCell') = true by simp [Value.oneCell'])
  have he : Enters 56 := fun args w => by kernel_rfl
  have heP : ∀ (args : Array Value) (w : World), (callFunc 36 args).run Tryz.prog w = .ok (.enter 36 args) w := fun args w => by kernel_rfl
  have hf := check1_c _ 13 bo on 56 #[.pointer (some ⟨bt, 0, none⟩), .pointer (some ⟨bo, 0, none⟩)] he (fun p => flashS t on p) h1.o (fun p hp w2 h2 => chk56 w2 bt bo bp t gv dv rv bv on (h1.ext h2) p hp)
  have hp := h1.p
  generalize phasesS 13 on (fun p => flashS t on p) = r at hf ⊢
  have H := Lib.hid hf; clear hf he h h1 hx1
  go_enter Tryz.func55, Tryz.ntmps55
  go_wp2_with fail
  refine H.out.mono ?_
  clear hp heP
  unfold faultA
  rintro e w1 ⟨rfl, hx⟩
  have hOb := HO.out.ext hx
  have HTH := Lib.hid (hOb.there 0 2 (by simp))
  have HOE := Lib.hid (hOb.all (faultC r) rfl)
  clear hOb hx H HO
  go_wp2_with ((with_reducible refine atStore 37 rfl ?_); refine wpList_store_mid rfl 37 _ _ rfl w.heap.size 0 _ rfl rfl HTH.out HIN.out (HON _ _).out (halt ?_))
  unfold Halt
  go_wp2
  exact bodyPost_ret (results_agg rfl _ _ _ _ rfl _ _ HOE.out.range Tryz.underlying37 rfl (by kernel_rfl)) rfl ⟨rfl, HOE.out.x⟩

theorem rule2 (w : World) (bt bo bp : Nat) (t : Tab) (gv dv rv bv : Value) (on : Int) (h : Env w bt bo bp t gv dv rv bv on) :
    Calls Tryz.prog 43 #[.pointer (some ⟨bt, 0, none⟩), .pointer (some ⟨bo, 0, none⟩)] w (Ret w (faultA (ringsS t on))) := by
  have hmf := make_func
  have hx1 := (Ext.refl w).alloc (.cells #[.int .i64 0, .int .i64 0] 37)
  have hO := Own0.made (Ext.refl w) [.int .i64 0, .int .i64 0] 37
  have h1 := h.ext hx1
  have HO := Lib.hid hO; clear hO
  have HIN := Lib.hid (show (Tryz.prog.info? 37).map (·.size) = some 2 by kernel_rfl)
  have HON := fun (c a : Int) => Lib.hid (show (#[.int .i64 c, .int .i64 a] : Array Value).all (·.oneCell') = true by simp [Value.oneCell'])
  have hr := h1.tb.range
  have ho := h1.o
  have hs := table_size t gv dv rv bv
  have hf := rings_c _ gv dv rv bv t h1.ta on
  unfold tabV at hf
  generalize t.cells gv dv rv bv = C at hr hs hf
  generalize ringsS t on = r at hf ⊢
  have HR := Lib.hid hr; clear hr
  have HS := Lib.hid hs; clear hs
  have H := Lib.hid hf; clear hf h h1 hx1
  go_enter Tryz.func43, Tryz.ntmps43
  go_wp2_with ((with_reducible refine atLoad 34 rfl ?_); refine wpList_load_mid rfl 34 _ rfl _ _ rfl _ _ HR.out Tryz.underlying34 rfl HS.out ?_)
  refine H.out.mono ?_
  clear ho
  unfold faultA
  rintro e w1 ⟨rfl, hx⟩
  have hOb := HO.out.ext hx
  have HTH := Lib.hid (hOb.there 0 2 (by simp))
  have HOE := Lib.hid (hOb.all (faultC r) rfl)
  clear hOb hx H HO
  go_wp2_with ((with_reducible refine atStore 37 rfl ?_); refine wpList_store_mid rfl 37 _ _ rfl w.heap.size 0 _ rfl rfl HTH.out HIN.out (HON _ _).out (halt ?_))
  unfold Halt
  go_wp2
  exact bodyPost_ret (results_agg rfl _ _ _ _ rfl _ _ HOE.out.range Tryz.underlying37 rfl (by kernel_rfl)) rfl ⟨rfl, HOE.out.x⟩
end Go.Proofs.YtpopnmelcplbbaaGreat
namespace Go.Proofs.YtpopnmelcplbbaaGreat
open Go.RowKit

def gtF (x y : Nat) : Bool := FloatKind.f64.format.order x y == some .gt
def detBad (on : Int) (x : Det) : Bool := gtF x.off x.on || !has on x.phase

set_option maxRecDepth 100000 in
set_option maxHeartbeats 2000000 in
theorem chk49 (w : World) (bt bo bp : Nat) (t : Tab) (gv dv rv bv : Value) (on : Int) (h : Env w bt bo bp t gv dv rv bv on) (d : Nat) (hd : d < t.dets.length) :
    Calls Tryz.prog 49 #[.int .i64 d, .pointer (some ⟨bt, 0, none⟩), .pointer (some ⟨bo, 0, none⟩)] w (Ret w (.bool (detBad on t.dets[d]))) := by
  have ho := h.o
  have hc := h.tb.cell (t.c113 gv dv rv bv)
  obtain ⟨a, cp, rfl, hrow⟩ := h.ta.d
  rcases hrow with ⟨h0, _⟩ | ⟨b, off, rfl, hb, hcl⟩
  · omega
  have hf := fun j v (hj : (t.dets[d]).cells[j]? = some v) => hcl (d * 7 + j) v (flat_get Det.cells 7 t.dets (fun _ _ => rfl) d hd j v hj)
  clear hcl
  have hlen := h.ta.dl
  have d0 : (0 : Int) ≤ (d : Int) := by omega
  have d1 : (d : Int) < (t.dets.length : Int) := by omega
  generalize t.dets[d] = x at hf ⊢
  have c0 := hf 0 _ rfl
  have c1 := hf 1 _ rfl
  have c2 := hf 2 _ rfl
  simp only [← Nat.add_assoc, Nat.add_zero] at c0 c1 c2
  clear hf h
  unfold detBad
  have hh := fun W => (Has_c on x.phase W).mono (R' := fun e w' => e = .returned (.bool (has on x.phase)) ∧ w' = W) (fun e w' h => ⟨h.1, h.2.symm⟩)
  have H := Lib.hid hh; clear hh
  cases hg : gtF x.off x.on with
  | true =>
    unfold gtF at hg
    go_enter Tryz.func49, Tryz.ntmps49
    go_wp2
    go_quiet (fail)
    go_wp2
    go_ret
    exact ⟨by simp, (Ext.refl w).drewN _⟩
  | false =>
    unfold gtF at hg
    generalize has on x.phase = b1 at H ⊢
    go_enter Tryz.func49, Tryz.ntmps49
    go_wp2
    go_quiet ((go_at_call 39; exact Calls.quiet_of_same (H.out _)))
    go_wp2
    go_ret
    exact ⟨by simp, (Ext.refl w).drewN _⟩

def busBad (on : Int) (x : Bu) : Bool := (x.set == 0) || (bits .andNot .i64 x.set on != 0) || decide (x.lock < 1)

set_option maxRecDepth 100000 in
set_option maxHeartbeats 2000000 in
theorem chk54 (w : World) (bt bo bp : Nat) (t : Tab) (gv dv rv bv : Value) (on : Int) (h : Env w bt bo bp t gv dv rv bv on) (d : Nat) (hd : d < t.buses.length) :
    Calls Tryz.prog 54 #[.int .i64 d, .pointer (some ⟨bt, 0, none⟩), .pointer (some ⟨bo, 0, none⟩)] w (Ret w (.bool (busBad on t.buses[d]))) := by
  have ho := h.o
  have hc := h.tb.cell (t.c115 gv dv rv bv)
  obtain ⟨a, cp, rfl, hrow⟩ := h.ta.b
  rcases hrow with ⟨h0, _⟩ | ⟨b, off, rfl, hb, hcl⟩
  · omega
  have hf := fun j v (hj : (t.buses[d]).cells[j]? = some v) => hcl (d * 2 + j) v (flat_get Bu.cells 2 t.buses (fun _ _ => rfl) d hd j v hj)
  clear hcl
  have hlen := h.ta.bl
  have d0 : (0 : Int) ≤ (d : Int) := by omega
  have d1 : (d : Int) < (t.buses.length : Int) := by omega
  generalize t.buses[d] = x at hf ⊢
  have c0 := hf 0 _ rfl
  have c1 := hf 1 _ rfl
  simp only [← Nat.add_assoc, Nat.add_zero] at c0 c1
  clear hf h
  unfold busBad
  cases h1 : (x.set == 0) with
  | true =>
    go_enter Tryz.func54, Tryz.ntmps54
    go_wp2
    go_quiet (fail)
    go_wp2
    go_ret
    exact ⟨by simp, (Ext.refl w).drewN _⟩
  | false =>
    cases h2 : (bits .andNot .i64 x.set on != 0) with
    | true =>
      go_enter Tryz.func54, Tryz.ntmps54
      go_wp2
      go_quiet (fail)
      go_wp2
      go_ret
      exact ⟨by simp, (Ext.refl w).drewN _⟩
    | false =>
      go_enter Tryz.func54, Tryz.ntmps54
      go_wp2
      go_quiet (fail)
      go_wp2
      go_ret
      exact ⟨by simp, (Ext.refl w).drewN _⟩
end Go.Proofs.YtpopnmelcplbbaaGreat
