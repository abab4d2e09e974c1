/-
  check: what is wrong with a rail; the rules over detectors, rails and buses. check: the rules of Check over detectors, rails and buses.
-/
import Derived.Test.YtpopnmelcplbbaaGreatGClosA
import Derived.Test.YtpopnmelcplbbaaGreatRailC
set_option linter.unusedVariables false
set_option linter.unusedSimpArgs false
namespace Go.Proofs.YtpopnmelcplbbaaGreat
open Go.RowKit

set_option maxRecDepth 100000 in
set_option maxHeartbeats 2000000 in
theorem chk51 (w : World) (bt bo bp : Nat) (t : Tab) (gv dv rv bv : Value) (on : Int) (h : Env w bt bo bp t gv dv rv bv on) (d : Nat) (hd : d < t.rails.length) :
    Calls Tryz.prog 51 #[.int .i64 d, .pointer (some ⟨bt, 0, none⟩), .pointer (some ⟨bo, 0, none⟩)] w (Ret w (.bool (railBad t on t.rails[d]))) := by
  have ho := h.o
  have hlo := h.lto
  have hlt := h.ltt
  have hrg := h.tb.range
  have hc := h.tb.cell (t.c114 gv dv rv bv)
  have hsz := table_size t gv dv rv bv
  have hrl := fun W (e : Ext w W) => rail_chk W gv dv rv bv t (h.ta.ext e) on t.rails[d]
  obtain ⟨a, cp, rfl, hrow⟩ := h.ta.r
  rcases hrow with ⟨h0, _⟩ | ⟨b, off, rfl, hb, hcl⟩
  · omega
  have hf : w.rangeAt b (off + d * 11) (t.rails[d]).cells := fun j v hj => by rw [Nat.add_assoc]; exact hcl (d * 11 + j) v (flat_get Ra.cells 11 t.rails (fun _ _ => rfl) d hd j v hj)
  clear hcl
  have hlen := h.ta.rl
  have d0 : (0 : Int) ≤ (d : Int) := by omega
  have d1 : (d : Int) < (t.rails.length : Int) := by omega
  generalize t.rails[d] = x at hf hrl ⊢
  have hxs : (Tryz.prog.info? 72).map (·.size) = some x.cells.length := by rw [x.len]; kernel_rfl
  unfold tabV at hrl
  generalize t.cells gv dv (.slice (some ⟨b, off, none⟩) t.rails.length cp) bv = C at hrg hc hsz hrl
  generalize railBad t on x = r at hrl ⊢
  clear h
  have hfa : ∀ w' : World, (w'.rangeAt bt 0 C ∧ w'.rangeAt b (off + d * 11) x.cells ∧ w'.cell? ⟨bo, 0, none⟩ = some (.int .i64 on) ∧ w'.cell? ⟨bt, 114, none⟩ = some (.slice (some ⟨b, off, none⟩) t.rails.length cp)) → (Instr.fieldAt 34 (.pointer (some ⟨bt, 0, none⟩)) 4).run Tryz.prog w' = .ok (.pointer (some ⟨bt, 114, none⟩)) w' := fun w' _ => by go_simp
  have hia : ∀ w' : World, (w'.rangeAt bt 0 C ∧ w'.rangeAt b (off + d * 11) x.cells ∧ w'.cell? ⟨bo, 0, none⟩ = some (.int .i64 on) ∧ w'.cell? ⟨bt, 114, none⟩ = some (.slice (some ⟨b, off, none⟩) t.rails.length cp)) → (Instr.indexAt 31 (.slice (some ⟨b, off, none⟩) t.rails.length cp) (.int .i64 (d : Int))).run Tryz.prog w' = .ok (.pointer (some ⟨b, off + d * 11, none⟩)) w' := fun w' _ => by go_simp
  have hl1 : ∀ (W : World) (A : Addr) (v : Int), W.cell? A = some (.int .i64 v) → (Instr.loadAt 3 (.pointer (some A))).run Tryz.prog W = .ok (.int .i64 v) W := fun W A v h => by go_simp
  have hl2 : ∀ (W : World) (A : Addr) (p : Option Addr) (n c : Nat), W.cell? A = some (.slice p n c) → (Instr.loadAt 31 (.pointer (some A))).run Tryz.prog W = .ok (.slice p n c) W := fun W A p n c h => by go_simp
  have HRL := Lib.hid hrl; clear hrl
  have HSZ := Lib.hid hsz; clear hsz
  have HXS := Lib.hid hxs; clear hxs
  have HRG := Lib.hid hrg; clear hrg
  have HF := Lib.hid hf; clear hf
  go_enter Tryz.func51, Tryz.ntmps51
  go_wp2
  refine wp_region_held_drew (S := fun w' => w'.rangeAt bt 0 C ∧ w'.rangeAt b (off + d * 11) x.cells ∧ w'.cell? ⟨bo, 0, none⟩ = some (.int .i64 on) ∧ w'.cell? ⟨bt, 114, none⟩ = some (.slice (some ⟨b, off, none⟩) t.rails.length cp)) (by kernel_rfl)
    ⟨by simpa using HRG.out, by simpa using HF.out, by simpa using ho, by simpa using hc⟩ (fun hS => ?_)
  refine wpAnyH_take (i := 0) (oi := _) (v := .agg C.toArray) rfl (by kernel_rfl) (by kernel_rfl) (by kernel_rfl) (fun _ _ _ h => h) (yieldsIf_load_mid (by kernel_rfl) 34 (.tmp 1) rfl bt 0 (by kernel_rfl) C _ (fun _ h => h.1) Tryz.underlying34 rfl HSZ.out) hS ?_
  refine wpAnyH_take (i := 1) (oi := _) (v := .int .i64 on) rfl (by kernel_rfl) (by kernel_rfl) (by kernel_rfl) (fun _ _ _ h => h) (yields_v (Instr.loadAt 3 (.pointer (some ⟨bo, 0, none⟩))) (by kernel_rfl) (by kernel_rfl) (fun W h => hl1 W _ _ h.2.2.1)) hS ?_
  refine wpAnyH_take (i := 2) (oi := _) (v := .pointer (some ⟨bt, 114, none⟩)) rfl (by kernel_rfl) (by kernel_rfl) (by kernel_rfl) (fun _ _ _ h => h) (yields_v (Instr.fieldAt 34 (.pointer (some ⟨bt, 0, none⟩)) 4) (by kernel_rfl) (by kernel_rfl) hfa) hS ?_
  refine wpAnyH_take (i := 3) (oi := _) (v := .slice (some ⟨b, off, none⟩) t.rails.length cp) rfl (by kernel_rfl) (by kernel_rfl) (by kernel_rfl) (fun _ _ _ h => h) (yields_v (Instr.loadAt 31 (.pointer (some ⟨bt, 114, none⟩))) (by kernel_rfl) (by kernel_rfl) (fun W h => hl2 W _ _ _ _ h.2.2.2)) hS ?_
  refine wpAnyH_take (i := 4) (oi := _) (v := .int .i64 d) rfl (by kernel_rfl) (by kernel_rfl) (by kernel_rfl) (fun _ _ _ h => h) (Or.inl ⟨by kernel_rfl, fun _ _ => by kernel_rfl⟩) hS ?_
  refine wpAnyH_take (i := 5) (oi := _) (v := .pointer (some ⟨b, off + d * 11, none⟩)) rfl (by kernel_rfl) (by kernel_rfl) (by kernel_rfl) (fun _ _ _ h => h) (yields_v (Instr.indexAt 31 (.slice (some ⟨b, off, none⟩) t.rails.length cp) (.int .i64 (d : Int))) (by kernel_rfl) (by kernel_rfl) hia) hS ?_
  refine wpAnyH_take (i := 6) (oi := _) (v := .agg x.cells.toArray) rfl (by kernel_rfl) (by kernel_rfl) (by kernel_rfl) (fun _ _ _ h => h) (yieldsIf_load_mid (by kernel_rfl) 72 (.tmp 10) rfl b (off + d * 11) (by kernel_rfl) x.cells _ (fun _ h => h.2.1) Tryz.underlying72 rfl HXS.out) hS ?_
  refine wpAnyH_call (i := 7) (f := 52) (args := #[.agg C.toArray, .int .i64 on, .agg x.cells.toArray]) (v := .bool r) (by kernel_rfl) rfl (by kernel_rfl) (by kernel_rfl) (HRL.out _ (Ext.refl w).drew) ?_
  rintro e w5 ⟨rfl, hx5⟩
  have hS5 : w5.rangeAt bt 0 C ∧ w5.rangeAt b (off + d * 11) x.cells ∧ w5.cell? ⟨bo, 0, none⟩ = some (.int .i64 on) ∧ w5.cell? ⟨bt, 114, none⟩ = some (.slice (some ⟨b, off, none⟩) t.rails.length cp) :=
    ⟨rangeAt_ext hS.1 hx5 hlt, rangeAt_ext hS.2.1 hx5 hb, (hx5.cell (p := ⟨bo, 0, none⟩) hlo).trans hS.2.2.1, (hx5.cell (p := ⟨bt, 114, none⟩) hlt).trans hS.2.2.2⟩
  refine ⟨rfl, hS5, ?_⟩
  refine wpAnyH_take (i := 8) (oi := _) (v := .bool r) rfl (by kernel_rfl) (by kernel_rfl) (by kernel_rfl) (fun _ _ _ h => h) (Or.inl ⟨by kernel_rfl, fun _ _ => by kernel_rfl⟩) hS5 ?_
  refine wpAnyH_done (by kernel_rfl) ?_ _
  go_simp
  go_wp2
  go_ret
  exact ⟨rfl, (Ext.refl w).drew.trans hx5⟩
end Go.Proofs.YtpopnmelcplbbaaGreat
namespace Go.Proofs.YtpopnmelcplbbaaGreat
open Go.RowKit


theorem rule4 (w : World) (bt bo bp : Nat) (t : Tab) (gv dv rv bv : Value) (on : Int) (h : Env w bt bo bp t gv dv rv bv on) :
    Calls Tryz.prog 48 #[.pointer (some ⟨bt, 0, none⟩), .pointer (some ⟨bo, 0, none⟩)] w (Ret w (faultA (firstS 10 t.dets.length (fun i => detBad on (t.dets.getD i default))))) := by
  have hmf := make_func
  have hx1 := (Ext.refl w).alloc (.cells #[.int .i64 0, .int .i64 0] 37)
  have hO := Own0.made (Ext.refl w) [.int .i64 0, .int .i64 0] 37
  have h1 := h.ext hx1
  have HO := Lib.hid hO; clear hO
  have HIN := Lib.hid (show (Tryz.prog.info? 37).map (·.size) = some 2 by kernel_rfl)
  have HON := fun (c a : Int) => Lib.hid (show (#[.int .i64 c, .int .i64 a] : Array Value).all (·.oneCell') = true by simp [Value.oneCell'])
  have he : Enters 49 := fun args w => by kernel_rfl
  have hlen := h.ta.dl
  have hf := first_c _ 10 t.dets.length (by omega) 49 #[.pointer (some ⟨bt, 0, none⟩), .pointer (some ⟨bo, 0, none⟩)] he (fun i => detBad on (t.dets.getD i default)) (fun i hi w2 h2 => by
    have := chk49 w2 bt bo bp t gv dv rv bv on (h1.ext h2) i hi
    simpa [hi] using this)
  have hc := h1.tb.cell (t.c113 gv dv rv bv)
  generalize firstS 10 t.dets.length (fun i => detBad on (t.dets.getD i default)) = r at hf ⊢
  obtain ⟨a, cp, hsl, _⟩ := h1.ta.d
  have H := Lib.hid hf; clear hf he h h1 hx1
  rw [hsl] at hc
  clear hsl
  go_enter Tryz.func48, Tryz.ntmps48
  go_wp2_with fail
  refine H.out.mono ?_
  clear hc
  unfold faultA
  rintro e w1 ⟨rfl, hx⟩
  have hOb := HO.out.ext hx
  have HTH := Lib.hid (hOb.there 0 2 (by simp))
  have HOE := Lib.hid (hOb.all (faultC r) rfl)
  clear hOb hx H HO
  go_wp2_with ((with_reducible refine atStore 37 rfl ?_); refine wpList_store_mid rfl 37 _ _ rfl w.heap.size 0 _ rfl rfl HTH.out HIN.out (HON _ _).out (halt ?_))
  unfold Halt
  go_wp2
  exact bodyPost_ret (results_agg rfl _ _ _ _ rfl _ _ HOE.out.range Tryz.underlying37 rfl (by kernel_rfl)) rfl ⟨rfl, HOE.out.x⟩

theorem rule5 (w : World) (bt bo bp : Nat) (t : Tab) (gv dv rv bv : Value) (on : Int) (h : Env w bt bo bp t gv dv rv bv on) :
    Calls Tryz.prog 50 #[.pointer (some ⟨bt, 0, none⟩), .pointer (some ⟨bo, 0, none⟩)] w (Ret w (faultA (firstS 11 t.rails.length (fun i => railBad t on (t.rails.getD i default))))) := by
  have hmf := make_func
  have hx1 := (Ext.refl w).alloc (.cells #[.int .i64 0, .int .i64 0] 37)
  have hO := Own0.made (Ext.refl w) [.int .i64 0, .int .i64 0] 37
  have h1 := h.ext hx1
  have HO := Lib.hid hO; clear hO
  have HIN := Lib.hid (show (Tryz.prog.info? 37).map (·.size) = some 2 by kernel_rfl)
  have HON := fun (c a : Int) => Lib.hid (show (#[.int .i64 c, .int .i64 a] : Array Value).all (·.oneCell') = true by simp [Value.oneCell'])
  have he : Enters 51 := fun args w => by kernel_rfl
  have hlen := h.ta.rl
  have hf := first_c _ 11 t.rails.length (by omega) 51 #[.pointer (some ⟨bt, 0, none⟩), .pointer (some ⟨bo, 0, none⟩)] he (fun i => railBad t on (t.rails.getD i default)) (fun i hi w2 h2 => by
    have := chk51 w2 bt bo bp t gv dv rv bv on (h1.ext h2) i hi
    simpa [hi] using this)
  have hc := h1.tb.cell (t.c114 gv dv rv bv)
  generalize firstS 11 t.rails.length (fun i => railBad t on (t.rails.getD i default)) = r at hf ⊢
  obtain ⟨a, cp, hsl, _⟩ := h1.ta.r
  have H := Lib.hid hf; clear hf he h h1 hx1
  rw [hsl] at hc
  clear hsl
  go_enter Tryz.func50, Tryz.ntmps50
  go_wp2_with fail
  refine H.out.mono ?_
  clear hc
  unfold faultA
  rintro e w1 ⟨rfl, hx⟩
  have hOb := HO.out.ext hx
  have HTH := Lib.hid (hOb.there 0 2 (by simp))
  have HOE := Lib.hid (hOb.all (faultC r) rfl)
  clear hOb hx H HO
  go_wp2_with ((with_reducible refine atStore 37 rfl ?_); refine wpList_store_mid rfl 37 _ _ rfl w.heap.size 0 _ rfl rfl HTH.out HIN.out (HON _ _).out (halt ?_))
  unfold Halt
  go_wp2
  exact bodyPost_ret (results_agg rfl _ _ _ _ rfl _ _ HOE.out.range Tryz.underlying37 rfl (by kernel_rfl)) rfl ⟨rfl, HOE.out.x⟩

theorem rule6 (w : World) (bt bo bp : Nat) (t : Tab) (gv dv rv bv : Value) (on : Int) (h : Env w bt bo bp t gv dv rv bv on) :
    Calls Tryz.prog 53 #[.pointer (some ⟨bt, 0, none⟩), .pointer (some ⟨bo, 0, none⟩)] w (Ret w (faultA (firstS 12 t.buses.length (fun i => busBad on (t.buses.getD i default))))) := by
  have hmf := make_func
  have hx1 := (Ext.refl w).alloc (.cells #[.int .i64 0, .int .i64 0] 37)
  have hO := Own0.made (Ext.refl w) [.int .i64 0, .int .i64 0] 37
  have h1 := h.ext hx1
  have HO := Lib.hid hO; clear hO
  have HIN := Lib.hid (show (Tryz.prog.info? 37).map (·.size) = some 2 by kernel_rfl)
  have HON := fun (c a : Int) => Lib.hid (show (#[.int .i64 c, .int .i64 a] : Array Value).all (·.oneCell') = true by simp [Value.oneCell'])
  have he : Enters 54 := fun args w => by kernel_rfl
  have hlen := h.ta.bl
  have hf := first_c _ 12 t.buses.length (by omega) 54 #[.pointer (some ⟨bt, 0, none⟩), .pointer (some ⟨bo, 0, none⟩)] he (fun i => busBad on (t.buses.getD i default)) (fun i hi w2 h2 => by
    have := chk54 w2 bt bo bp t gv dv rv bv on (h1.ext h2) i hi
    simpa [hi] using this)
  have hc := h1.tb.cell (t.c115 gv dv rv bv)
  generalize firstS 12 t.buses.length (fun i => busBad on (t.buses.getD i default)) = r at hf ⊢
  obtain ⟨a, cp, hsl, _⟩ := h1.ta.b
  have H := Lib.hid hf; clear hf he h h1 hx1
  rw [hsl] at hc
  clear hsl
  go_enter Tryz.func53, Tryz.ntmps53
  go_wp2_with fail
  refine H.out.mono ?_
  clear hc
  unfold faultA
  rintro e w1 ⟨rfl, hx⟩
  have hOb := HO.out.ext hx
  have HTH := Lib.hid (hOb.there 0 2 (by simp))
  have HOE := Lib.hid (hOb.all (faultC r) rfl)
  clear hOb hx H HO
  go_wp2_with ((with_reducible refine atStore 37 rfl ?_); refine wpList_store_mid rfl 37 _ _ rfl w.heap.size 0 _ rfl rfl HTH.out HIN.out (HON _ _).out (halt ?_))
  unfold Halt
  go_wp2
  exact bodyPost_ret (results_agg rfl _ _ _ _ rfl _ _ HOE.out.range Tryz.underlying37 rfl (by kernel_rfl)) rfl ⟨rfl, HOE.out.x⟩
end Go.Proofs.YtpopnmelcplbbaaGreat
