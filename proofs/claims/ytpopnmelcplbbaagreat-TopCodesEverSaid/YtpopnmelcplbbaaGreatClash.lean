/-
  check: clash, clashes, apart.
-/
import Derived.Test.YtpopnmelcplbbaaGreatWhere
import Derived.Test.YtpopnmelcplbbaaGreatEach
set_option linter.unusedVariables false
set_option linter.unusedSimpArgs false
namespace Go.Proofs.YtpopnmelcplbbaaGreat
open Go.RowKit Go.Shelf

attribute [local go_sem] Oper.semAt_some

def clashS (t : Tab) (p q : Nat) : Bool := has (t.conflict p) (q : Int) || has (t.conflict q) (p : Int)

set_option maxRecDepth 100000 in
set_option maxHeartbeats 1000000 in
theorem clash_c (w : World) (gv dv rv bv : Value) (t : Tab) (p q : Nat) (hp : p < 8) (hq : q < 8) :
    Calls Tryz.prog 131 #[tabV t gv dv rv bv, .int .i64 p, .int .i64 q] w (Ret w (.bool (clashS t p q))) := by
  have hx0 := (Ext.refl w).alloc (.cells (t.cells gv dv rv bv).toArray 34)
  have hTB := TB.new w t gv dv rv bv 34
  have hc1 := hTB.cell (t.conf_at gv dv rv bv p hp)
  have hc2 := hTB.cell (t.conf_at gv dv rv bv q hq)
  unfold tabV clashS
  generalize t.cells gv dv rv bv = cells at hx0 hc1 hc2 ⊢
  clear hTB
  generalize t.conflict p = c1 at hc1 ⊢
  generalize t.conflict q = c2 at hc2 ⊢
  have hh1 := Has_c c1 (q : Int)
  have hh2 := Has_c c2 (p : Int)
  generalize has c1 (q : Int) = b1 at hh1 ⊢
  generalize has c2 (p : Int) = b2 at hh2 ⊢
  have H1 := Lib.hid hh1; clear hh1
  have H2 := Lib.hid hh2; clear hh2
  have HX := Lib.hid hx0; clear hx0
  have p0 : (0 : Int) ≤ (p : Int) := by omega
  have p1 : (p : Int) < 8 := by omega
  have q0 : (0 : Int) ≤ (q : Int) := by omega
  have q1 : (q : Int) < 8 := by omega
  cases b1
  · go_enter Tryz.func131, Tryz.ntmps131
    go_wp2_with fail
    refine (H1.out _).mono ?_
    rintro e w1 ⟨rfl, rfl⟩
    go_wp2_with fail
    refine (H2.out _).mono ?_
    rintro e w1 ⟨rfl, rfl⟩
    go_wp2
    go_ret
    exact ⟨by simp, HX.out⟩
  · go_enter Tryz.func131, Tryz.ntmps131
    go_wp2_with fail
    refine (H1.out _).mono ?_
    rintro e w1 ⟨rfl, rfl⟩
    go_wp2
    go_ret
    exact ⟨by simp, HX.out⟩

def clashesS (t : Tab) (s : Int) : Bool := (eachL s).any fun p => (eachL s).any fun q => (p != q) && clashS t p.val q.val

set_option maxRecDepth 100000 in
set_option maxHeartbeats 4000000 in
theorem clashes_c (w : World) (gv dv rv bv : Value) (t : Tab) (s : Int) :
    Calls Tryz.prog 95 #[tabV t gv dv rv bv, .int .i64 s] w (Ret w (.bool (clashesS t s))) := by
  refine (callsIn_wide (n := 10)).1 ?_
  have hx0 := (Ext.refl w).alloc (.cells (t.cells gv dv rv bv).toArray 34)
  have hTB := TB.new w t gv dv rv bv 34
  unfold tabV
  refine callsIn_of_wp_marks Tryz.func95 rfl trivial ?_ rfl
  simp only [Tryz.ntmps95, List.size_toArray, List.length_cons, List.length_nil, Nat.reduceAdd, Nat.reduceSub, Array.replicate_succ, Array.replicate_zero, List.push_toArray, List.append_toArray, List.nil_append, List.cons_append]
  have hE := fun W => callsIn_wide (n := 9) |>.2 (Each_c s W)
  have HE := Lib.hid hE; clear hE
  gi_wp2_with (refine ⟨trivial, ?_⟩; gi_at_call 30; refine (HE.out _).mono ?_; rintro e w' ⟨rfl, rfl⟩)
  have hT0 := hTB
  have hcs : ((w.alloc (.cells (t.cells gv dv rv bv).toArray 34)).alloc (.cells #[.int .i64 s] 3)).cell? ⟨w.heap.size + 1, 0, none⟩ = some (.int .i64 s) := by
    rw [World.cell?_alloc_at _ _ _ _ (by simp)]; rfl
  have e1 := (Ext.refl (w.alloc (.cells (t.cells gv dv rv bv).toArray 34))).alloc (.cells #[.int .i64 s] 3)
  have e2 := e1.alloc (.cells #[.bool false] 4)
  have e3 := e2.alloc (.cells #[.int .i64 s] 3)
  have hT1 := hTB.ext e3
  have hs1 := ((((Ext.refl _).alloc (.cells #[.bool false] 4)).alloc (.cells #[.int .i64 s] 3)).cell (p := ⟨w.heap.size + 1, 0, none⟩) (by simp)).trans hcs
  have hr1 : ((((w.alloc (.cells (t.cells gv dv rv bv).toArray 34)).alloc (.cells #[.int .i64 s] 3)).alloc (.cells #[.bool false] 4)).alloc (.cells #[.int .i64 s] 3)).heap[w.heap.size + 1 + 1]? = some (.cells #[.bool false] 4 (0, 0)) :=
    (((Ext.refl _).alloc (.cells #[.int .i64 s] 3)).below.block _ (by simp)).trans (by have := World.alloc_heap_new ((w.alloc (.cells (t.cells gv dv rv bv).toArray 34)).alloc (.cells #[.int .i64 s] 3)) (.cells #[.bool false] 4); simpa using this)
  have hb1 : ((((w.alloc (.cells (t.cells gv dv rv bv).toArray 34)).alloc (.cells #[.int .i64 s] 3)).alloc (.cells #[.bool false] 4)).alloc (.cells #[.int .i64 s] 3)).cell? ⟨w.heap.size + 1 + 1 + 1, 0, none⟩ = some (.int .i64 s) := by
    rw [World.cell?_alloc_at _ _ _ _ (by simp)]; rfl
  have hX := hx0.trans e3
  have hsz : ((((w.alloc (.cells (t.cells gv dv rv bv).toArray 34)).alloc (.cells #[.int .i64 s] 3)).alloc (.cells #[.bool false] 4)).alloc (.cells #[.int .i64 s] 3)).heap.size = w.heap.size + 4 := by simp
  generalize ((((w.alloc (.cells (t.cells gv dv rv bv).toArray 34)).alloc (.cells #[.int .i64 s] 3)).alloc (.cells #[.bool false] 4)).alloc (.cells #[.int .i64 s] 3)) = W0 at hT1 hs1 hr1 hb1 hX hsz ⊢
  obtain ⟨C, hC⟩ : ∃ C, C = t.cells gv dv rv bv := ⟨_, rfl⟩
  have hszC : (Tryz.prog.info? 34).map (·.size) = some (t.cells gv dv rv bv).length := by rw [t.cells_len]; kernel_rfl
  have HSC := Lib.hid hszC; clear hszC
  have hcl := clash_c
  have HCL := Lib.hid hcl; clear hcl
  rw [← hC]
  have HCC := Lib.hid hC; clear hC
  clear e1 e2 e3 hcs hT0 hTB hx0 HE
  refine each_loopB s (w.heap.size + 1 + 1 + 1) rfl hb1 (by omega) [w.heap.size + 1 + 1] (fun k hk => by simp at hk; omega) (by simp)
    (fun pre W => W.heap[w.heap.size + 1 + 1]? = some (.cells #[.bool false] 4 (0, 0)) ∧ pre.any (fun p => (eachL s).any fun q => (p != q) && clashS t p.val q.val) = false)
    (fun pre W => W.heap[w.heap.size + 1 + 1]? = some (.cells #[.bool true] 4 (0, 0)) ∧ pre.any (fun p => (eachL s).any fun q => (p != q) && clashS t p.val q.val) = true)
    (fun pre W W' h hj => ⟨(h _ (by simp)).trans hj.1, hj.2⟩) (fun pre W W' h hj => ⟨(h _ (by simp)).trans hj.1, hj.2⟩) ⟨hr1, rfl⟩
    (fun x Bx => { tmps := #[.agg C.toArray, .int .i64 s, .pointer (some ⟨w.heap.size, 0, none⟩), .pointer (some ⟨w.heap.size + 1, 0, none⟩), .pointer (some ⟨w.heap.size + 1 + 1, 0, none⟩), .pointer (some ⟨Bx, 0, none⟩), undef, .int .i64 s,
      .func (.func 85) #[] #[.pointer (some ⟨w.heap.size + 1 + 1 + 1, 0, none⟩)], .int .i64 (x.val : Int), undef, undef, undef, undef, undef, undef, undef, undef, undef, undef, undef, undef], defers := [] }) ?assign ?body ?done ?stop
  case assign =>
    intro l x W K hK
    gi_wp2
    exact hK
  case body =>
    rintro l rr pre x Bx W hl hL ⟨hres, hpre⟩ hBx hbx
    have hT2 := hT1.kept (hL.block w.heap.size (by omega) (by simp; omega))
    have hs2 := (hL.cell (b := w.heap.size + 1) (o := 0) (by omega) (by simp)).trans hs1
    have hwW := hL.size
    have hlt := (Array.getElem?_eq_some_iff.1 hl).1
    have hltx := (Array.getElem?_eq_some_iff.1 hbx).1
    have hE2 := fun W => (callsIn_wide (n := 7) |>.2 (Each_c s W)).inRound l
    have HE2 := Lib.hid hE2; clear hE2
    have HRES := Lib.hid hres; clear hres
    have HPRE := Lib.hid hpre; clear hpre
    have HL := Lib.hid hL; clear hL
    have HLL := Lib.hid hl; clear hl
    have HBX := Lib.hid hbx; clear hbx
    gi_wp2_with (refine ⟨trivial, ?_⟩; gi_at_call 30; refine (HE2.out _).mono ?_; rintro e w' ⟨rfl, rfl⟩)
    have bX := (((Ext.refl W).alloc (.cells #[.int .i64 s] 3)).below.block Bx hltx).trans HBX.out
    have hT3 := hT2.ext ((Ext.refl W).alloc (.cells #[.int .i64 s] 3))
    have hr3 := (((Ext.refl W).alloc (.cells #[.int .i64 s] 3)).below.block (w.heap.size + 1 + 1) (by omega)).trans HRES.out
    have hl3 := (((Ext.refl W).alloc (.cells #[.int .i64 s] 3)).below.block l hlt).trans HLL.out
    have hb3 : (W.alloc (.cells #[.int .i64 s] 3)).cell? ⟨W.heap.size, 0, none⟩ = some (.int .i64 s) := by rw [World.cell?_alloc_at _ _ _ _ rfl]; rfl
    have hx3 := (Ext.refl W).alloc (.cells #[.int .i64 s] 3)
    have hsz3 : (W.alloc (.cells #[.int .i64 s] 3)).heap.size = W.heap.size + 1 := by simp
    obtain ⟨b3, hb3e⟩ : ∃ b3, W.heap.size = b3 := ⟨_, rfl⟩
    rw [hb3e] at hb3 hsz3 hltx hlt hwW ⊢
    generalize W.alloc (.cells #[.int .i64 s] 3) = W3 at bX hT3 hr3 hl3 hb3 hx3 hsz3 ⊢
    refine each_loopN hl3 s b3 rfl hb3 (by omega) [w.heap.size + 1 + 1] (fun k hk => by simp at hk; omega) (by simp; omega)
      (fun pre' W' => W'.heap[w.heap.size + 1 + 1]? = some (.cells #[.bool false] 4 (0, 0)) ∧ pre'.any (fun q => (x != q) && clashS t x.val q.val) = false)
      (fun pre' W' => W'.heap[w.heap.size + 1 + 1]? = some (.cells #[.bool true] 4 (0, 0)) ∧ pre'.any (fun q => (x != q) && clashS t x.val q.val) = true)
      (fun pre W W' h hj => ⟨(h _ (by simp)).trans hj.1, hj.2⟩) (fun pre W W' h hj => ⟨(h _ (by simp)).trans hj.1, hj.2⟩) ⟨hr3, rfl⟩
      (fun y => { tmps := #[.agg C.toArray, .int .i64 s, .pointer (some ⟨w.heap.size, 0, none⟩), .pointer (some ⟨w.heap.size + 1, 0, none⟩), .pointer (some ⟨w.heap.size + 1 + 1, 0, none⟩), .pointer (some ⟨Bx, 0, none⟩), .int .i64 (y.val : Int), .int .i64 s,
        .func (.func 85) #[] #[.pointer (some ⟨w.heap.size + 1 + 1 + 1, 0, none⟩)], .int .i64 (x.val : Int), .int .i64 s, .func (.func 85) #[] #[.pointer (some ⟨b3, 0, none⟩)], .int .i64 (y.val : Int), undef, undef, undef, undef, undef, undef, undef, undef, undef], defers := [] }) ?assign2 ?body2 ?done2 ?stop2
    case assign2 =>
      intro l2 y W' K hK
      gi_wp2
      exact hK
    case body2 =>
      rintro l2 pre' y W4 hL4 ⟨hres4, hpre4⟩
      have hx4 : W4.cell? ⟨Bx, 0, none⟩ = some (.int .i64 (x.val : Int)) := by
        have := (hL4.block Bx (by omega) (by simp; omega)).trans bX
        rw [cell_of_row W4 Bx 0 _ _ _ this]; rfl
      have hT4 := hT3.kept (hL4.block w.heap.size (by omega) (by simp; omega))
      have hrg := hT4.range
      have hsc2 := HSC.out
      rw [← HCC.out] at hrg hsc2
      have HRG := Lib.hid hrg; clear hrg
      have HSC2 := Lib.hid hsc2; clear hsc2
      have hcr : W4.cell? ⟨w.heap.size + 1 + 1, 0, none⟩ = some (.bool false) := by rw [cell_of_row W4 _ 0 _ _ _ hres4]; rfl
      have hfr : W4.frozen? ⟨w.heap.size + 1 + 1, 0, none⟩ = false := by simp [World.frozen?, hres4]
      have hcl := (callsIn_wide (n := 5) |>.2 (HCL.out W4 gv dv rv bv t x.val y.val x.isLt y.isLt)).inRound l |>.inRound l2
      unfold tabV at hcl
      rw [← HCC.out] at hcl
      have hany : (pre' ++ [y]).any (fun q => (x != q) && clashS t x.val q.val) = ((x != y) && clashS t x.val y.val) := by
        rw [List.any_append, hpre4]; simp
      have HANY := Lib.hid hany; clear hany
      have hL5 := LoopAt.refl W4 [w.heap.size + 1 + 1]
      have HRES4 := Lib.hid hres4; clear hres4
      by_cases hxy : x = y
      · have hne : ((x.val : Int) != (y.val : Int)) = false := by subst hxy; simp
        have hf : ((x != y) && clashS t x.val y.val) = false := by subst hxy; simp
        have HF := Lib.hid hf; clear hf hxy hcl
        gi_wp2
        refine ⟨trivial, ?_⟩
        gi_wp2
        exact ⟨hL5, HRES4.out, HANY.out.trans HF.out⟩
      · have hne : ((x.val : Int) != (y.val : Int)) = true := by simp; omega
        have hf : ((x != y) && clashS t x.val y.val) = clashS t x.val y.val := by simp [hxy]
        have HF := Lib.hid (HANY.out.trans hf); clear hf hxy HANY
        cases hb : clashS t x.val y.val
        · rw [hb] at hcl HF
          have HCL4 := Lib.hid hcl; clear hcl hb
          gi_wp2_with (first
            | ((with_reducible refine atLoadIn 34 rfl ?_); refine wpListIn_loadG 34 _ rfl (by rfl) w.heap.size 0 rfl _ _ HRG.out Tryz.underlying34 rfl HSC2.out ?_)
            | (refine ⟨trivial, ?_⟩; gi_at_call 131; refine HCL4.out.mono ?_; rintro e w5 ⟨rfl, hx5⟩))
          exact ⟨.ofExt hx5 _, (hx5.below.block _ (Array.getElem?_eq_some_iff.1 HRES4.out).1).trans HRES4.out, HF.out⟩
        · rw [hb] at hcl HF
          have HCL4 := Lib.hid hcl; clear hcl hb
          have hlt4 := (Array.getElem?_eq_some_iff.1 HRES4.out).1
          gi_wp2_with (first
            | ((with_reducible refine atLoadIn 34 rfl ?_); refine wpListIn_loadG 34 _ rfl (by rfl) w.heap.size 0 rfl _ _ HRG.out Tryz.underlying34 rfl HSC2.out ?_)
            | (refine ⟨trivial, ?_⟩; gi_at_call 131; refine HCL4.out.mono ?_; rintro e w5 ⟨rfl, hx5⟩; have hc5 := (hx5.cell (p := ⟨w.heap.size + 1 + 1, 0, none⟩) hlt4).trans hcr; have hf5 := (hx5.frozen (p := ⟨w.heap.size + 1 + 1, 0, none⟩) hlt4).trans hfr))
          refine ⟨(LoopAt.ofExt hx5 _).set (by simp) _ _, ?_, HF.out⟩
          have := (hx5.below.block _ hlt4).trans HRES4.out
          simp [World.setCell, Array.getElem?_modify, this]
    case done2 =>
      rintro W4 hL4 ⟨hres4, hpre4⟩
      gi_wp2
      refine ⟨(LoopAt.ofExt hx3 _).trans hL4, hres4, ?_⟩
      rw [List.any_append, HPRE.out]
      simpa using hpre4
    case stop2 =>
      rintro pre' W4 hp4 hL4 ⟨hres4, hpre4⟩
      gi_wp2
      refine ⟨(LoopAt.ofExt hx3 _).trans hL4, hres4, ?_⟩
      rw [List.any_append, HPRE.out]
      have : (eachL s).any (fun q => (x != q) && clashS t x.val q.val) = true := by
        rw [List.any_eq_true] at hpre4 ⊢
        obtain ⟨q, hq, h⟩ := hpre4
        exact ⟨q, hp4.subset hq, h⟩
      simpa using this
  case done =>
    rintro D W hD hL ⟨hres, hpre⟩ hK
    have hcr : W.cell? ⟨w.heap.size + 1 + 1, 0, none⟩ = some (.bool false) := by rw [cell_of_row W _ 0 _ _ _ hres]; rfl
    have hfr : W.frozen? ⟨w.heap.size + 1 + 1, 0, none⟩ = false := by simp [World.frozen?, hres]
    have HS := Lib.hid (show clashesS t s = false from hpre)
    have hne : D ≠ w.heap.size + 1 + 1 := by rintro rfl; rw [hres] at hK; cases hK
    clear hpre
    gi_wp2
    rw [HS.out]
    refine end_bool (R := w.heap.size + 1 + 1) (T := 4) rfl rfl (by simp [World.setCell, Array.getElem?_modify, hres]) (((hL.toExt hX (fun k hk => by simp at hk; omega))).set (by simp; omega) _) (by omega) ?_
    rw [Below.heap_setCell _ _ _ _ hne]; exact hK
  case stop =>
    rintro D pre W hD hp hL ⟨hres, hpre⟩ hK
    have HS := Lib.hid (show clashesS t s = true by
      unfold clashesS
      rw [List.any_eq_true] at hpre ⊢
      obtain ⟨q, hq, h⟩ := hpre
      exact ⟨q, hp.subset hq, h⟩)
    clear hpre
    gi_wp2
    rw [HS.out]
    exact end_bool (R := w.heap.size + 1 + 1) (T := 4) rfl rfl hres (hL.toExt hX (fun k hk => by simp at hk; omega)) (by omega) hK
end Go.Proofs.YtpopnmelcplbbaaGreat
