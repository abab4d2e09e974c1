/-
  plan.Where, plan.Beside.
-/
import Derived.Deep.LoopGhost
import Derived.Test.YtpopnmelcplbbaaGreatPlan
set_option linter.unusedVariables false
set_option linter.unusedSimpArgs false
namespace Go.Proofs.YtpopnmelcplbbaaGreat
open Go.RowKit

def rowPos (p : Int) (l : List Int) : Option Nat := l.findIdx? (· == p)
def grpPos (p : Int) (g : List Int × List Int) : Option (Nat × Nat) :=
  match rowPos p g.1 with
  | some i => some (0, i)
  | none => match rowPos p g.2 with
    | some i => some (1, i)
    | none => none
def whereFrom (p : Int) : List (List Int × List Int) → Nat → Option (Nat × Nat × Nat)
  | [], _ => none
  | g :: gs, k => match grpPos p g with
    | some (r, i) => some (k, r, i)
    | none => whereFrom p gs (k + 1)
def whereS (t : Tab) (p : Int) : Int × Int × Int × Bool :=
  if ofL [p] = 0 then (0, 0, 0, false) else match whereFrom p t.groups 0 with
    | some (k, r, i) => (k, r, i, true)
    | none => (0, 0, 0, false)
def whereV (r : Int × Int × Int × Bool) : Value := .tuple #[.int .i64 r.1, .int .i64 r.2.1, .int .i64 r.2.2.1, .bool r.2.2.2]

theorem rowPos_at (p : Int) (l : List Int) (i : Nat) (h : i < l.length) (hn : rowPos p (l.take i) = none) (he : l[i] = p) : rowPos p l = some i := by
  unfold rowPos at *
  rw [List.findIdx?_eq_some_iff_getElem]
  refine ⟨h, by simpa using he, fun j hj => ?_⟩
  rw [List.findIdx?_eq_none_iff] at hn
  have := hn l[j] (List.mem_take_iff_getElem.2 ⟨j, by omega, rfl⟩)
  simpa using this
theorem rowPos_snoc (p : Int) (l : List Int) (i : Nat) (h : i < l.length) (hn : rowPos p (l.take i) = none) (he : l[i] ≠ p) : rowPos p (l.take (i + 1)) = none := by
  unfold rowPos at *
  rw [List.findIdx?_eq_none_iff] at *
  intro x hx
  rw [List.take_succ_eq_append_getElem h, List.mem_append] at hx
  rcases hx with hx | hx
  · exact hn x hx
  · simp only [List.mem_singleton] at hx
    subst hx
    simpa using he
theorem whereFrom_drop (p : Int) (gs : List (List Int × List Int)) (k : Nat) (h : k < gs.length) : whereFrom p (gs.drop k) k = match grpPos p gs[k] with
    | some (r, i) => some (k, r, i)
    | none => whereFrom p (gs.drop (k + 1)) (k + 1) := by
  rw [List.drop_eq_getElem_cons h]; rfl

set_option maxRecDepth 100000 in
set_option maxHeartbeats 4000000 in
theorem Where_c (w : World) (gv dv rv bv : Value) (t : Tab) (hT : TabAt w gv dv rv bv t) (p : Int) : Calls Tryz.prog 124 #[tabV t gv dv rv bv, .int .i64 p] w (Ret w (whereV (whereS t p))) := by
  have hx0 := (Ext.refl w).alloc (.cells (t.cells gv dv rv bv).toArray 34)
  have hc0 := (TB.new w t gv dv rv bv 34).cell (t.c104 gv dv rv bv)
  have hgl := hT.gl
  obtain ⟨gvs, hgs, hgr, hok⟩ := hT.g
  obtain ⟨r, hr⟩ : ∃ r, whereS t p = r := ⟨_, rfl⟩
  rw [hr]
  unfold whereS at hr
  rw [hgs] at hr hgl
  rw [List.length_map] at hgl
  unfold tabV
  generalize t.cells gv dv rv bv = cells at hx0 hc0
  obtain ⟨ga, gcp, rfl, hrow⟩ := hgr
  have HROW := Lib.hid hrow; clear hrow
  have HOK := Lib.hid hok; clear hok
  have HX := Lib.hid hx0; clear hx0
  have HC := Lib.hid hc0; clear hc0
  have HQ := Lib.hid hr; clear hr hgs
  go_enter Tryz.func124, Tryz.ntmps124
  go_wp2
  go_step3
  go_wp2_with fail
  refine (Of_c _ _ [p] (by exact rowIn_at _ _ _ _ _ (by first | rfl | simp)) (by simp)).mono ?_
  rintro e w1 ⟨rfl, hx1⟩
  have hxx := Lib.hid ((HX.out.alloc (.cells #[.int .i64 p] 3)).trans hx1)
  have hc1 := Lib.hid ((hx1.cell (p := ⟨w.heap.size, 104, none⟩) (by simp; omega)).trans ((((Ext.refl _).alloc (.cells #[.int .i64 p] 3)).cell (p := ⟨w.heap.size, 104, none⟩) (by simp)).trans HC.out))
  clear hx1 HC HX
  have hr := HQ.out
  clear HQ
  by_cases h0 : ofL [p] = 0
  · have hb : (ofL [p] == 0) = true := by simpa using h0
    rw [if_pos h0] at hr
    clear h0
    subst hr
    go_wp2
    exact bodyPost_ret (v := whereV (0, 0, 0, false)) (by simp [results, Tryz.results124, go_sem, whereV]) rfl ⟨rfl, hxx.out⟩
  · have hb : (ofL [p] == 0) = false := by simpa using h0
    rw [if_neg h0] at hr
    clear h0
    have HQ := Lib.hid hr; clear hr
    have hc2 := hc1.out
    clear hc1
    go_wp2
    go_step3
    go_wp2
    go_loopw [4, 5, 6, 7, 21] (fun s4 s5 s6 s7 i wr => ∃ k : Nat, k ≤ gvs.length ∧ i = .int .i64 k ∧ s4 = .int .i64 0 ∧ s5 = .int .i64 0 ∧ s6 = .int .i64 0 ∧ s7 = .bool false ∧ Ext w wr ∧ Hid (whereFrom p ((gvs.map GV.g).drop k) k = whereFrom p (gvs.map GV.g) 0))
      (fun _ _ _ _ i _ => gvs.length - (intOf i).toNat)
    case atStart => exact ⟨0, Nat.zero_le _, rfl, rfl, rfl, rfl, rfl, hxx.out, Lib.hid rfl⟩
    case round =>
      obtain ⟨k, hk, rfl, rfl, rfl, rfl, rfl, hx, HW⟩ := hrel
      have HX := Lib.hid hx; clear hx
      by_cases hlt : k < gvs.length
      · have hwd := whereFrom_drop p (gvs.map GV.g) k (by simpa using hlt)
        have hok := HOK.out gvs[k] (by simp)
        rcases HROW.out with ⟨h0, _⟩ | ⟨b, off, rfl, hb, hcl⟩
        · omega
        have hrg : wr.rangeAt b (off + k * 2) (GV.cells gvs[k]) := fun j v hj => by
          rw [Nat.add_assoc]
          exact (HX.out.cell (p := ⟨b, off + (k * 2 + j), none⟩) hb).trans (hcl (k * 2 + j) v (flat_get GV.cells 2 gvs (fun _ _ => rfl) k hlt j v hj))
        rw [HW.out, List.getElem_map] at hwd
        clear hcl hb HW
        generalize gvs[k] = x at hrg hok hwd
        obtain ⟨va, vb, gl, gr⟩ := x
        obtain ⟨⟨a1, cp1, h1, hok1⟩, ⟨a2, cp2, h2, hok2⟩, hl1, hl2⟩ := hok
        dsimp only at h1 h2 hok1 hok2 hl1 hl2
        subst h1 h2
        have HRG := Lib.hid hrg; clear hrg
        have HWD := Lib.hid hwd; clear hwd
        have OK1 := Lib.hid hok1; clear hok1
        have OK2 := Lib.hid hok2; clear hok2
        have HIN := Lib.hid (show (Tryz.prog.info? 65).map (·.size) = some 2 by kernel_rfl)
        have HON := Lib.hid (show (GV.cells ⟨.slice a1 gl.length cp1, .slice a2 gr.length cp2, gl, gr⟩).toArray.all (·.oneCell') = true from all_oneCell_toArray (by simp [GV.cells, Value.oneCell']))
        have HSZ := Lib.hid (show (GV.cells ⟨.slice a1 gl.length cp1, .slice a2 gr.length cp2, gl, gr⟩).toArray.size = 2 from rfl)
        have HX1 := Lib.hid (HX.out.alloc (.cells (GV.cells ⟨.slice a1 gl.length cp1, .slice a2 gr.length cp2, gl, gr⟩).toArray 65))
        go_wp2_with (first
          | ((with_reducible refine atLoad _ rfl ?_); refine wpList_load_mid rfl 65 _ rfl _ _ rfl _ _ HRG.out Tryz.underlying65 rfl HIN.out ?_)
          | ((with_reducible refine atStore _ rfl ?_); refine wpList_store_new 65 _ _ rfl rfl wr _ (GV.cells ⟨.slice a1 gl.length cp1, .slice a2 gr.length cp2, gl, gr⟩).toArray rfl _ rfl rfl rfl HIN.out HSZ.out.symm HON.out (halt ?_)))
        unfold Halt
        have hq0 : (wr.alloc (.cells (GV.cells ⟨.slice a1 gl.length cp1, .slice a2 gr.length cp2, gl, gr⟩).toArray 65)).cell? ⟨wr.heap.size, 0, none⟩ = some (.slice a1 gl.length cp1) := by
          rw [World.cell?_alloc_at _ _ _ _ rfl]; simp [GV.cells]
        have hq1 : (wr.alloc (.cells (GV.cells ⟨.slice a1 gl.length cp1, .slice a2 gr.length cp2, gl, gr⟩).toArray 65)).cell? ⟨wr.heap.size, 1, none⟩ = some (.slice a2 gr.length cp2) := by
          rw [World.cell?_alloc_at _ _ _ _ rfl]; simp [GV.cells]
        clear HX HIN HON HSZ HRG
        generalize wr.alloc (.cells (GV.cells ⟨.slice a1 gl.length cp1, .slice a2 gr.length cp2, gl, gr⟩).toArray 65) = W at hq0 hq1 HX1 ⊢
        generalize wr.heap.size = pb at hq0 hq1 ⊢
        go_wp2
        -- ROWS
        go_loop [4, 5, 6, 7, 27] (fun s4 s5 s6 s7 i => ∃ e : Nat, e ≤ 2 ∧ i = .int .i64 e ∧ s4 = .int .i64 0 ∧ s5 = .int .i64 0 ∧ s6 = .int .i64 0 ∧ s7 = .bool false ∧ Hid ((1 ≤ e → rowPos p gl = none) ∧ (2 ≤ e → rowPos p gr = none))) (fun _ _ _ _ i => 2 - (intOf i).toNat)
        case atStart => exact ⟨0, Nat.zero_le _, rfl, rfl, rfl, rfl, rfl, Lib.hid ⟨fun h => absurd h (by omega), fun h => absurd h (by omega)⟩⟩
        case round =>
         obtain ⟨e, he2, rfl, rfl, rfl, rfl, rfl, HE⟩ := hrel
         have h012 : e = 0 ∨ e = 1 ∨ e = 2 := by omega
         clear he2
         rcases h012 with rfl | rfl | rfl
         · skip
           have hix : ∀ w', (Instr.index 65 (.agg #[.slice a1 gl.length cp1, .slice a2 gr.length cp2]) (.int .i64 0)).run Tryz.prog w' = .ok (.slice a1 gl.length cp1) w' := fun _ => by kernel_rfl
           go_wp2
           clear hix
           go_loop [4, 5, 6, 7, 33] (fun s4 s5 s6 s7 i => ∃ j : Nat, j ≤ gl.length ∧ i = .int .i64 j ∧ s4 = .int .i64 0 ∧ s5 = .int .i64 0 ∧ s6 = .int .i64 0 ∧ s7 = .bool false ∧ Hid (rowPos p (gl.take j) = none)) (fun _ _ _ _ i => gl.length - (intOf i).toNat)
           case atStart => exact ⟨0, Nat.zero_le _, rfl, rfl, rfl, rfl, rfl, Lib.hid rfl⟩
           case round =>
             obtain ⟨j, hj, rfl, rfl, rfl, rfl, rfl, HN⟩ := hrel
             by_cases hlj : j < gl.length
             · rcases OK1.out with ⟨h0, _⟩ | ⟨b, off, rfl, hb, hc⟩
               · omega
               have hck := (HX1.out.cell (p := ⟨b, off + j, none⟩) hb).trans (hc j _ (ints_get gl j hlj))
               clear hc hb
               by_cases he : gl[j] = p
               · have HF := Lib.hid (rowPos_at p gl j hlj HN.out he)
                 have hbe : (gl[j] == p) = true := by simpa using he
                 have hwd := HWD.out
                 have hr := HQ.out
                 dsimp only [GV.g, grpPos] at hwd
                 skip
                 rw [HF.out] at hwd
                 dsimp only at hwd
                 rw [hwd] at hr
                 dsimp only at hr
                 clear hwd HN he
                 have HR := Lib.hid hr; clear hr
                 generalize gl[j] = q at hbe hck
                 go_wp2
                 try rw [Exit.noGoto_ret]
                 refine bodyPost_ret (v := whereV (k, 0, j, true)) (by simp [results, Tryz.results124, go_sem, whereV]) rfl ⟨by rw [← HR.out]; rfl, HX1.out⟩
               · have HN2 := Lib.hid (rowPos_snoc p gl j hlj HN.out he)
                 have hbe : (gl[j] == p) = false := by simpa using he
                 clear he HN
                 generalize gl[j] = q at hbe hck
                 go_wp2
                 go_round
                 case rel => exact ⟨j + 1, by omega, by go_num, rfl, rfl, rfl, rfl, HN2⟩
                 case measure => simp [intOf]; omega
             · have HN2 := Lib.hid (show rowPos p gl = none by have := HN.out; rwa [List.take_of_length_le (by omega)] at this)
               clear HN
               go_wp2
               go_round
               case rel => exact ⟨1, by omega, rfl, rfl, rfl, rfl, rfl, Lib.hid ⟨fun _ => HN2.out, fun h => absurd h (by omega)⟩⟩
               case measure => simp [intOf]
         · have HG := Lib.hid (HE.out.1 (by omega))
           clear HE
           skip
           have hix : ∀ w', (Instr.index 65 (.agg #[.slice a1 gl.length cp1, .slice a2 gr.length cp2]) (.int .i64 1)).run Tryz.prog w' = .ok (.slice a2 gr.length cp2) w' := fun _ => by kernel_rfl
           go_wp2
           clear hix
           go_loop [4, 5, 6, 7, 33] (fun s4 s5 s6 s7 i => ∃ j : Nat, j ≤ gr.length ∧ i = .int .i64 j ∧ s4 = .int .i64 0 ∧ s5 = .int .i64 0 ∧ s6 = .int .i64 0 ∧ s7 = .bool false ∧ Hid (rowPos p (gr.take j) = none)) (fun _ _ _ _ i => gr.length - (intOf i).toNat)
           case atStart => exact ⟨0, Nat.zero_le _, rfl, rfl, rfl, rfl, rfl, Lib.hid rfl⟩
           case round =>
             obtain ⟨j, hj, rfl, rfl, rfl, rfl, rfl, HN⟩ := hrel
             by_cases hlj : j < gr.length
             · rcases OK2.out with ⟨h0, _⟩ | ⟨b, off, rfl, hb, hc⟩
               · omega
               have hck := (HX1.out.cell (p := ⟨b, off + j, none⟩) hb).trans (hc j _ (ints_get gr j hlj))
               clear hc hb
               by_cases he : gr[j] = p
               · have HF := Lib.hid (rowPos_at p gr j hlj HN.out he)
                 have hbe : (gr[j] == p) = true := by simpa using he
                 have hwd := HWD.out
                 have hr := HQ.out
                 dsimp only [GV.g, grpPos] at hwd
                 rw [HG.out] at hwd; dsimp only at hwd
                 rw [HF.out] at hwd
                 dsimp only at hwd
                 rw [hwd] at hr
                 dsimp only at hr
                 clear hwd HN he
                 have HR := Lib.hid hr; clear hr
                 generalize gr[j] = q at hbe hck
                 go_wp2
                 try rw [Exit.noGoto_ret]
                 refine bodyPost_ret (v := whereV (k, 1, j, true)) (by simp [results, Tryz.results124, go_sem, whereV]) rfl ⟨by rw [← HR.out]; rfl, HX1.out⟩
               · have HN2 := Lib.hid (rowPos_snoc p gr j hlj HN.out he)
                 have hbe : (gr[j] == p) = false := by simpa using he
                 clear he HN
                 generalize gr[j] = q at hbe hck
                 go_wp2
                 go_round
                 case rel => exact ⟨j + 1, by omega, by go_num, rfl, rfl, rfl, rfl, HN2⟩
                 case measure => simp [intOf]; omega
             · have HN2 := Lib.hid (show rowPos p gr = none by have := HN.out; rwa [List.take_of_length_le (by omega)] at this)
               clear HN
               go_wp2
               go_round
               case rel => exact ⟨2, by omega, rfl, rfl, rfl, rfl, rfl, Lib.hid ⟨fun _ => HG.out, fun _ => HN2.out⟩⟩
               case measure => simp [intOf]
         · have hwd := HWD.out
           dsimp only [GV.g, grpPos] at hwd
           rw [HE.out.1 (by omega)] at hwd
           dsimp only at hwd
           rw [HE.out.2 (by omega)] at hwd
           dsimp only at hwd
           have HW2 := Lib.hid hwd.symm; clear hwd HE
           go_wp2
           go_roundw
           case rel => exact ⟨k + 1, by omega, by go_num, rfl, rfl, rfl, rfl, HX1.out, HW2⟩
           case measure => simp [intOf]; omega
        -- END ROWS
      · have hr := HQ.out
        have hw := HW.out
        rw [List.drop_of_length_le (by rw [List.length_map]; omega)] at hw
        rw [← hw] at hr
        dsimp only [whereFrom] at hr
        have HR := Lib.hid hr; clear hr hw HW
        go_wp2
        try rw [Exit.noGoto_ret]
        exact bodyPost_ret (v := whereV (0, 0, 0, false)) (by simp [results, Tryz.results124, go_sem, whereV]) rfl ⟨by rw [← HR.out], HX.out⟩

def besideS (t : Tab) (p q : Int) : Bool :=
  (whereS t p).2.2.2 && (whereS t q).2.2.2 && ((whereS t p).1 == (whereS t q).1) && ((whereS t p).2.1 != (whereS t q).2.1)

set_option maxRecDepth 100000 in
set_option maxHeartbeats 1000000 in
theorem Beside_c (w : World) (gv dv rv bv : Value) (t : Tab) (hT : TabAt w gv dv rv bv t) (p q : Int) : Calls Tryz.prog 94 #[tabV t gv dv rv bv, .int .i64 p, .int .i64 q] w (Ret w (.bool (besideS t p q))) := by
  have hx0 := (Ext.refl w).alloc (.cells (t.cells gv dv rv bv).toArray 34)
  have hTB := TB.new w t gv dv rv bv 34
  have hw := fun W (h : Ext w W) (x : Int) => Where_c W gv dv rv bv t (hT.ext h) x
  have hsz : (Tryz.prog.info? 34).map (·.size) = some (t.cells gv dv rv bv).length := by rw [t.cells_len]; kernel_rfl
  have hrg : ∀ W, Ext (w.alloc (.cells (t.cells gv dv rv bv).toArray 34)) W → W.rangeAt w.heap.size 0 (t.cells gv dv rv bv) := fun W h => (hTB.ext h).range
  have h1 := hw _ hx0 p
  have h2 := fun W h => hw W h q
  unfold besideS
  generalize whereS t p = r1 at h1 ⊢
  generalize whereS t q = r2 at h2 ⊢
  unfold whereV at h1 h2
  unfold tabV at h1 h2 ⊢
  obtain ⟨g, r, i, ok⟩ := r1
  obtain ⟨h, s, j, is⟩ := r2
  dsimp only at h1 h2 ⊢
  generalize t.cells gv dv rv bv = cells at h1 h2 hsz hrg hx0 ⊢
  have HC := Lib.hid h1; clear h1
  have HC2 := Lib.hid h2; clear h2
  have HRG := Lib.hid hrg; clear hrg
  have HSZ := Lib.hid hsz; clear hsz hw hTB
  have HX := Lib.hid hx0; clear hx0
  have HRG0 := Lib.hid (HRG.out _ (Ext.refl _))
  go_enter Tryz.func94, Tryz.ntmps94
  go_wp2_with ((with_reducible refine atLoad 34 rfl ?_); refine wpList_load_mid rfl 34 _ rfl _ _ rfl _ _ HRG0.out Tryz.underlying34 rfl HSZ.out ?_)
  refine HC.out.mono ?_
  rintro e w1 ⟨rfl, hx1⟩
  have HX1 := Lib.hid (HX.out.trans hx1)
  have HRG1 := Lib.hid (HRG.out w1 hx1)
  clear hx1 HRG0 HC
  go_wp2_with ((with_reducible refine atLoad 34 rfl ?_); refine wpList_load_mid rfl 34 _ rfl _ _ rfl _ _ HRG1.out Tryz.underlying34 rfl HSZ.out ?_)
  refine (HC2.out _ HX1.out).mono ?_
  rintro e w2 ⟨rfl, hx2⟩
  have HX2 := Lib.hid (HX1.out.trans hx2)
  clear hx2 HRG1 HC2
  cases ok
  · go_wp2
    go_ret
    exact ⟨by simp, HX2.out⟩
  cases is
  · go_wp2
    go_ret
    exact ⟨by simp, HX2.out⟩
  cases hgh : (g == h)
  · go_wp2
    go_ret
    exact ⟨by simp_all, HX2.out⟩
  cases hrs : (r != s)
  · go_wp2
    go_ret
    exact ⟨by simp_all, HX2.out⟩
  go_wp2
  go_ret
  exact ⟨by simp_all, HX2.out⟩
end Go.Proofs.YtpopnmelcplbbaaGreat
