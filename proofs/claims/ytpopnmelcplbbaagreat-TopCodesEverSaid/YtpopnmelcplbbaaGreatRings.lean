/-
  check: bad, none, rings.
-/
import Derived.Test.YtpopnmelcplbbaaGreatWhere
import Derived.Test.YtpopnmelcplbbaaGreatGDecode
import Derived.Test.YtpopnmelcplbbaaGreatGBase
set_option linter.unusedVariables false
set_option linter.unusedSimpArgs false
namespace Go.Proofs.YtpopnmelcplbbaaGreat
open Go.RowKit

def faultC (f : Int × Int) : List Value := [.int .i64 f.1, .int .i64 f.2]
def faultA (f : Int × Int) : Value := .agg #[.int .i64 f.1, .int .i64 f.2]

theorem bad_c (c a : Int) (w : World) : Calls Tryz.prog 35 #[.int .i64 c, .int .i64 a] w (Ret w (faultA (c, a))) := by
  go_enter Tryz.func35, Tryz.ntmps35
  go_wp2
  exact bodyPost_ret (results_agg rfl _ _ _ _ rfl [.int .i64 c, .int .i64 a] _ (rangeAt_new _ _ _) Tryz.underlying37 rfl (by kernel_rfl)) rfl ⟨rfl, (Ext.refl _).alloc _⟩
theorem none_c (w : World) : Calls Tryz.prog 58 #[] w (Ret w (faultA (0, 0))) := by
  go_enter Tryz.func58, Tryz.ntmps58
  go_wp2
  exact bodyPost_ret (results_agg rfl _ _ _ _ rfl [.int .i64 0, .int .i64 0] _ (rangeAt_new _ _ _) Tryz.underlying37 rfl (by kernel_rfl)) rfl ⟨rfl, (Ext.refl _).alloc _⟩

def rowSeen (on : Int) : Int → List Int → Option Int
  | s, [] => some s
  | s, p :: ps => if !has on p || has s p then none else rowSeen on (withP s p) ps
def ringsFrom (on : Int) : List (List Int × List Int) → Nat → Int → Int × Int
  | [], _, seen => if seen = on then (0, 0) else (8, 0)
  | g :: gs, k, seen => if g.1.length + g.2.length = 0 then (8, (k : Int)) else match rowSeen on seen g.1 with
    | none => (8, (k : Int))
    | some s1 => match rowSeen on s1 g.2 with
      | none => (8, (k : Int))
      | some s2 => ringsFrom on gs (k + 1) s2
def ringsS (t : Tab) (on : Int) : Int × Int := if t.groups.length = 0 then (8, 0) else ringsFrom on t.groups 0 0

theorem ringsFrom_drop (on : Int) (gs : List (List Int × List Int)) (k : Nat) (seen : Int) (h : k < gs.length) : ringsFrom on (gs.drop k) k seen =
    (if gs[k].1.length + gs[k].2.length = 0 then (8, (k : Int)) else match rowSeen on seen gs[k].1 with
    | none => (8, (k : Int))
    | some s1 => match rowSeen on s1 gs[k].2 with
      | none => (8, (k : Int))
      | some s2 => ringsFrom on (gs.drop (k + 1)) (k + 1) s2) := by
  rw [List.drop_eq_getElem_cons h]; rfl
theorem rowSeen_drop (on s : Int) (l : List Int) (j : Nat) (h : j < l.length) : rowSeen on s (l.drop j) = if !has on l[j] || has s l[j] then none else rowSeen on (withP s l[j]) (l.drop (j + 1)) := by
  rw [List.drop_eq_getElem_cons h]; rfl

set_option maxRecDepth 100000 in
set_option maxHeartbeats 4000000 in
theorem rings_c (w : World) (gv dv rv bv : Value) (t : Tab) (hT : TabAt w gv dv rv bv t) (on : Int) : Calls Tryz.prog 44 #[tabV t gv dv rv bv, .int .i64 on] w (Ret w (faultA (ringsS t on))) := by
  have hx0 := ((Ext.refl w).alloc (.cells (t.cells gv dv rv bv).toArray 34)).alloc (.cells #[.int .i64 0, .int .i64 0] 37)
  have hTB := (TB.new w t gv dv rv bv 34).ext ((Ext.refl _).alloc (.cells #[.int .i64 0, .int .i64 0] 37))
  have hc0 := hTB.cell (t.c104 gv dv rv bv)
  have hO := Own0.made ((Ext.refl w).alloc (.cells (t.cells gv dv rv bv).toArray 34)) [.int .i64 0, .int .i64 0] 37
  rw [World.size_alloc] at hO
  have hgl := hT.gl
  obtain ⟨gvs, hgs, hgr, hok⟩ := hT.g
  obtain ⟨r, hr⟩ : ∃ r, ringsS t on = r := ⟨_, rfl⟩
  rw [hr]
  unfold ringsS at hr
  rw [hgs] at hr hgl
  rw [List.length_map] at hr hgl
  unfold tabV
  generalize t.cells gv dv rv bv = cells at hx0 hc0 hO
  clear hTB
  obtain ⟨ga, gcp, rfl, hrow⟩ := hgr
  have HROW := Lib.hid hrow; clear hrow
  have HOK := Lib.hid hok; clear hok
  have HX := Lib.hid hx0; clear hx0
  have HO := Lib.hid hO; clear hO
  by_cases hz : gvs.length = 0
  · rw [if_pos hz] at hr
    subst hr
    have hb : ((gvs.length : Int) == 0) = true := by simp [hz]
    clear hz
    go_enter Tryz.func44, Tryz.ntmps44
    go_wp2_with fail
    refine (bad_c _ _ _).mono ?_
    rintro e w1 ⟨rfl, hx1⟩
    have hO1 := HO.out.ext hx1
    have HTH := Lib.hid (hO1.there 0 2 (by simp))
    have HOE := Lib.hid (hO1.all (faultC (8, 0)) rfl)
    have HIN := Lib.hid (show (Tryz.prog.info? 37).map (·.size) = some 2 by kernel_rfl)
    have HON := Lib.hid (show (#[.int .i64 8, .int .i64 0] : Array Value).all (·.oneCell') = true by simp [Value.oneCell'])
    unfold faultA
    clear hO1 hx1 hc0
    go_wp2_with ((with_reducible refine atStore 37 rfl ?_); refine wpList_store_mid rfl 37 _ _ rfl (w.heap.size + 1) 0 _ rfl rfl HTH.out HIN.out HON.out (halt ?_))
    unfold Halt
    go_wp2
    exact bodyPost_ret (results_agg rfl _ _ _ _ rfl _ _ HOE.out.range Tryz.underlying37 rfl (by kernel_rfl)) rfl ⟨rfl, HOE.out.x⟩
  · rw [if_neg hz] at hr
    have hb : ((gvs.length : Int) == 0) = false := by simpa using (show ¬ gvs.length = 0 from hz)
    have HQ := Lib.hid hr; clear hr hz
    have HIN := Lib.hid (show (Tryz.prog.info? 37).map (·.size) = some 2 by kernel_rfl)
    have HON := fun (c a : Int) => Lib.hid (show (#[.int .i64 c, .int .i64 a] : Array Value).all (·.oneCell') = true by simp [Value.oneCell'])
    go_enter Tryz.func44, Tryz.ntmps44
    go_wp2
    go_loopw [5, 20] (fun s5 i wr => ∃ (k : Nat) (sn : Int), k ≤ gvs.length ∧ i = .int .i64 k ∧ s5 = .int .i64 sn ∧ Own0 w wr (w.heap.size + 1) [.int .i64 0, .int .i64 0] ∧ Hid (ringsFrom on ((gvs.map GV.g).drop k) k sn = r))
      (fun _ i _ => gvs.length - (intOf i).toNat)
    case atStart => exact ⟨0, 0, Nat.zero_le _, rfl, rfl, HO.out, HQ⟩
    case round =>
      obtain ⟨k, sn, hk, rfl, rfl, hO, HW⟩ := hrel
      have HOw := Lib.hid hO; clear hO
      by_cases hlt : k < gvs.length
      · have hwd := ringsFrom_drop on (gvs.map GV.g) k sn (by simpa using hlt)
        have hok := HOK.out gvs[k] (by simp)
        rcases HROW.out with ⟨h0, _⟩ | ⟨b, off, rfl, hb, hcl⟩
        · omega
        have hrg : wr.rangeAt b (off + k * 2) (GV.cells gvs[k]) := fun j v hj => by
          rw [Nat.add_assoc]
          exact (HOw.out.x.cell (p := ⟨b, off + (k * 2 + j), none⟩) hb).trans (hcl (k * 2 + j) v (flat_get GV.cells 2 gvs (fun _ _ => rfl) k hlt j v hj))
        rw [HW.out, List.getElem_map] at hwd
        clear hcl hb HW
        generalize gvs[k] = x at hrg hok hwd
        obtain ⟨va, vb, gl, gr⟩ := x
        obtain ⟨⟨a1, cp1, h1, hok1⟩, ⟨a2, cp2, h2, hok2⟩, hl1, hl2⟩ := hok
        dsimp only at h1 h2 hok1 hok2 hl1 hl2
        subst h1 h2
        replace hwd : ringsFrom on ((gl, gr) :: (gvs.map GV.g).drop (k + 1)) k sn = r := hwd.symm
        have HRG := Lib.hid hrg; clear hrg
        have HWD := Lib.hid hwd; clear hwd
        have OK1 := Lib.hid hok1; clear hok1
        have OK2 := Lib.hid hok2; clear hok2
        have HIN2 := Lib.hid (show (Tryz.prog.info? 65).map (·.size) = some 2 by kernel_rfl)
        have HON2 := Lib.hid (show (GV.cells ⟨.slice a1 gl.length cp1, .slice a2 gr.length cp2, gl, gr⟩).toArray.all (·.oneCell') = true from all_oneCell_toArray (by simp [GV.cells, Value.oneCell']))
        have HSZ := Lib.hid (show (GV.cells ⟨.slice a1 gl.length cp1, .slice a2 gr.length cp2, gl, gr⟩).toArray.size = 2 from rfl)
        have HOW := Lib.hid (HOw.out.ext ((Ext.refl wr).alloc (.cells (GV.cells ⟨.slice a1 gl.length cp1, .slice a2 gr.length cp2, gl, gr⟩).toArray 65)))
        go_wp2_with (first
          | ((with_reducible refine atLoad _ rfl ?_); refine wpList_load_mid rfl 65 _ rfl _ _ rfl _ _ HRG.out Tryz.underlying65 rfl HIN2.out ?_)
          | ((with_reducible refine atStore _ rfl ?_); refine wpList_store_new 65 _ _ rfl rfl wr _ (GV.cells ⟨.slice a1 gl.length cp1, .slice a2 gr.length cp2, gl, gr⟩).toArray rfl _ rfl rfl rfl HIN2.out HSZ.out.symm HON2.out (halt ?_)))
        unfold Halt
        have hq0 : (wr.alloc (.cells (GV.cells ⟨.slice a1 gl.length cp1, .slice a2 gr.length cp2, gl, gr⟩).toArray 65)).cell? ⟨wr.heap.size, 0, none⟩ = some (.slice a1 gl.length cp1) := by
          rw [World.cell?_alloc_at _ _ _ _ rfl]; simp [GV.cells]
        have hq1 : (wr.alloc (.cells (GV.cells ⟨.slice a1 gl.length cp1, .slice a2 gr.length cp2, gl, gr⟩).toArray 65)).cell? ⟨wr.heap.size, 1, none⟩ = some (.slice a2 gr.length cp2) := by
          rw [World.cell?_alloc_at _ _ _ _ rfl]; simp [GV.cells]
        clear HIN2 HON2 HSZ HRG HOw
        generalize wr.alloc (.cells (GV.cells ⟨.slice a1 gl.length cp1, .slice a2 gr.length cp2, gl, gr⟩).toArray 65) = W at hq0 hq1 HOW ⊢
        generalize wr.heap.size = pb at hq0 hq1 ⊢
        by_cases hsum : gl.length + gr.length = 0
        · have hw := HWD.out
          rw [ringsFrom] at hw
          dsimp only at hw
          rw [if_pos hsum] at hw
          have HR := Lib.hid hw; clear hw HWD
          have hs : ((gl.length : Int) + (gr.length : Int) == 0) = true := by simp; omega
          clear hsum
          go_wp2_with (first
            | (go_at_call 39; refine (Has_c _ _ _).mono ?_; rintro e w' ⟨rfl, rfl⟩)
            | (go_at_call 35; refine (bad_c 8 (k : Int) _).mono ?_; unfold faultA; rintro e wb ⟨rfl, hxb⟩; have hOb := HOW.out.ext hxb; have HTH := Lib.hid (hOb.there 0 2 (by simp)); have HOE := Lib.hid (hOb.all (faultC (8, (k : Int))) rfl); clear hOb hxb)
            | ((with_reducible refine atStore 37 rfl ?_); refine wpList_store_mid rfl 37 _ _ rfl (w.heap.size + 1) 0 _ rfl rfl HTH.out HIN.out (HON _ _).out (halt ?_)))
          unfold Halt
          go_wp2
          try rw [Exit.noGoto_ret]
          exact bodyPost_ret (results_agg rfl _ _ _ _ rfl _ _ HOE.out.range Tryz.underlying37 rfl (by kernel_rfl)) rfl ⟨by rw [← HR.out]; rfl, HOE.out.x⟩
        · have HNZ := Lib.hid hsum
          have hs : ((gl.length : Int) + (gr.length : Int) == 0) = false := by simp; omega
          clear hsum
          go_wp2
          go_loop [5, 36] (fun s5 i => ∃ (e : Nat) (se : Int), e ≤ 2 ∧ i = .int .i64 e ∧ s5 = .int .i64 se ∧ Hid ((e = 0 → se = sn) ∧ (e = 1 → rowSeen on sn gl = some se) ∧ (e = 2 → ∃ s1, rowSeen on sn gl = some s1 ∧ rowSeen on s1 gr = some se))) (fun _ i => 2 - (intOf i).toNat)
          case atStart => exact ⟨0, sn, Nat.zero_le _, rfl, rfl, Lib.hid ⟨fun _ => rfl, fun h => absurd h (by omega), fun h => absurd h (by omega)⟩⟩
          case round =>
            obtain ⟨e, se, he2, rfl, rfl, HE⟩ := hrel
            have h012 : e = 0 ∨ e = 1 ∨ e = 2 := by omega
            clear he2
            rcases h012 with rfl | rfl | rfl
            · obtain rfl := HE.out.1 rfl
              have hix : ∀ w', (Instr.index 65 (.agg #[.slice a1 gl.length cp1, .slice a2 gr.length cp2]) (.int .i64 0)).run Tryz.prog w' = .ok (.slice a1 gl.length cp1) w' := fun _ => by kernel_rfl
              go_wp2
              clear hix
              go_loop [5, 41] (fun s5 i => ∃ (j : Nat) (sj : Int), j ≤ gl.length ∧ i = .int .i64 j ∧ s5 = .int .i64 sj ∧ Hid (rowSeen on se gl = rowSeen on sj (gl.drop j))) (fun _ i => gl.length - (intOf i).toNat)
              case atStart => exact ⟨0, _, Nat.zero_le _, rfl, rfl, Lib.hid rfl⟩
              case round =>
                obtain ⟨j, sj, hj, rfl, rfl, HN⟩ := hrel
                by_cases hlj : j < gl.length
                · rcases OK1.out with ⟨h0, _⟩ | ⟨b, off, rfl, hb, hc⟩
                  · omega
                  have hck := (HOW.out.x.cell (p := ⟨b, off + j, none⟩) hb).trans (hc j _ (ints_get gl j hlj))
                  clear hc hb
                  have hrs := rowSeen_drop on sj gl j hlj
                  rw [← HN.out] at hrs
                  clear HN
                  generalize gl[j] = q at hck hrs
                  cases h1 : has on q with
                  | false =>
                    rw [h1] at hrs
                    simp only [Bool.not_false, Bool.true_or, if_true] at hrs
                    have hw := HWD.out; rw [ringsFrom] at hw; dsimp only at hw; rw [if_neg HNZ.out] at hw; rw [hrs] at hw; (try dsimp only at hw); have HR := Lib.hid hw; clear hw
                    clear hrs
                    go_wp2_with (first
                      | (go_at_call 39; refine (Has_c _ _ _).mono ?_; rintro e w' ⟨rfl, rfl⟩)
                      | (go_at_call 35; refine (bad_c 8 (k : Int) _).mono ?_; unfold faultA; rintro e wb ⟨rfl, hxb⟩; have hOb := HOW.out.ext hxb; have HTH := Lib.hid (hOb.there 0 2 (by simp)); have HOE := Lib.hid (hOb.all (faultC (8, (k : Int))) rfl); clear hOb hxb)
                      | ((with_reducible refine atStore 37 rfl ?_); refine wpList_store_mid rfl 37 _ _ rfl (w.heap.size + 1) 0 _ rfl rfl HTH.out HIN.out (HON _ _).out (halt ?_)))
                    unfold Halt
                    go_wp2
                    try rw [Exit.noGoto_ret]
                    exact bodyPost_ret (results_agg rfl _ _ _ _ rfl _ _ HOE.out.range Tryz.underlying37 rfl (by kernel_rfl)) rfl ⟨by rw [← HR.out]; rfl, HOE.out.x⟩
                  | true =>
                    cases h2 : has sj q with
                    | true =>
                      rw [h1, h2] at hrs
                      simp only [Bool.or_true, if_true] at hrs
                      have hw := HWD.out; rw [ringsFrom] at hw; dsimp only at hw; rw [if_neg HNZ.out] at hw; rw [hrs] at hw; (try dsimp only at hw); have HR := Lib.hid hw; clear hw
                      clear hrs
                      go_wp2_with (first
                        | (go_at_call 39; refine (Has_c _ _ _).mono ?_; rintro e w' ⟨rfl, rfl⟩)
                        | (go_at_call 35; refine (bad_c 8 (k : Int) _).mono ?_; unfold faultA; rintro e wb ⟨rfl, hxb⟩; have hOb := HOW.out.ext hxb; have HTH := Lib.hid (hOb.there 0 2 (by simp)); have HOE := Lib.hid (hOb.all (faultC (8, (k : Int))) rfl); clear hOb hxb)
                        | ((with_reducible refine atStore 37 rfl ?_); refine wpList_store_mid rfl 37 _ _ rfl (w.heap.size + 1) 0 _ rfl rfl HTH.out HIN.out (HON _ _).out (halt ?_)))
                      unfold Halt
                      go_wp2
                      try rw [Exit.noGoto_ret]
                      exact bodyPost_ret (results_agg rfl _ _ _ _ rfl _ _ HOE.out.range Tryz.underlying37 rfl (by kernel_rfl)) rfl ⟨by rw [← HR.out]; rfl, HOE.out.x⟩
                    | false =>
                      rw [h1, h2] at hrs
                      simp only [Bool.not_true, Bool.or_self, Bool.false_eq_true, if_false] at hrs
                      have HN2 := Lib.hid hrs; clear hrs
                      go_wp2_with (first
                        | (go_at_call 39; refine (Has_c _ _ _).mono ?_; rintro e w' ⟨rfl, rfl⟩)
                        | (go_at_call 86; refine (With_c _ _ _).mono ?_; rintro e w' ⟨rfl, rfl⟩))
                      go_round
                      case rel => exact ⟨j + 1, _, by omega, by go_num, rfl, HN2⟩
                      case measure => simp [intOf]; omega
                · have hn := HN.out
                  rw [List.drop_of_length_le (by omega)] at hn
                  have HN2 := Lib.hid (show rowSeen on se gl = some sj from hn)
                  clear HN hn
                  go_wp2
                  go_round
                  case rel => exact ⟨1, sj, by omega, rfl, rfl, Lib.hid ⟨fun h => absurd h (by omega), fun _ => HN2.out, fun h => absurd h (by omega)⟩⟩
                  case measure => simp [intOf]
            · have HG := Lib.hid (HE.out.2.1 rfl)
              clear HE
              have hix : ∀ w', (Instr.index 65 (.agg #[.slice a1 gl.length cp1, .slice a2 gr.length cp2]) (.int .i64 1)).run Tryz.prog w' = .ok (.slice a2 gr.length cp2) w' := fun _ => by kernel_rfl
              go_wp2
              clear hix
              go_loop [5, 41] (fun s5 i => ∃ (j : Nat) (sj : Int), j ≤ gr.length ∧ i = .int .i64 j ∧ s5 = .int .i64 sj ∧ Hid (rowSeen on se gr = rowSeen on sj (gr.drop j))) (fun _ i => gr.length - (intOf i).toNat)
              case atStart => exact ⟨0, _, Nat.zero_le _, rfl, rfl, Lib.hid rfl⟩
              case round =>
                obtain ⟨j, sj, hj, rfl, rfl, HN⟩ := hrel
                by_cases hlj : j < gr.length
                · rcases OK2.out with ⟨h0, _⟩ | ⟨b, off, rfl, hb, hc⟩
                  · omega
                  have hck := (HOW.out.x.cell (p := ⟨b, off + j, none⟩) hb).trans (hc j _ (ints_get gr j hlj))
                  clear hc hb
                  have hrs := rowSeen_drop on sj gr j hlj
                  rw [← HN.out] at hrs
                  clear HN
                  generalize gr[j] = q at hck hrs
                  cases h1 : has on q with
                  | false =>
                    rw [h1] at hrs
                    simp only [Bool.not_false, Bool.true_or, if_true] at hrs
                    have hw := HWD.out; rw [ringsFrom] at hw; dsimp only at hw; rw [if_neg HNZ.out] at hw; rw [HG.out] at hw; (try dsimp only at hw); rw [hrs] at hw; (try dsimp only at hw); have HR := Lib.hid hw; clear hw
                    clear hrs
                    go_wp2_with (first
                      | (go_at_call 39; refine (Has_c _ _ _).mono ?_; rintro e w' ⟨rfl, rfl⟩)
                      | (go_at_call 35; refine (bad_c 8 (k : Int) _).mono ?_; unfold faultA; rintro e wb ⟨rfl, hxb⟩; have hOb := HOW.out.ext hxb; have HTH := Lib.hid (hOb.there 0 2 (by simp)); have HOE := Lib.hid (hOb.all (faultC (8, (k : Int))) rfl); clear hOb hxb)
                      | ((with_reducible refine atStore 37 rfl ?_); refine wpList_store_mid rfl 37 _ _ rfl (w.heap.size + 1) 0 _ rfl rfl HTH.out HIN.out (HON _ _).out (halt ?_)))
                    unfold Halt
                    go_wp2
                    try rw [Exit.noGoto_ret]
                    exact bodyPost_ret (results_agg rfl _ _ _ _ rfl _ _ HOE.out.range Tryz.underlying37 rfl (by kernel_rfl)) rfl ⟨by rw [← HR.out]; rfl, HOE.out.x⟩
                  | true =>
                    cases h2 : has sj q with
                    | true =>
                      rw [h1, h2] at hrs
                      simp only [Bool.or_true, if_true] at hrs
                      have hw := HWD.out; rw [ringsFrom] at hw; dsimp only at hw; rw [if_neg HNZ.out] at hw; rw [HG.out] at hw; (try dsimp only at hw); rw [hrs] at hw; (try dsimp only at hw); have HR := Lib.hid hw; clear hw
                      clear hrs
                      go_wp2_with (first
                        | (go_at_call 39; refine (Has_c _ _ _).mono ?_; rintro e w' ⟨rfl, rfl⟩)
                        | (go_at_call 35; refine (bad_c 8 (k : Int) _).mono ?_; unfold faultA; rintro e wb ⟨rfl, hxb⟩; have hOb := HOW.out.ext hxb; have HTH := Lib.hid (hOb.there 0 2 (by simp)); have HOE := Lib.hid (hOb.all (faultC (8, (k : Int))) rfl); clear hOb hxb)
                        | ((with_reducible refine atStore 37 rfl ?_); refine wpList_store_mid rfl 37 _ _ rfl (w.heap.size + 1) 0 _ rfl rfl HTH.out HIN.out (HON _ _).out (halt ?_)))
                      unfold Halt
                      go_wp2
                      try rw [Exit.noGoto_ret]
                      exact bodyPost_ret (results_agg rfl _ _ _ _ rfl _ _ HOE.out.range Tryz.underlying37 rfl (by kernel_rfl)) rfl ⟨by rw [← HR.out]; rfl, HOE.out.x⟩
                    | false =>
                      rw [h1, h2] at hrs
                      simp only [Bool.not_true, Bool.or_self, Bool.false_eq_true, if_false] at hrs
                      have HN2 := Lib.hid hrs; clear hrs
                      go_wp2_with (first
                        | (go_at_call 39; refine (Has_c _ _ _).mono ?_; rintro e w' ⟨rfl, rfl⟩)
                        | (go_at_call 86; refine (With_c _ _ _).mono ?_; rintro e w' ⟨rfl, rfl⟩))
                      go_round
                      case rel => exact ⟨j + 1, _, by omega, by go_num, rfl, HN2⟩
                      case measure => simp [intOf]; omega
                · have hn := HN.out
                  rw [List.drop_of_length_le (by omega)] at hn
                  have HN2 := Lib.hid (show rowSeen on se gr = some sj from hn)
                  clear HN hn
                  go_wp2
                  go_round
                  case rel => exact ⟨2, sj, by omega, rfl, rfl, Lib.hid ⟨fun h => absurd h (by omega), fun h => absurd h (by omega), fun _ => ⟨se, HG.out, HN2.out⟩⟩⟩
                  case measure => simp [intOf]
            · obtain ⟨s1, e1, e2⟩ := HE.out.2.2 rfl
              have hw := HWD.out
              rw [ringsFrom] at hw
              dsimp only at hw
              rw [if_neg HNZ.out] at hw
              rw [e1] at hw
              (try dsimp only at hw)
              rw [e2] at hw
              (try dsimp only at hw)
              have HW2 := Lib.hid hw; clear hw e1 e2 HE
              go_wp2
              go_roundw
              case rel => exact ⟨k + 1, se, by omega, by go_num, rfl, HOW.out, HW2⟩
              case measure => simp [intOf]; omega
      · have hw := HW.out
        rw [List.drop_of_length_le (by rw [List.length_map]; omega)] at hw
        dsimp only [ringsFrom] at hw
        clear HW
        by_cases hon : sn = on
        · rw [if_pos hon] at hw
          have HR := Lib.hid hw; clear hw
          have hne : (sn != on) = false := by simpa using hon
          clear hon
          go_wp2_with (first
            | (go_at_call 58; refine (none_c _).mono ?_; unfold faultA; rintro e wb ⟨rfl, hxb⟩; have hOb := HOw.out.ext hxb; have HTH := Lib.hid (hOb.there 0 2 (by simp)); have HOE := Lib.hid (hOb.all (faultC (0, 0)) rfl); clear hOb hxb)
            | ((with_reducible refine atStore 37 rfl ?_); refine wpList_store_mid rfl 37 _ _ rfl (w.heap.size + 1) 0 _ rfl rfl HTH.out HIN.out (HON _ _).out (halt ?_)))
          unfold Halt
          go_wp2
          exact bodyPost_ret (results_agg rfl _ _ _ _ rfl _ _ HOE.out.range Tryz.underlying37 rfl (by kernel_rfl)) rfl ⟨by rw [← HR.out]; rfl, HOE.out.x⟩
        · rw [if_neg hon] at hw
          have HR := Lib.hid hw; clear hw
          have hne : (sn != on) = true := by simpa using hon
          clear hon
          go_wp2_with (first
            | (go_at_call 39; refine (Has_c _ _ _).mono ?_; rintro e w' ⟨rfl, rfl⟩)
            | (go_at_call 35; refine (bad_c 8 0 _).mono ?_; unfold faultA; rintro e wb ⟨rfl, hxb⟩; have hOb := HOw.out.ext hxb; have HTH := Lib.hid (hOb.there 0 2 (by simp)); have HOE := Lib.hid (hOb.all (faultC (8, 0)) rfl); clear hOb hxb)
            | ((with_reducible refine atStore 37 rfl ?_); refine wpList_store_mid rfl 37 _ _ rfl (w.heap.size + 1) 0 _ rfl rfl HTH.out HIN.out (HON _ _).out (halt ?_)))
          unfold Halt
          go_wp2
          try rw [Exit.noGoto_ret]
          exact bodyPost_ret (results_agg rfl _ _ _ _ rfl _ _ HOE.out.range Tryz.underlying37 rfl (by kernel_rfl)) rfl ⟨by rw [← HR.out]; rfl, HOE.out.x⟩
end Go.Proofs.YtpopnmelcplbbaaGreat
