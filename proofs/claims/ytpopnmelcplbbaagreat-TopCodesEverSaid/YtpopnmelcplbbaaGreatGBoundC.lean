/-
  bound: Pass, Free. bound: Free.
-/
import Derived.Test.YtpopnmelcplbbaaGreatGBoundA
import Derived.Test.YtpopnmelcplbbaaGreatWhere
import Derived.Test.YtpopnmelcplbbaaGreatEach
set_option linter.unusedVariables false
set_option linter.unusedSimpArgs false
namespace Go.Proofs.YtpopnmelcplbbaaGreat
open Go.RowKit

def passRow (t : Tab) (n : Int) (l : List Int) : Int := l.foldl (fun n p => satAdd n (serveS t p)) n
theorem passRow_snoc (t : Tab) (n : Int) (l : List Int) (k : Nat) (h : k < l.length) : passRow t n (l.take (k + 1)) = satAdd (passRow t n (l.take k)) (serveS t l[k]) := by
  unfold passRow
  rw [List.take_succ_eq_append_getElem h, List.foldl_append]; rfl
def passG (t : Tab) (g : List Int × List Int) : Int := passRow t (passRow t 8 g.1) g.2
def passS (t : Tab) (k : Nat) : Int := passG t (t.groups.getD k ([], []))

set_option maxRecDepth 100000 in
set_option maxHeartbeats 4000000 in
theorem Pass_c (w : World) (gv dv rv bv : Value) (t : Tab) (hT : TabAt w gv dv rv bv t) (k : Nat) (hk : k < t.groups.length) : Calls Tryz.prog 125 #[tabV t gv dv rv bv, .int .i64 k] w (Ret w (.int .i64 (passS t k))) := by
  have hx0 := (Ext.refl w).alloc (.cells (t.cells gv dv rv bv).toArray 34)
  have hTB := TB.new w t gv dv rv bv 34
  have hc0 := hTB.cell (t.c104 gv dv rv bv)
  have hs := table_sz t gv dv rv bv
  have hrg := fun W (e : Ext (w.alloc (.cells (t.cells gv dv rv bv).toArray 34)) W) => (hTB.ext e).range
  have hsv := fun W (p : Int) => Serve_c W gv dv rv bv t p
  have hgl := hT.gl
  obtain ⟨gvs, hgs, hgr, hok⟩ := hT.g
  have hk2 : k < gvs.length := by rw [hgs, List.length_map] at hk; exact hk
  have hps : passS t k = passG t (gvs[k]).g := by unfold passS; rw [hgs]; simp [hk2]
  rw [hps]
  have hgl2 : gvs.length ≤ 1000 := by rw [hgs, List.length_map] at hgl; exact hgl
  clear hk hgl
  obtain ⟨ga, gcp, rfl, hrow⟩ := hgr
  rcases hrow with ⟨h0, _⟩ | ⟨b, off, rfl, hb, hcl⟩
  · omega
  unfold tabV at hsv ⊢
  generalize t.cells (.slice (some ⟨b, off, none⟩) gvs.length gcp) dv rv bv = C at hx0 hc0 hs hrg hsv ⊢
  clear hTB
  have hrow : (w.alloc (.cells C.toArray 34)).rangeAt b (off + k * 2) (GV.cells gvs[k]) := fun j v hj => by
    rw [Nat.add_assoc]
    exact (hx0.cell (p := ⟨b, off + (k * 2 + j), none⟩) hb).trans (hcl (k * 2 + j) v (flat_get GV.cells 2 gvs (fun _ _ => rfl) k hk2 j v hj))
  have hokk := hok gvs[k] (by simp)
  clear hcl hok hgs hps
  have k0 : (0 : Int) ≤ (k : Int) := by omega
  have k1 : (k : Int) < (gvs.length : Int) := by omega
  have k2 : decide ((gvs.length : Int) ≤ (k : Int)) = false := by simp; omega
  have k3 : decide ((k : Int) < 0) = false := by simp
  generalize gvs[k] = x at hrow hokk ⊢
  obtain ⟨va, vb, gl, gr⟩ := x
  obtain ⟨⟨a1, cp1, h1, hok1⟩, ⟨a2, cp2, h2, hok2⟩, hl1, hl2⟩ := hokk
  dsimp only at h1 h2 hok1 hok2 hl1 hl2
  subst h1 h2
  unfold passG GV.g
  dsimp only
  have OK1 := Lib.hid hok1; clear hok1
  have OK2 := Lib.hid hok2; clear hok2
  have HROW := Lib.hid hrow; clear hrow
  have HSV := Lib.hid hsv; clear hsv
  have HS := Lib.hid hs; clear hs
  have HRG := Lib.hid hrg; clear hrg
  have HXW := Lib.hid hx0; clear hx0
  have HIN2 := Lib.hid (show (Tryz.prog.info? 65).map (·.size) = some 2 by kernel_rfl)
  obtain ⟨res, hres⟩ : ∃ res, passRow t (passRow t 8 gl) gr = res := ⟨_, rfl⟩
  rw [hres]
  have HRES := Lib.hid hres; clear hres
  go_enter Tryz.func125, Tryz.ntmps125
  go_wp2_with ((with_reducible refine atLoad 65 rfl ?_); refine wpList_load_mid rfl 65 _ rfl _ _ rfl _ _ HROW.out Tryz.underlying65 rfl HIN2.out ?_)
  clear HROW hc0
  generalize w.alloc (.cells C.toArray 34) = W0 at HRG HXW ⊢
  rw [show (GV.cells ⟨.slice a1 gl.length cp1, .slice a2 gr.length cp2, gl, gr⟩).toArray = #[.slice a1 gl.length cp1, .slice a2 gr.length cp2] from rfl]
  go_loopw [5, 24] (fun s5 i wh => ∃ (e : Nat) (se : Int), e ≤ 2 ∧ i = .int .i64 e ∧ s5 = .int .i64 se ∧ Ext W0 wh ∧ Hid ((e = 0 → se = 8) ∧ (e = 1 → se = passRow t 8 gl) ∧ (e = 2 → se = passRow t (passRow t 8 gl) gr))) (fun _ i _ => 2 - (intOf i).toNat)
  case atStart => exact ⟨0, 8, by omega, rfl, rfl, Ext.refl _, Lib.hid ⟨fun _ => rfl, fun h => absurd h (by omega), fun h => absurd h (by omega)⟩⟩
  case round =>
    obtain ⟨e, se, he2, rfl, rfl, hx, HE⟩ := hrel
    have HX := Lib.hid hx; clear hx
    have h012 : e = 0 ∨ e = 1 ∨ e = 2 := by omega
    clear he2
    rcases h012 with rfl | rfl | rfl
    · have HG := Lib.hid (HE.out.1 rfl)
      clear HE
      rw [show (((0 : Nat) : Int)) = 0 from rfl]
      have hix : ∀ w', (Instr.index 65 (.agg #[.slice a1 gl.length cp1, .slice a2 gr.length cp2]) (.int .i64 0)).run Tryz.prog w' = .ok (.slice a1 gl.length cp1) w' := fun _ => by kernel_rfl
      go_wp2
      clear hix
      go_loopw [5, 29] (fun s5 i wh => ∃ (j : Nat), j ≤ gl.length ∧ i = .int .i64 j ∧ s5 = .int .i64 (passRow t se (gl.take j)) ∧ Ext W0 wh) (fun _ i _ => gl.length - (intOf i).toNat)
      case atStart => exact ⟨0, Nat.zero_le _, rfl, rfl, HX.out⟩
      case round =>
        obtain ⟨j, hj, rfl, rfl, hxj⟩ := hrel
        have HXJ := Lib.hid hxj; clear hxj
        by_cases hlj : j < gl.length
        · rcases OK1.out with ⟨h0, _⟩ | ⟨b1, off1, rfl, hb1, hc1⟩
          · omega
          have hck := ((HXW.out.trans HXJ.out).cell (p := ⟨b1, off1 + j, none⟩) hb1).trans (hc1 j _ (ints_get gl j hlj))
          clear hc1 hb1
          have HSN := Lib.hid (passRow_snoc t se gl j hlj)
          generalize passRow t se (gl.take j) = sj at HSN
          generalize gl[j] = q at hck HSN
          have HRG2 := Lib.hid (HRG.out _ HXJ.out)
          have hsv := HSV.out wr q
          generalize serveS t q = sv at hsv HSN
          have HC := Lib.hid hsv; clear hsv
          go_wp2_with (first
            | ((with_reducible refine atLoad 34 rfl ?_); refine wpList_load_mid rfl 34 _ rfl _ _ rfl _ _ HRG2.out Tryz.underlying34 rfl HS.out ?_)
            | (go_at_call 145; refine HC.out.mono ?_; rintro e w5 ⟨rfl, hx5⟩; have HX5 := Lib.hid (HXJ.out.trans hx5); clear hx5)
            | (go_at_call 88; refine (Add_c _ _ _).mono ?_; rintro e w6 ⟨rfl, rfl⟩))
          go_roundw
          case rel => exact ⟨j + 1, by omega, by go_num, by rw [HSN.out], HX5.out⟩
          case measure => simp [intOf]; omega
        · have hk' : gl.take j = gl := List.take_of_length_le (by omega)
          rw [hk']
          clear hk'
          go_wp2
          go_roundw
          case rel => exact ⟨1, _, by omega, rfl, rfl, HXJ.out, Lib.hid ⟨fun h => absurd h (by omega), fun _ => by rw [HG.out], fun h => absurd h (by omega)⟩⟩
          case measure => simp [intOf]
    · have HG := Lib.hid (HE.out.2.1 rfl)
      clear HE
      rw [show (((1 : Nat) : Int)) = 1 from rfl]
      have hix : ∀ w', (Instr.index 65 (.agg #[.slice a1 gl.length cp1, .slice a2 gr.length cp2]) (.int .i64 1)).run Tryz.prog w' = .ok (.slice a2 gr.length cp2) w' := fun _ => by kernel_rfl
      go_wp2
      clear hix
      go_loopw [5, 29] (fun s5 i wh => ∃ (j : Nat), j ≤ gr.length ∧ i = .int .i64 j ∧ s5 = .int .i64 (passRow t se (gr.take j)) ∧ Ext W0 wh) (fun _ i _ => gr.length - (intOf i).toNat)
      case atStart => exact ⟨0, Nat.zero_le _, rfl, rfl, HX.out⟩
      case round =>
        obtain ⟨j, hj, rfl, rfl, hxj⟩ := hrel
        have HXJ := Lib.hid hxj; clear hxj
        by_cases hlj : j < gr.length
        · rcases OK2.out with ⟨h0, _⟩ | ⟨b1, off1, rfl, hb1, hc1⟩
          · omega
          have hck := ((HXW.out.trans HXJ.out).cell (p := ⟨b1, off1 + j, none⟩) hb1).trans (hc1 j _ (ints_get gr j hlj))
          clear hc1 hb1
          have HSN := Lib.hid (passRow_snoc t se gr j hlj)
          generalize passRow t se (gr.take j) = sj at HSN
          generalize gr[j] = q at hck HSN
          have HRG2 := Lib.hid (HRG.out _ HXJ.out)
          have hsv := HSV.out wr q
          generalize serveS t q = sv at hsv HSN
          have HC := Lib.hid hsv; clear hsv
          go_wp2_with (first
            | ((with_reducible refine atLoad 34 rfl ?_); refine wpList_load_mid rfl 34 _ rfl _ _ rfl _ _ HRG2.out Tryz.underlying34 rfl HS.out ?_)
            | (go_at_call 145; refine HC.out.mono ?_; rintro e w5 ⟨rfl, hx5⟩; have HX5 := Lib.hid (HXJ.out.trans hx5); clear hx5)
            | (go_at_call 88; refine (Add_c _ _ _).mono ?_; rintro e w6 ⟨rfl, rfl⟩))
          go_roundw
          case rel => exact ⟨j + 1, by omega, by go_num, by rw [HSN.out], HX5.out⟩
          case measure => simp [intOf]; omega
        · have hk' : gr.take j = gr := List.take_of_length_le (by omega)
          rw [hk']
          clear hk'
          go_wp2
          go_roundw
          case rel => exact ⟨2, _, by omega, rfl, rfl, HXJ.out, Lib.hid ⟨fun h => absurd h (by omega), fun h => absurd h (by omega), fun _ => by rw [HG.out]⟩⟩
          case measure => simp [intOf]
    · have HG := Lib.hid ((HE.out.2.2 rfl).trans HRES.out)
      clear HE
      rw [show (((2 : Nat) : Int)) = 2 from rfl]
      go_wp2
      go_ret
      exact ⟨by rw [HG.out]; kernel_rfl, HXW.out.trans HX.out⟩

theorem whereFrom_lt (p : Int) : ∀ (gs : List (List Int × List Int)) (k0 k r i : Nat), whereFrom p gs k0 = some (k, r, i) → k0 ≤ k ∧ k < k0 + gs.length := by
  intro gs
  induction gs with
  | nil => intro k0 k r i h; simp [whereFrom] at h
  | cons g gs ih =>
    intro k0 k r i h
    rw [whereFrom] at h
    cases hg : grpPos p g with
    | some x =>
      rw [hg] at h
      simp only [Option.some.injEq, Prod.mk.injEq] at h
      simp; omega
    | none =>
      rw [hg] at h
      have := ih (k0 + 1) k r i h
      simp; omega
theorem whereS_lt (t : Tab) (p : Int) (h : (whereS t p).2.2.2 = true) : ∃ k : Nat, k < t.groups.length ∧ (whereS t p).1 = (k : Int) := by
  unfold whereS at h ⊢
  split at h
  · simp at h
  · rename_i hne
    rw [if_neg hne]
    cases hw : whereFrom p t.groups 0 with
    | none => rw [hw] at h; simp at h
    | some x =>
      obtain ⟨k, r, i⟩ := x
      have := whereFrom_lt p t.groups 0 k r i hw
      exact ⟨k, by omega, rfl⟩

def freeU (t : Tab) (n : Int) (k : Nat) : Int := (List.range k).foldl (fun n g => satAdd n (passS t g)) n
theorem freeU_succ (t : Tab) (n : Int) (k : Nat) : freeU t n (k + 1) = satAdd (freeU t n k) (passS t k) := by
  unfold freeU
  rw [List.range_succ, List.foldl_append]; rfl
def freeS (t : Tab) (p : Int) : Int := if (whereS t p).2.2.2 && has (onS t) p then freeU t (passS t (whereS t p).1.toNat) t.groups.length else 0
end Go.Proofs.YtpopnmelcplbbaaGreat
namespace Go.Proofs.YtpopnmelcplbbaaGreat
open Go.RowKit

set_option maxRecDepth 100000 in
set_option maxHeartbeats 4000000 in
theorem Free_c (w : World) (gv dv rv bv : Value) (t : Tab) (hT : TabAt w gv dv rv bv t) (p : Int) : Calls Tryz.prog 87 #[tabV t gv dv rv bv, .int .i64 p] w (Ret w (.int .i64 (freeS t p))) := by
  have hx0 := (Ext.refl w).alloc (.cells (t.cells gv dv rv bv).toArray 34)
  have hTB := TB.new w t gv dv rv bv 34
  have hs := table_sz t gv dv rv bv
  have hgl := hT.gl
  have hwh := Where_c _ gv dv rv bv t (hT.ext hx0) p
  have hon := fun W => On_c W gv dv rv bv t
  have hhas := Has_c (onS t) p
  have hpass := fun W (e : Ext w W) (k : Nat) (hk : k < t.groups.length) => Pass_c W gv dv rv bv t (hT.ext e) k hk
  have hlt := whereS_lt t p
  obtain ⟨ga, gcp, rfl⟩ : ∃ ga gcp, gv = .slice ga t.groups.length gcp := by
    obtain ⟨gvs, hgs, hgr, hok⟩ := hT.g
    obtain ⟨ga, gcp, rfl, hrow⟩ := hgr
    exact ⟨ga, gcp, by rw [hgs, List.length_map]⟩
  have hc0 := fun W (e : Ext (w.alloc (.cells (t.cells (.slice ga t.groups.length gcp) dv rv bv).toArray 34)) W) => (hTB.ext e).cell (t.c104 (.slice ga t.groups.length gcp) dv rv bv)
  have hrg := fun W (e : Ext (w.alloc (.cells (t.cells (.slice ga t.groups.length gcp) dv rv bv).toArray 34)) W) => (hTB.ext e).range
  unfold freeS
  generalize whereS t p = r1 at hwh hlt ⊢
  obtain ⟨gg, rr, ii, ok⟩ := r1
  dsimp only at hlt ⊢
  unfold whereV at hwh
  unfold tabV at hwh hon hpass ⊢
  generalize t.cells (.slice ga t.groups.length gcp) dv rv bv = C at hx0 hc0 hs hrg hwh hon hpass ⊢
  generalize onS t = on at hon hhas ⊢
  clear hTB
  obtain ⟨res, hres⟩ : ∃ res, (if ok && has on p then freeU t (passS t gg.toNat) t.groups.length else 0) = res := ⟨_, rfl⟩
  rw [hres]
  have HRES := Lib.hid hres; clear hres
  have HWH := Lib.hid hwh; clear hwh
  have HON := Lib.hid hon; clear hon
  have HPS := Lib.hid hpass; clear hpass
  have HS := Lib.hid hs; clear hs
  have HRG := Lib.hid hrg; clear hrg
  have HC0 := Lib.hid hc0; clear hc0
  have HXW := Lib.hid hx0; clear hx0
  have HR0 := Lib.hid (HRG.out _ (Ext.refl _))
  go_enter Tryz.func87, Tryz.ntmps87
  go_wp2_with ((with_reducible refine atLoad 34 rfl ?_); refine wpList_load_mid rfl 34 _ rfl _ _ rfl _ _ HR0.out Tryz.underlying34 rfl HS.out ?_)
  refine HWH.out.mono ?_
  rintro e w1 ⟨rfl, hx1⟩
  have HX1 := Lib.hid hx1; clear hx1
  have HR1 := Lib.hid (HRG.out _ HX1.out)
  cases ok with
  | false =>
    have hr0 : (0 : Int) = res := by rw [← HRES.out]; simp
    subst hr0
    go_wp2
    go_ret
    exact ⟨by simp, HXW.out.trans HX1.out⟩
  | true =>
    obtain ⟨k, hk, rfl⟩ := hlt rfl
    clear hlt HR0 HWH
    go_wp2_with ((with_reducible refine atLoad 34 rfl ?_); refine wpList_loadG 34 _ rfl (by rfl) w.heap.size 0 rfl _ _ HR1.out Tryz.underlying34 rfl HS.out ?_)
    refine (HON.out _).mono ?_
    rintro e w2 ⟨rfl, hx2⟩
    have HX2 := Lib.hid (HX1.out.trans hx2); clear hx2
    cases hh : has on p with
    | false =>
      rw [hh] at hhas
      have H := Lib.hid hhas; clear hhas
      have hr0 : (0 : Int) = res := by rw [← HRES.out, hh]; simp
      subst hr0
      go_wp2_with fail
      refine (H.out _).mono ?_
      rintro e w3 ⟨rfl, rfl⟩
      go_wp2
      go_ret
      exact ⟨by simp, HXW.out.trans HX2.out⟩
    | true =>
      rw [hh] at hhas
      have H := Lib.hid hhas; clear hhas
      have HRES2 : Hid (freeU t (passS t k) t.groups.length = res) := Lib.hid (by rw [← HRES.out, hh]; simp)
      clear HRES hh
      go_wp2_with fail
      refine (H.out _).mono ?_
      rintro e w3 ⟨rfl, rfl⟩
      have HR2 := Lib.hid (HRG.out _ HX2.out)
      have HP2 := Lib.hid (HPS.out _ (HXW.out.trans HX2.out) k hk)
      clear HR1 H
      generalize passS t k = pk at HP2 HRES2
      go_wp2_with (first
        | ((with_reducible refine atLoad 34 rfl ?_); refine wpList_load_mid rfl 34 _ rfl _ _ rfl _ _ HR2.out Tryz.underlying34 rfl HS.out ?_)
        | (refine HP2.out.mono ?_; rintro e w4 ⟨rfl, hx4⟩; have HX4 := Lib.hid (HX2.out.trans hx4); clear hx4; have hc4 := HC0.out _ HX4.out))
      clear hc4
      go_loopw [9, 34] (fun s9 i wh => ∃ (j : Nat), j ≤ t.groups.length ∧ i = .int .i64 j ∧ s9 = .int .i64 (freeU t pk j) ∧ Ext w4 wh) (fun _ i _ => t.groups.length - (intOf i).toNat)
      case atStart => exact ⟨0, Nat.zero_le _, rfl, rfl, Ext.refl _⟩
      case round =>
        obtain ⟨j, hj, rfl, rfl, hxj⟩ := hrel
        have HXJ := Lib.hid (HX4.out.trans hxj)
        have HXJ4 := Lib.hid hxj; clear hxj
        by_cases hlj : j < t.groups.length
        · have HSN := Lib.hid (freeU_succ t pk j)
          generalize freeU t pk j = sj at HSN
          have HRJ := Lib.hid (HRG.out _ HXJ.out)
          have hpj := HPS.out wr (HXW.out.trans HXJ.out) j hlj
          generalize passS t j = pj at hpj HSN
          have HPJ := Lib.hid hpj; clear hpj
          go_wp2_with (first
            | ((with_reducible refine atLoad 34 rfl ?_); refine wpList_load_mid rfl 34 _ rfl _ _ rfl _ _ HRJ.out Tryz.underlying34 rfl HS.out ?_)
            | (go_at_call 125; refine HPJ.out.mono ?_; rintro e w5 ⟨rfl, hx5⟩; have HX5 := Lib.hid (HXJ4.out.trans hx5); clear hx5)
            | (go_at_call 88; refine (Add_c _ _ _).mono ?_; rintro e w6 ⟨rfl, rfl⟩))
          go_roundw
          case rel => exact ⟨j + 1, by omega, by go_num, by rw [HSN.out], HX5.out⟩
          case measure => simp [intOf]; omega
        · have hjj : j = t.groups.length := by omega
          subst hjj
          rw [HRES2.out]
          go_wp2
          go_ret
          exact ⟨by kernel_rfl, HXW.out.trans HXJ.out⟩
end Go.Proofs.YtpopnmelcplbbaaGreat
