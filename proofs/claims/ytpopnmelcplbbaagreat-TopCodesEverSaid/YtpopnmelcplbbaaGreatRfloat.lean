/-
  code's reading of a detector's floats.
-/
import Derived.Test.YtpopnmelcplbbaaGreatGRead
set_option linter.unusedVariables false
set_option linter.unusedSimpArgs false
namespace Go.Proofs.YtpopnmelcplbbaaGreat
open Go.RowKit

def one64 : Nat := 4607182418800017408
/-- a detector that is right but for its k-th float -/
def detWith (k v : Nat) : Det := { phase := 0, on := if k = 1 then v else one64, off := if k = 2 then v else one64, delay := if k = 3 then v else 0, extend := if k = 4 then v else 0, maxOn := 0, maxOff := 0 }
def zeroPh : Ph := ⟨false, 0, 0, 0, 0, 0, 0, 0, 0, 0, 0, false, false⟩
def zeroT : Tab := { ph := fun _ => zeroPh, groups := [], conflict := fun _ => 0, dets := [], rails := [], buses := [], extend := 0, budget := 0, start := 0, revert := 0, least := 0, flash := fun _ => 0, window := 0, share := 0 }
def oneDet (d : Det) : Tab := { zeroT with dets := [d] }
set_option maxRecDepth 100000 in
theorem oneDet_may (d : Det) : mayOk (oneDet d) = deOk d := by
  have h1 : (decide (((oneDet d).phs.length : Int) ≤ 8) && (oneDet d).phs.all phOk) = true := by
    show (decide ((zeroT.phs.length : Int) ≤ 8) && zeroT.phs.all phOk) = true
    decide
  have h2 : (arr8 (oneDet d).conflict).all (inUpto 255) = true := by show (arr8 zeroT.conflict).all (inUpto 255) = true; decide
  have h3 : (arr8 (oneDet d).flash).all (inUpto 2) = true := by show (arr8 zeroT.flash).all (inUpto 2) = true; decide
  have h4 : [(oneDet d).extend, (oneDet d).budget, (oneDet d).start, (oneDet d).revert, (oneDet d).least].all (inUpto 9999) = true := by
    show [zeroT.extend, zeroT.budget, zeroT.start, zeroT.revert, zeroT.least].all (inUpto 9999) = true; decide
  have h5 : [(oneDet d).window, (oneDet d).share].all (inUpto 2147483647) = true := by show [zeroT.window, zeroT.share].all (inUpto 2147483647) = true; decide
  have h6 : (decide (((oneDet d).dets.length : Int) ≤ 16) && (oneDet d).dets.all deOk) = deOk d := by simp [oneDet]
  have h7 : (decide (((oneDet d).groups.length : Int) ≤ 4) && (oneDet d).groups.all grOk) = true := by simp [oneDet, zeroT]
  have h8 : (decide (((oneDet d).rails.length : Int) ≤ 4) && (oneDet d).rails.all raOk) = true := by simp [oneDet, zeroT]
  have h9 : (decide (((oneDet d).buses.length : Int) ≤ 4) && (oneDet d).buses.all buOk) = true := by simp [oneDet, zeroT]
  unfold mayOk
  rw [h1, h2, h3, h4, h5, h6, h7, h8, h9]
  simp
theorem oneDet_V (d : Det) (dv : Value) : Value.agg (Tryz.zeroCells34.setIfInBounds 113 dv) = tabV (oneDet d) (.slice none 0 0) dv (.slice none 0 0) (.slice none 0 0) := by
  unfold tabV Tab.cells
  kernel_rfl
theorem May1_c (w : World) (d : Det) (dv : Value) (hd : RowIn w dv 1 (Det.cells d)) : Calls Tryz.prog 24 #[.agg (Tryz.zeroCells34.setIfInBounds 113 dv)] w (Ret w (.bool (deOk d))) := by
  rw [oneDet_V d dv, ← oneDet_may d]
  exact May_c w _ dv _ _ (oneDet d) ⟨⟨[], rfl, ⟨none, 0, rfl, .inl ⟨rfl, rfl⟩⟩, by simp⟩, by simpa [oneDet] using hd, ⟨none, 0, rfl, .inl ⟨rfl, rfl⟩⟩, ⟨none, 0, rfl, .inl ⟨rfl, rfl⟩⟩, by simp [oneDet, zeroT], by simp [oneDet], by simp [oneDet, zeroT], by simp [oneDet, zeroT]⟩
def floatS (l : List UInt8) (k n : Nat) : Except (Int × Int) (Nat × Nat) :=
  if l.length < n + 8 then .error (2, (l.length : Int))
  else if deOk (detWith k (beVal ((l.drop n).take 8))) = true then .ok (beVal ((l.drop n).take 8), n + 8) else .error (4, (n : Int))
def isFloat : World → Nat → Value → Prop := fun _ x v => v = .float .f64 x

theorem of1_c (w : World) (b : Nat) : Calls Tryz.prog 103 #[.pointer (some ⟨b, 0, none⟩)] w fun e w' => e = .returned (.pointer (some ⟨b, 1, none⟩)) ∧ w = w' := by
  go_enter Tryz.func103, Tryz.ntmps103
  go_wp2
  go_ret
  exact ⟨rfl, rfl⟩

theorem of2_c (w : World) (b : Nat) : Calls Tryz.prog 104 #[.pointer (some ⟨b, 0, none⟩)] w fun e w' => e = .returned (.pointer (some ⟨b, 2, none⟩)) ∧ w = w' := by
  go_enter Tryz.func104, Tryz.ntmps104
  go_wp2
  go_ret
  exact ⟨rfl, rfl⟩

theorem of3_c (w : World) (b : Nat) : Calls Tryz.prog 105 #[.pointer (some ⟨b, 0, none⟩)] w fun e w' => e = .returned (.pointer (some ⟨b, 3, none⟩)) ∧ w = w' := by
  go_enter Tryz.func105, Tryz.ntmps105
  go_wp2
  go_ret
  exact ⟨rfl, rfl⟩

theorem of4_c (w : World) (b : Nat) : Calls Tryz.prog 106 #[.pointer (some ⟨b, 0, none⟩)] w fun e w' => e = .returned (.pointer (some ⟨b, 4, none⟩)) ∧ w = w' := by
  go_enter Tryz.func106, Tryz.ntmps106
  go_wp2
  go_ret
  exact ⟨rfl, rfl⟩

theorem float1_c (w : World) (B : Nat) (l : List UInt8) (n : Nat) (h : RdAt w B l n 0 0) (hl : l.length ≤ 1000000000) :
    Calls Tryz.prog 102 #[readerV B, .func (.func 103) #[] #[]] w (RdPost B l w isFloat (floatS l 1 n)) := by
  have hx0 := (Ext.refl w).alloc (.cells #[.pointer (some ⟨B, 0, none⟩)] 59)
  have hlt := h.lt
  have hg : ¬ w.heap.size = B := by omega
  have hat := At_c _ B l n 0 0 (h.ext hx0)
  have hr0 := h.ext hx0
  have HA := Lib.hid hat; clear hat
  have HR0 := Lib.hid hr0; clear hr0 h
  have HB := Lib.hid (Boxed.make w B hlt (.pointer (some ⟨B, 0, none⟩)) 59 rfl)
  unfold RdPost readerV floatS
  by_cases hov : l.length < n + 8
  · rw [if_pos hov]
    go_enter Tryz.func102, Tryz.ntmps102
    go_wp2_with fail
    refine HA.out.mono ?_
    rintro e w1 ⟨rfl, hx⟩
    clear HA
    have hb1 := HB.out.step (hx.toB B)
    have hc1 := hb1.cell
    go_wp2_with fail
    refine (Float_over _ B l n 0 (HR0.out.ext hx) hl hov).mono ?_
    rintro e w2 ⟨rfl, hr, hx2⟩
    have hb2 := hb1.step hx2
    have hc2 := hb2.cell
    clear hb1 hc1
    go_wp2_with fail
    refine (right_bad _ B l n 2 l.length hr (by decide)).mono ?_
    rintro e w3 ⟨rfl, hx3⟩
    go_wp2
    exact ⟨rfl, rfl, (((hx0.trans hx).toB B).trans hx2).trans (hx3.toB B)⟩
  · rw [if_neg hov]
    generalize hv : beVal ((l.drop n).take 8) = v
    have hfl := fun w1 (hx : Ext _ w1) => Float_ok w1 B l n (HR0.out.ext hx) hl (by omega) v hv.symm
    have hin : n + 8 ≤ l.length := by omega
    have hmay := fun w dv hd => May1_c w (detWith 1 v) dv hd
    generalize deOk (detWith 1 v) = b at hmay ⊢
    cases b
    all_goals
      have HMAY := Lib.hid hmay; clear hmay
      have HFL := Lib.hid hfl; clear hfl hov hv
      go_enter Tryz.func102, Tryz.ntmps102
      go_wp2_with fail
      refine HA.out.mono ?_
      rintro e w1 ⟨rfl, hx⟩
      clear HA
      have hb1 := HB.out.step (hx.toB B)
      have hc1 := hb1.cell
      go_wp2_with fail
      refine (HFL.out _ hx).mono ?_
      rintro e w2 ⟨rfl, hr, hx2⟩
      have hb2 := hb1.step hx2
      have hc2 := hb2.cell
      clear hb1 hc1
      go_wp2_with fail
      refine (right_ok _ B l _ hr).mono ?_
      rintro e w3 ⟨rfl, hx3⟩
      have hr3 := hr.ext hx3
      have hxx := (((hx0.trans hx).toB B).trans hx2).trans (hx3.toB B)
      have HR3 := Lib.hid hr3; clear hr3 HR0 HFL hx hx2 hx3 hr
      have HXX := Lib.hid hxx; clear hxx
      have he : ∀ args w, (callFunc 103 args).run Tryz.prog w = .ok (.enter 103 args) w := fun args w => by kernel_rfl
      clear hc2 hb2
      go_wp2_with fail
      refine (of1_c _ _).mono ?_
      rintro e w4 ⟨rfl, rfl⟩
      go_wp2_with fail
      refine (HMAY.out _ _ (by exact rowIn_at _ (Det.cells (detWith 1 v)) _ _ _ (by first | rfl | simp))).mono ?_
      rintro e w5 ⟨rfl, hx5⟩
      have hx6 := (((Ext.refl w3).alloc _).alloc _).trans hx5
      have HX6 := Lib.hid hx6; clear hx6 hx5
    · go_wp2
      exact ⟨rfl, rfl, HXX.out.trans (HX6.out.toB B)⟩
    · go_wp2
      go_ret
      exact ⟨_, rfl, rfl, HR3.out.ext HX6.out, HXX.out.trans (HX6.out.toB B)⟩

theorem float2_c (w : World) (B : Nat) (l : List UInt8) (n : Nat) (h : RdAt w B l n 0 0) (hl : l.length ≤ 1000000000) :
    Calls Tryz.prog 102 #[readerV B, .func (.func 104) #[] #[]] w (RdPost B l w isFloat (floatS l 2 n)) := by
  have hx0 := (Ext.refl w).alloc (.cells #[.pointer (some ⟨B, 0, none⟩)] 59)
  have hlt := h.lt
  have hg : ¬ w.heap.size = B := by omega
  have hat := At_c _ B l n 0 0 (h.ext hx0)
  have hr0 := h.ext hx0
  have HA := Lib.hid hat; clear hat
  have HR0 := Lib.hid hr0; clear hr0 h
  have HB := Lib.hid (Boxed.make w B hlt (.pointer (some ⟨B, 0, none⟩)) 59 rfl)
  unfold RdPost readerV floatS
  by_cases hov : l.length < n + 8
  · rw [if_pos hov]
    go_enter Tryz.func102, Tryz.ntmps102
    go_wp2_with fail
    refine HA.out.mono ?_
    rintro e w1 ⟨rfl, hx⟩
    clear HA
    have hb1 := HB.out.step (hx.toB B)
    have hc1 := hb1.cell
    go_wp2_with fail
    refine (Float_over _ B l n 0 (HR0.out.ext hx) hl hov).mono ?_
    rintro e w2 ⟨rfl, hr, hx2⟩
    have hb2 := hb1.step hx2
    have hc2 := hb2.cell
    clear hb1 hc1
    go_wp2_with fail
    refine (right_bad _ B l n 2 l.length hr (by decide)).mono ?_
    rintro e w3 ⟨rfl, hx3⟩
    go_wp2
    exact ⟨rfl, rfl, (((hx0.trans hx).toB B).trans hx2).trans (hx3.toB B)⟩
  · rw [if_neg hov]
    generalize hv : beVal ((l.drop n).take 8) = v
    have hfl := fun w1 (hx : Ext _ w1) => Float_ok w1 B l n (HR0.out.ext hx) hl (by omega) v hv.symm
    have hin : n + 8 ≤ l.length := by omega
    have hmay := fun w dv hd => May1_c w (detWith 2 v) dv hd
    generalize deOk (detWith 2 v) = b at hmay ⊢
    cases b
    all_goals
      have HMAY := Lib.hid hmay; clear hmay
      have HFL := Lib.hid hfl; clear hfl hov hv
      go_enter Tryz.func102, Tryz.ntmps102
      go_wp2_with fail
      refine HA.out.mono ?_
      rintro e w1 ⟨rfl, hx⟩
      clear HA
      have hb1 := HB.out.step (hx.toB B)
      have hc1 := hb1.cell
      go_wp2_with fail
      refine (HFL.out _ hx).mono ?_
      rintro e w2 ⟨rfl, hr, hx2⟩
      have hb2 := hb1.step hx2
      have hc2 := hb2.cell
      clear hb1 hc1
      go_wp2_with fail
      refine (right_ok _ B l _ hr).mono ?_
      rintro e w3 ⟨rfl, hx3⟩
      have hr3 := hr.ext hx3
      have hxx := (((hx0.trans hx).toB B).trans hx2).trans (hx3.toB B)
      have HR3 := Lib.hid hr3; clear hr3 HR0 HFL hx hx2 hx3 hr
      have HXX := Lib.hid hxx; clear hxx
      have he : ∀ args w, (callFunc 104 args).run Tryz.prog w = .ok (.enter 104 args) w := fun args w => by kernel_rfl
      clear hc2 hb2
      go_wp2_with fail
      refine (of2_c _ _).mono ?_
      rintro e w4 ⟨rfl, rfl⟩
      go_wp2_with fail
      refine (HMAY.out _ _ (by exact rowIn_at _ (Det.cells (detWith 2 v)) _ _ _ (by first | rfl | simp))).mono ?_
      rintro e w5 ⟨rfl, hx5⟩
      have hx6 := (((Ext.refl w3).alloc _).alloc _).trans hx5
      have HX6 := Lib.hid hx6; clear hx6 hx5
    · go_wp2
      exact ⟨rfl, rfl, HXX.out.trans (HX6.out.toB B)⟩
    · go_wp2
      go_ret
      exact ⟨_, rfl, rfl, HR3.out.ext HX6.out, HXX.out.trans (HX6.out.toB B)⟩

theorem float3_c (w : World) (B : Nat) (l : List UInt8) (n : Nat) (h : RdAt w B l n 0 0) (hl : l.length ≤ 1000000000) :
    Calls Tryz.prog 102 #[readerV B, .func (.func 105) #[] #[]] w (RdPost B l w isFloat (floatS l 3 n)) := by
  have hx0 := (Ext.refl w).alloc (.cells #[.pointer (some ⟨B, 0, none⟩)] 59)
  have hlt := h.lt
  have hg : ¬ w.heap.size = B := by omega
  have hat := At_c _ B l n 0 0 (h.ext hx0)
  have hr0 := h.ext hx0
  have HA := Lib.hid hat; clear hat
  have HR0 := Lib.hid hr0; clear hr0 h
  have HB := Lib.hid (Boxed.make w B hlt (.pointer (some ⟨B, 0, none⟩)) 59 rfl)
  unfold RdPost readerV floatS
  by_cases hov : l.length < n + 8
  · rw [if_pos hov]
    go_enter Tryz.func102, Tryz.ntmps102
    go_wp2_with fail
    refine HA.out.mono ?_
    rintro e w1 ⟨rfl, hx⟩
    clear HA
    have hb1 := HB.out.step (hx.toB B)
    have hc1 := hb1.cell
    go_wp2_with fail
    refine (Float_over _ B l n 0 (HR0.out.ext hx) hl hov).mono ?_
    rintro e w2 ⟨rfl, hr, hx2⟩
    have hb2 := hb1.step hx2
    have hc2 := hb2.cell
    clear hb1 hc1
    go_wp2_with fail
    refine (right_bad _ B l n 2 l.length hr (by decide)).mono ?_
    rintro e w3 ⟨rfl, hx3⟩
    go_wp2
    exact ⟨rfl, rfl, (((hx0.trans hx).toB B).trans hx2).trans (hx3.toB B)⟩
  · rw [if_neg hov]
    generalize hv : beVal ((l.drop n).take 8) = v
    have hfl := fun w1 (hx : Ext _ w1) => Float_ok w1 B l n (HR0.out.ext hx) hl (by omega) v hv.symm
    have hin : n + 8 ≤ l.length := by omega
    have hmay := fun w dv hd => May1_c w (detWith 3 v) dv hd
    generalize deOk (detWith 3 v) = b at hmay ⊢
    cases b
    all_goals
      have HMAY := Lib.hid hmay; clear hmay
      have HFL := Lib.hid hfl; clear hfl hov hv
      go_enter Tryz.func102, Tryz.ntmps102
      go_wp2_with fail
      refine HA.out.mono ?_
      rintro e w1 ⟨rfl, hx⟩
      clear HA
      have hb1 := HB.out.step (hx.toB B)
      have hc1 := hb1.cell
      go_wp2_with fail
      refine (HFL.out _ hx).mono ?_
      rintro e w2 ⟨rfl, hr, hx2⟩
      have hb2 := hb1.step hx2
      have hc2 := hb2.cell
      clear hb1 hc1
      go_wp2_with fail
      refine (right_ok _ B l _ hr).mono ?_
      rintro e w3 ⟨rfl, hx3⟩
      have hr3 := hr.ext hx3
      have hxx := (((hx0.trans hx).toB B).trans hx2).trans (hx3.toB B)
      have HR3 := Lib.hid hr3; clear hr3 HR0 HFL hx hx2 hx3 hr
      have HXX := Lib.hid hxx; clear hxx
      have he : ∀ args w, (callFunc 105 args).run Tryz.prog w = .ok (.enter 105 args) w := fun args w => by kernel_rfl
      clear hc2 hb2
      go_wp2_with fail
      refine (of3_c _ _).mono ?_
      rintro e w4 ⟨rfl, rfl⟩
      go_wp2_with fail
      refine (HMAY.out _ _ (by exact rowIn_at _ (Det.cells (detWith 3 v)) _ _ _ (by first | rfl | simp))).mono ?_
      rintro e w5 ⟨rfl, hx5⟩
      have hx6 := (((Ext.refl w3).alloc _).alloc _).trans hx5
      have HX6 := Lib.hid hx6; clear hx6 hx5
    · go_wp2
      exact ⟨rfl, rfl, HXX.out.trans (HX6.out.toB B)⟩
    · go_wp2
      go_ret
      exact ⟨_, rfl, rfl, HR3.out.ext HX6.out, HXX.out.trans (HX6.out.toB B)⟩

theorem float4_c (w : World) (B : Nat) (l : List UInt8) (n : Nat) (h : RdAt w B l n 0 0) (hl : l.length ≤ 1000000000) :
    Calls Tryz.prog 102 #[readerV B, .func (.func 106) #[] #[]] w (RdPost B l w isFloat (floatS l 4 n)) := by
  have hx0 := (Ext.refl w).alloc (.cells #[.pointer (some ⟨B, 0, none⟩)] 59)
  have hlt := h.lt
  have hg : ¬ w.heap.size = B := by omega
  have hat := At_c _ B l n 0 0 (h.ext hx0)
  have hr0 := h.ext hx0
  have HA := Lib.hid hat; clear hat
  have HR0 := Lib.hid hr0; clear hr0 h
  have HB := Lib.hid (Boxed.make w B hlt (.pointer (some ⟨B, 0, none⟩)) 59 rfl)
  unfold RdPost readerV floatS
  by_cases hov : l.length < n + 8
  · rw [if_pos hov]
    go_enter Tryz.func102, Tryz.ntmps102
    go_wp2_with fail
    refine HA.out.mono ?_
    rintro e w1 ⟨rfl, hx⟩
    clear HA
    have hb1 := HB.out.step (hx.toB B)
    have hc1 := hb1.cell
    go_wp2_with fail
    refine (Float_over _ B l n 0 (HR0.out.ext hx) hl hov).mono ?_
    rintro e w2 ⟨rfl, hr, hx2⟩
    have hb2 := hb1.step hx2
    have hc2 := hb2.cell
    clear hb1 hc1
    go_wp2_with fail
    refine (right_bad _ B l n 2 l.length hr (by decide)).mono ?_
    rintro e w3 ⟨rfl, hx3⟩
    go_wp2
    exact ⟨rfl, rfl, (((hx0.trans hx).toB B).trans hx2).trans (hx3.toB B)⟩
  · rw [if_neg hov]
    generalize hv : beVal ((l.drop n).take 8) = v
    have hfl := fun w1 (hx : Ext _ w1) => Float_ok w1 B l n (HR0.out.ext hx) hl (by omega) v hv.symm
    have hin : n + 8 ≤ l.length := by omega
    have hmay := fun w dv hd => May1_c w (detWith 4 v) dv hd
    generalize deOk (detWith 4 v) = b at hmay ⊢
    cases b
    all_goals
      have HMAY := Lib.hid hmay; clear hmay
      have HFL := Lib.hid hfl; clear hfl hov hv
      go_enter Tryz.func102, Tryz.ntmps102
      go_wp2_with fail
      refine HA.out.mono ?_
      rintro e w1 ⟨rfl, hx⟩
      clear HA
      have hb1 := HB.out.step (hx.toB B)
      have hc1 := hb1.cell
      go_wp2_with fail
      refine (HFL.out _ hx).mono ?_
      rintro e w2 ⟨rfl, hr, hx2⟩
      have hb2 := hb1.step hx2
      have hc2 := hb2.cell
      clear hb1 hc1
      go_wp2_with fail
      refine (right_ok _ B l _ hr).mono ?_
      rintro e w3 ⟨rfl, hx3⟩
      have hr3 := hr.ext hx3
      have hxx := (((hx0.trans hx).toB B).trans hx2).trans (hx3.toB B)
      have HR3 := Lib.hid hr3; clear hr3 HR0 HFL hx hx2 hx3 hr
      have HXX := Lib.hid hxx; clear hxx
      have he : ∀ args w, (callFunc 106 args).run Tryz.prog w = .ok (.enter 106 args) w := fun args w => by kernel_rfl
      clear hc2 hb2
      go_wp2_with fail
      refine (of4_c _ _).mono ?_
      rintro e w4 ⟨rfl, rfl⟩
      go_wp2_with fail
      refine (HMAY.out _ _ (by exact rowIn_at _ (Det.cells (detWith 4 v)) _ _ _ (by first | rfl | simp))).mono ?_
      rintro e w5 ⟨rfl, hx5⟩
      have hx6 := (((Ext.refl w3).alloc _).alloc _).trans hx5
      have HX6 := Lib.hid hx6; clear hx6 hx5
    · go_wp2
      exact ⟨rfl, rfl, HXX.out.trans (HX6.out.toB B)⟩
    · go_wp2
      go_ret
      exact ⟨_, rfl, rfl, HR3.out.ext HX6.out, HXX.out.trans (HX6.out.toB B)⟩

end Go.Proofs.YtpopnmelcplbbaaGreat
