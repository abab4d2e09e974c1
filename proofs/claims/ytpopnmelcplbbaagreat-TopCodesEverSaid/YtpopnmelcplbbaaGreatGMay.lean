/-
  table.May: is a table within its ranges? table.May of a whole table.
-/
import Derived.Test.YtpopnmelcplbbaaGreatGTables
set_option linter.unusedVariables false
set_option linter.unusedSimpArgs false
namespace Go.Proofs.YtpopnmelcplbbaaGreat
open Go.RowKit

/-! ### group -/
def rowOk (l : List Int) : Bool := decide ((l.length : Int) ≤ 8) && l.all (inUpto 7)
def grOk (g : List Int × List Int) : Bool := rowOk g.1 && rowOk g.2

theorem group11_c (p : Int) (w : World) : Calls Tryz.prog 114 #[.int .i64 p] w (Ret w (.bool (inUpto 7 p))) := by
  go_enter Tryz.func114, Tryz.ntmps114
  go_wp2_with fail
  refine (within_c _ _ [p] (by exact rowIn_at _ _ _ _ _ (by first | rfl | simp)) (by simp) _).mono ?_
  rintro e w1 ⟨rfl, hx1⟩
  go_wp2
  go_ret
  exact ⟨by simp, ((Ext.refl w).alloc _).trans hx1⟩

theorem group1_c (w : World) (sv : Value) (xs : List Int) (hs : RowIn w sv xs.length (ints xs)) (hlen : xs.length ≤ 1000) :
    Calls Tryz.prog 112 #[sv] w (Ret w (.bool (rowOk xs))) := by
  have he : Enters 114 := fun args w => by kernel_rfl
  have hc := every_int w sv xs hs (by omega) 8 114 #[] he (inUpto 7) (fun x _ w1 _ => group11_c x w1)
  obtain ⟨a, cp, rfl, _⟩ := hs
  have H := Lib.hid hc; clear hc he
  go_enter Tryz.func112, Tryz.ntmps112
  go_wp2_with fail
  refine H.out.mono ?_
  rintro e w1 ⟨rfl, hx⟩
  clear H
  go_wp2
  go_ret
  exact ⟨rfl, hx⟩

theorem group_c (w : World) (g : GV) (h : g.ok w) : Calls Tryz.prog 74 #[.agg g.cells.toArray] w (Ret w (.bool (grOk g.g))) := by
  have hx0 := (Ext.refl w).alloc (.cells #[g.a, g.b] 65)
  have h1 := h.ext hx0
  have hc1 := group1_c _ g.a g.l h1.1 h1.2.2.1
  unfold GV.cells grOk GV.g
  dsimp only
  generalize hb1 : rowOk g.l = b1 at hc1 ⊢
  have H1 := Lib.hid hc1; clear hc1
  have hl1 : ∃ (a : Option Addr) (n cp : Nat), g.a = .slice a n cp := by obtain ⟨⟨a, cp, h, _⟩, _⟩ := h; exact ⟨a, _, cp, h⟩
  obtain ⟨a1, n1, cp1, ha⟩ := hl1
  have hl2 : ∃ (a : Option Addr) (n cp : Nat), g.b = .slice a n cp := by obtain ⟨_, ⟨a, cp, h, _⟩, _⟩ := h; exact ⟨a, _, cp, h⟩
  obtain ⟨a2, n2, cp2, hb⟩ := hl2
  have HH := Lib.hid h1; clear h1 h
  rw [ha, hb] at H1 HH
  rw [ha, hb]
  have HA := Lib.hid ha; clear ha
  have HB := Lib.hid hb; clear hb
  clear hx0
  go_enter Tryz.func74, Tryz.ntmps74
  go_wp2_with fail
  refine H1.out.mono ?_
  rintro e w1 ⟨rfl, hx1⟩
  clear H1
  have hx := ((Ext.refl w).alloc _).trans hx1
  obtain ⟨hc, hf⟩ := hx1.reads
  cases b1 with
  | false =>
    clear HH
    go_wp2
    go_ret
    exact ⟨by simp, hx⟩
  | true =>
    have h2 := HH.out.ext hx1
    have hc2 := group1_c _ g.b g.r h2.2.1 h2.2.2.2
    rw [HB.out] at hc2
    clear h2 HH hx1
    generalize hb2 : rowOk g.r = b2 at hc2 ⊢
    have H2 := Lib.hid hc2; clear hc2
    go_wp2_with fail
    refine H2.out.mono ?_
    rintro e w2 ⟨rfl, hx2⟩
    clear H2
    go_wp2
    go_ret
    exact ⟨by simp [hb2], hx.trans hx2⟩

/-! ### bus, rail, detector -/
def buOk (x : Bu) : Bool := [x.set].all (inUpto 255) && [x.lock].all (inUpto 9999)

theorem bus_may (x : Bu) (w : World) : Calls Tryz.prog 81 #[.agg x.cells.toArray] w (Ret w (.bool (buOk x))) := by
  unfold buOk Bu.cells
  generalize h1 : [x.set].all (inUpto 255) = b1
  generalize h2 : [x.lock].all (inUpto 9999) = b2
  go_enter Tryz.func81, Tryz.ntmps81
  go_wp2_with fail
  refine (within_c _ _ [x.set] (by exact rowIn_at _ _ _ _ _ (by first | rfl | simp)) (by simp) _).mono ?_
  rw [h1]
  rintro e w1 ⟨rfl, hx1⟩
  have hx := (((Ext.refl w).alloc _).alloc _).trans hx1
  have hz1 : w.heap.size < w1.heap.size := by have := hx1.size; simp at this; omega
  obtain ⟨hc, hf⟩ := hx1.reads
  clear hx1 h1
  cases b1 with
  | false =>
    clear h2
    go_wp2
    go_ret
    exact ⟨by simp, hx⟩
  | true =>
    go_wp2_with fail
    refine (times_c _ _ [x.lock] (by exact rowIn_at _ _ _ _ _ (by first | rfl | simp)) (by simp)).mono ?_
    rw [h2]
    rintro e w2 ⟨rfl, hx2⟩
    clear h2
    go_wp2
    go_ret
    exact ⟨by simp, (hx.alloc _).trans hx2⟩

def raOk (x : Ra) : Bool := [x.bars, x.clear, x.dwell, x.exit].all (inUpto 255) && [x.delay, x.green, x.foot, x.hold, x.stay, x.most].all (inUpto 9999) && [x.limit].all (inUpto 2147483647)

theorem rail_may (x : Ra) (w : World) : Calls Tryz.prog 79 #[.agg x.cells.toArray] w (Ret w (.bool (raOk x))) := by
  unfold raOk Ra.cells
  generalize h1 : [x.bars, x.clear, x.dwell, x.exit].all (inUpto 255) = b1
  generalize h2 : [x.delay, x.green, x.foot, x.hold, x.stay, x.most].all (inUpto 9999) = b2
  generalize h3 : [x.limit].all (inUpto 2147483647) = b3
  go_enter Tryz.func79, Tryz.ntmps79
  go_wp2_with fail
  refine (within_c _ _ [x.bars, x.clear, x.dwell, x.exit] (by exact rowIn_at _ _ _ _ _ (by first | rfl | simp)) (by simp) _).mono ?_
  rw [h1]
  rintro e w1 ⟨rfl, hx1⟩
  have hx := (((Ext.refl w).alloc _).alloc _).trans hx1
  have hz1 : w.heap.size < w1.heap.size := by have := hx1.size; simp at this; omega
  obtain ⟨hc, hf⟩ := hx1.reads
  clear hx1 h1
  cases b1 with
  | false =>
    clear h2 h3
    go_wp2
    go_ret
    exact ⟨by simp, hx⟩
  | true =>
    go_wp2_with fail
    refine (times_c _ _ [x.delay, x.green, x.foot, x.hold, x.stay, x.most] (by exact rowIn_at _ _ _ _ _ (by first | rfl | simp)) (by simp)).mono ?_
    rw [h2]
    rintro e w2 ⟨rfl, hx2⟩
    have hxx := (hx.alloc _).trans hx2
    have hz2 : w.heap.size < w2.heap.size := by have := hx2.size; simp at this; omega
    obtain ⟨hc2, hf2⟩ := hx2.reads
    clear hx2 h2
    cases b2 with
    | false =>
      clear h3
      go_wp2
      go_ret
      exact ⟨by simp, hxx⟩
    | true =>
      go_wp2_with fail
      refine (within_c _ _ [x.limit] (by exact rowIn_at _ _ _ _ _ (by first | rfl | simp)) (by simp) _).mono ?_
      rw [h3]
      rintro e w3 ⟨rfl, hx3⟩
      clear h3
      go_wp2
      go_ret
      exact ⟨by simp, (hxx.alloc _).trans hx3⟩

def deOk (x : Det) : Bool := [x.phase].all (inUpto 7) && levelOk x.on && levelOk x.off && secondsOk x.delay && secondsOk x.extend && [x.maxOn, x.maxOff].all (inUpto 9999)

set_option maxHeartbeats 800000 in
theorem detector_may (x : Det) (w : World) : Calls Tryz.prog 77 #[.agg x.cells.toArray] w (Ret w (.bool (deOk x))) := by
  unfold deOk Det.cells
  generalize h1 : [x.phase].all (inUpto 7) = b1
  have c2 := detector1_c x.on
  generalize levelOk x.on = b2 at c2 ⊢
  have c3 := detector1_c x.off
  generalize levelOk x.off = b3 at c3 ⊢
  have c4 := seconds_c x.delay
  generalize secondsOk x.delay = b4 at c4 ⊢
  have c5 := seconds_c x.extend
  generalize secondsOk x.extend = b5 at c5 ⊢
  generalize h6 : [x.maxOn, x.maxOff].all (inUpto 9999) = b6
  have C2 := Lib.hid c2; clear c2
  have C3 := Lib.hid c3; clear c3
  have C4 := Lib.hid c4; clear c4
  have C5 := Lib.hid c5; clear c5
  go_enter Tryz.func77, Tryz.ntmps77
  go_wp2_with fail
  refine (within_c _ _ [x.phase] (by exact rowIn_at _ _ _ _ _ (by first | rfl | simp)) (by simp) _).mono ?_
  rw [h1]
  rintro e w1 ⟨rfl, hx1⟩
  have hx := (((Ext.refl w).alloc _).alloc _).trans hx1
  have hz1 : w.heap.size < w1.heap.size := by have := hx1.size; simp at this; omega
  obtain ⟨hc, hf⟩ := hx1.reads
  clear hx1 h1
  cases b1 with
  | false =>
    clear h6
    go_wp2
    go_ret
    exact ⟨by simp, hx⟩
  | true =>
    go_wp2_with fail
    refine (C2.out _).mono ?_
    rintro e w2 ⟨rfl, hx1⟩
    have hz2 : w.heap.size < w2.heap.size := by have := hx1.size; omega
    replace hx := hx.trans hx1
    obtain ⟨hc2, hf2⟩ := hx1.reads
    clear hx1 C2
    cases b2 with
    | false =>
      clear h6
      go_wp2
      go_ret
      exact ⟨by simp, hx⟩
    | true =>
      go_wp2_with fail
      refine (C3.out _).mono ?_
      rintro e w3 ⟨rfl, hx1⟩
      have hz3 : w.heap.size < w3.heap.size := by have := hx1.size; omega
      replace hx := hx.trans hx1
      obtain ⟨hc3, hf3⟩ := hx1.reads
      clear hx1 C3
      cases b3 with
      | false =>
        clear h6
        go_wp2
        go_ret
        exact ⟨by simp, hx⟩
      | true =>
        go_wp2_with fail
        refine (C4.out _).mono ?_
        rintro e w4 ⟨rfl, hx1⟩
        have hz4 : w.heap.size < w4.heap.size := by have := hx1.size; omega
        replace hx := hx.trans hx1
        obtain ⟨hc4, hf4⟩ := hx1.reads
        clear hx1 C4
        cases b4 with
        | false =>
          clear h6
          go_wp2
          go_ret
          exact ⟨by simp, hx⟩
        | true =>
          go_wp2_with fail
          refine (C5.out _).mono ?_
          rintro e w5 ⟨rfl, hx1⟩
          have hz5 : w.heap.size < w5.heap.size := by have := hx1.size; omega
          replace hx := hx.trans hx1
          obtain ⟨hc5, hf5⟩ := hx1.reads
          clear hx1 C5
          cases b5 with
          | false =>
            clear h6
            go_wp2
            go_ret
            exact ⟨by simp, hx⟩
          | true =>
            go_wp2_with fail
            refine (times_c _ _ [x.maxOn, x.maxOff] (by exact rowIn_at _ _ _ _ _ (by first | rfl | simp)) (by simp)).mono ?_
            rw [h6]
            rintro e w6 ⟨rfl, hx6⟩
            clear h6
            go_wp2
            go_ret
            exact ⟨by simp, (hx.alloc _).trans hx6⟩

end Go.Proofs.YtpopnmelcplbbaaGreat
namespace Go.Proofs.YtpopnmelcplbbaaGreat
open Go.RowKit

def mayOk (t : Tab) : Bool :=
  (decide ((t.phs.length : Int) ≤ 8) && t.phs.all phOk) && (decide ((t.groups.length : Int) ≤ 4) && t.groups.all grOk) && (arr8 t.conflict).all (inUpto 255) &&
  (decide ((t.dets.length : Int) ≤ 16) && t.dets.all deOk) && (decide ((t.rails.length : Int) ≤ 4) && t.rails.all raOk) && (decide ((t.buses.length : Int) ≤ 4) && t.buses.all buOk) &&
  [t.extend, t.budget, t.start, t.revert, t.least].all (inUpto 9999) && (arr8 t.flash).all (inUpto 2) && [t.window, t.share].all (inUpto 2147483647)

/-- A piece of a box as a row. -/
theorem rowIn_piece (W : World) (B off n cap : Nat) (cs : List Value) (hB : B < W.heap.size) (h : ∀ i c, cs[i]? = some c → W.cell? ⟨B, off + i, none⟩ = some c) :
    RowIn W (.slice (some ⟨B, off, none⟩) n cap) n cs := ⟨_, _, rfl, .inr ⟨B, off, rfl, hB, h⟩⟩

theorem groups_c (w : World) (gv : Value) (gs : List (List Int × List Int)) (h : GroupsIn w gv gs) (hl : gs.length ≤ 1000) (most : Int) :
    Calls Tryz.prog 73 #[gv, .int .i64 most, .func (.func 74) #[] #[]] w (Ret w (.bool (decide ((gs.length : Int) ≤ most) && gs.all grOk))) := by
  obtain ⟨gvs, rfl, hr, hg⟩ := h
  have he : Enters 74 := fun args w => by kernel_rfl
  have hc := every_Group GV.cells w gv gvs hr (fun _ _ => rfl) (by simp at hl; omega) most 74 #[] he (fun g => grOk g.g) (fun x hx w1 h1 => group_c w1 x ((hg x hx).ext h1))
  simpa [List.all_map, Function.comp_def] using hc

set_option maxHeartbeats 2000000 in
theorem May_c (w : World) (gv dv rv bv : Value) (t : Tab) (hT : TabAt w gv dv rv bv t) : Calls Tryz.prog 24 #[tabV t gv dv rv bv] w (Ret w (.bool (mayOk t))) := by
  unfold tabV mayOk
  have e1 : Enters 72 := fun args w => by kernel_rfl
  have e3 : Enters 77 := fun args w => by kernel_rfl
  have e4 : Enters 79 := fun args w => by kernel_rfl
  have e5 : Enters 81 := fun args w => by kernel_rfl
  have hbox : ∀ w1, Ext (w.alloc (.cells (t.cells gv dv rv bv).toArray 34)) w1 → ∀ i c, (t.cells gv dv rv bv)[i]? = some c → w1.cell? ⟨w.heap.size, i, none⟩ = some c := fun w1 h1 i c hi =>
    (h1.cell (p := ⟨w.heap.size, i, none⟩) (by simp)).trans (by rw [World.cell?_alloc_at _ _ _ _ rfl]; simpa using hi)
  have c1 : ∀ w1, Ext (w.alloc (.cells (t.cells gv dv rv bv).toArray 34)) w1 → _ := fun w1 h1 =>
    every_Phase Ph.cells w1 (.slice (some ⟨w.heap.size, 0, none⟩) 8 8) t.phs (rowIn_piece w1 w.heap.size 0 8 8 _ (Nat.lt_of_lt_of_le (by simp) h1.size) (fun i c hi => by rw [Nat.zero_add]; exact hbox w1 h1 i c (t.cells_ph gv dv rv bv i c hi))) (fun _ _ => rfl) (by rw [t.phs_len]; omega) 8 72 #[] e1 phOk (fun x _ w2 _ => phase_may x w2)
  generalize hb1 : (decide ((t.phs.length : Int) ≤ 8) && t.phs.all phOk) = b1 at c1
  have hw : Ext w (w.alloc (.cells (t.cells gv dv rv bv).toArray 34)) := (Ext.refl w).alloc _
  have c2 : ∀ w1, Ext (w.alloc (.cells (t.cells gv dv rv bv).toArray 34)) w1 → _ := fun w1 h1 => groups_c w1 gv t.groups ((hT.g.ext hw).ext h1) hT.gl 4
  generalize hb2 : (decide ((t.groups.length : Int) ≤ 4) && t.groups.all grOk) = b2 at c2
  have c3 : ∀ w1, Ext (w.alloc (.cells (t.cells gv dv rv bv).toArray 34)) w1 → _ := fun w1 h1 =>
    within_c w1 (.slice (some ⟨w.heap.size, 105, none⟩) 8 8) (arr8 t.conflict) (rowIn_piece w1 w.heap.size 105 8 8 _ (Nat.lt_of_lt_of_le (by simp) h1.size) (fun i c hi => hbox w1 h1 _ c (t.cells_conf gv dv rv bv i c hi))) (by simp [arr8]) 255
  generalize hb3 : (arr8 t.conflict).all (inUpto 255) = b3 at c3
  have c4 : ∀ w1, Ext (w.alloc (.cells (t.cells gv dv rv bv).toArray 34)) w1 → _ := fun w1 h1 =>
    every_Det Det.cells w1 dv t.dets ((hT.d.ext hw).ext h1) (fun _ _ => rfl) (by have := hT.dl; omega) 16 77 #[] e3 deOk (fun x _ w2 _ => detector_may x w2)
  generalize hb4 : (decide ((t.dets.length : Int) ≤ 16) && t.dets.all deOk) = b4 at c4
  have c5 : ∀ w1, Ext (w.alloc (.cells (t.cells gv dv rv bv).toArray 34)) w1 → _ := fun w1 h1 =>
    every_Rail Ra.cells w1 rv t.rails ((hT.r.ext hw).ext h1) (fun _ _ => rfl) (by have := hT.rl; omega) 4 79 #[] e4 raOk (fun x _ w2 _ => rail_may x w2)
  generalize hb5 : (decide ((t.rails.length : Int) ≤ 4) && t.rails.all raOk) = b5 at c5
  have c6 : ∀ w1, Ext (w.alloc (.cells (t.cells gv dv rv bv).toArray 34)) w1 → _ := fun w1 h1 =>
    every_Bus Bu.cells w1 bv t.buses ((hT.b.ext hw).ext h1) (fun _ _ => rfl) (by have := hT.bl; omega) 4 81 #[] e5 buOk (fun x _ w2 _ => bus_may x w2)
  generalize hb6 : (decide ((t.buses.length : Int) ≤ 4) && t.buses.all buOk) = b6 at c6
  generalize hb7 : [t.extend, t.budget, t.start, t.revert, t.least].all (inUpto 9999) = b7
  have c8 : ∀ w1, Ext (w.alloc (.cells (t.cells gv dv rv bv).toArray 34)) w1 → _ := fun w1 h1 =>
    within_c w1 (.slice (some ⟨w.heap.size, 121, none⟩) 8 8) (arr8 t.flash) (rowIn_piece w1 w.heap.size 121 8 8 _ (Nat.lt_of_lt_of_le (by simp) h1.size) (fun i c hi => hbox w1 h1 _ c (t.cells_flash gv dv rv bv i c hi))) (by simp [arr8]) 2
  generalize hb8 : (arr8 t.flash).all (inUpto 2) = b8 at c8
  generalize hb9 : [t.window, t.share].all (inUpto 2147483647) = b9
  clear hb1 hb2 hb3 hb4 hb5 hb6 hb8 hT hbox e1 e3 e4 e5
  have C1 := Lib.hid c1; clear c1
  have C2 := Lib.hid c2; clear c2
  have C3 := Lib.hid c3; clear c3
  have C4 := Lib.hid c4; clear c4
  have C5 := Lib.hid c5; clear c5
  have C6 := Lib.hid c6; clear c6
  have C8 := Lib.hid c8; clear c8
  have HB7 := Lib.hid hb7; clear hb7
  have HB9 := Lib.hid hb9; clear hb9
  go_enter Tryz.func24, Tryz.ntmps24
  go_wp2_with fail
  refine (C1.out _ (Ext.refl _)).mono ?_
  rintro e w1 ⟨rfl, hx⟩
  obtain ⟨hc, hf⟩ := hx.reads
  cases b1
  · go_wp2
    go_ret
    exact ⟨by simp, hw.trans hx⟩
  go_wp2_with fail
  refine (C2.out _ hx).mono ?_
  rintro e w2 ⟨rfl, h1⟩
  replace hx := hx.trans h1
  clear h1 hc hf
  obtain ⟨hc, hf⟩ := hx.reads
  cases b2
  · go_wp2
    go_ret
    exact ⟨by simp, hw.trans hx⟩
  go_wp2_with fail
  refine (C3.out _ hx).mono ?_
  rintro e w3 ⟨rfl, h1⟩
  replace hx := hx.trans h1
  clear h1 hc hf
  obtain ⟨hc, hf⟩ := hx.reads
  cases b3
  · go_wp2
    go_ret
    exact ⟨by simp, hw.trans hx⟩
  go_wp2_with fail
  refine (C4.out _ hx).mono ?_
  rintro e w4 ⟨rfl, h1⟩
  replace hx := hx.trans h1
  clear h1 hc hf
  obtain ⟨hc, hf⟩ := hx.reads
  cases b4
  · go_wp2
    go_ret
    exact ⟨by simp, hw.trans hx⟩
  go_wp2_with fail
  refine (C5.out _ hx).mono ?_
  rintro e w5 ⟨rfl, h1⟩
  replace hx := hx.trans h1
  clear h1 hc hf
  obtain ⟨hc, hf⟩ := hx.reads
  cases b5
  · go_wp2
    go_ret
    exact ⟨by simp, hw.trans hx⟩
  go_wp2_with fail
  refine (C6.out _ hx).mono ?_
  rintro e w6 ⟨rfl, h1⟩
  replace hx := hx.trans h1
  clear h1 hc hf
  obtain ⟨hc, hf⟩ := hx.reads
  cases b6
  · go_wp2
    go_ret
    exact ⟨by simp, hw.trans hx⟩
  go_wp2_with fail
  refine (times_c _ _ [t.extend, t.budget, t.start, t.revert, t.least] (by exact rowIn_at _ _ _ _ _ (by first | rfl | simp)) (by simp)).mono ?_
  rw [HB7.out]
  rintro e w7 ⟨rfl, h1⟩
  replace hx := (hx.alloc _).trans h1
  clear h1 hc hf
  obtain ⟨hc, hf⟩ := hx.reads
  cases b7
  · go_wp2
    go_ret
    exact ⟨by simp, hw.trans hx⟩
  go_wp2_with fail
  refine (C8.out _ hx).mono ?_
  rintro e w8 ⟨rfl, h1⟩
  replace hx := hx.trans h1
  clear h1 hc hf
  obtain ⟨hc, hf⟩ := hx.reads
  cases b8
  · go_wp2
    go_ret
    exact ⟨by simp, hw.trans hx⟩
  go_wp2_with fail
  refine (within_c _ _ [t.window, t.share] (by exact rowIn_at _ _ _ _ _ (by first | rfl | simp)) (by simp) _).mono ?_
  rw [HB9.out]
  rintro e w9 ⟨rfl, h1⟩
  replace hx := (hx.alloc _).trans h1
  clear h1 hc hf
  obtain ⟨hc, hf⟩ := hx.reads
  go_wp2
  go_ret
  exact ⟨by simp, hw.trans hx⟩

end Go.Proofs.YtpopnmelcplbbaaGreat
