/-
  Tables and their parts, as Lean has them, and the cells that they are in memory. Package table, and the seconds that it asks for. A table in memory.
-/
import Derived.Test.YtpopnmelcplbbaaGreatFunc
set_option linter.unusedVariables false
set_option linter.unusedSimpArgs false
namespace Go.Proofs.YtpopnmelcplbbaaGreat
open Go.RowKit

structure Ph where
  on : Bool
  min : Int
  gap : Int
  max : Int
  top : Int
  step : Int
  yellow : Int
  red : Int
  walk : Int
  blinks : Int
  recall : Int
  lock : Bool
  rest : Bool
  deriving DecidableEq, Inhabited

/-- floats by their bits -/
structure Det where
  phase : Int
  on : Nat
  off : Nat
  delay : Nat
  extend : Nat
  maxOn : Int
  maxOff : Int
  deriving DecidableEq, Inhabited

structure Ra where
  bars : Int
  clear : Int
  dwell : Int
  exit : Int
  delay : Int
  green : Int
  foot : Int
  hold : Int
  stay : Int
  most : Int
  limit : Int
  deriving DecidableEq, Inhabited

structure Bu where
  set : Int
  lock : Int
  deriving DecidableEq, Inhabited

/-- A table: of the eight phases, conflicts, flashes those below 8 count. -/
structure Tab where
  ph : Nat → Ph
  groups : List (List Int × List Int)
  conflict : Nat → Int
  dets : List Det
  rails : List Ra
  buses : List Bu
  extend : Int
  budget : Int
  start : Int
  revert : Int
  least : Int
  flash : Nat → Int
  window : Int
  share : Int

def Ph.cells (x : Ph) : List Value := [.bool x.on, .int .i64 x.min, .int .i64 x.gap, .int .i64 x.max, .int .i64 x.top, .int .i64 x.step, .int .i64 x.yellow, .int .i64 x.red, .int .i64 x.walk, .int .i64 x.blinks, .int .i64 x.recall, .bool x.lock, .bool x.rest]
def Det.cells (x : Det) : List Value := [.int .i64 x.phase, .float .f64 x.on, .float .f64 x.off, .float .f64 x.delay, .float .f64 x.extend, .int .i64 x.maxOn, .int .i64 x.maxOff]
def Ra.cells (x : Ra) : List Value := [.int .i64 x.bars, .int .i64 x.clear, .int .i64 x.dwell, .int .i64 x.exit, .int .i64 x.delay, .int .i64 x.green, .int .i64 x.foot, .int .i64 x.hold, .int .i64 x.stay, .int .i64 x.most, .int .i64 x.limit]
def Bu.cells (x : Bu) : List Value := [.int .i64 x.set, .int .i64 x.lock]

theorem Ph.len (x : Ph) : x.cells.length = 13 := rfl
theorem Det.len (x : Det) : x.cells.length = 7 := rfl
theorem Ra.len (x : Ra) : x.cells.length = 11 := rfl
theorem Bu.len (x : Bu) : x.cells.length = 2 := rfl

/-- A new row of cells. -/
theorem rowIn_new (w : World) (cs : List Value) (t : TypeId) (n : Nat) : RowIn (w.alloc (.cells cs.toArray t)) (.slice (some ⟨w.heap.size, 0, none⟩) n n) n cs :=
  ⟨_, _, rfl, .inr ⟨w.heap.size, 0, rfl, by simp, fun i c h => by rw [World.cell?_alloc_at _ _ _ _ rfl]; simpa using h⟩⟩

theorem rowIn_at (w : World) (cs : List Value) (t : TypeId) (n B : Nat) (hB : B = w.heap.size) : RowIn (w.alloc (.cells cs.toArray t)) (.slice (some ⟨B, 0, none⟩) n n) n cs := by
  subst hB; exact rowIn_new w cs t n

/-! ### Floats -/
def ord (a b : Nat) : Option Ordering := FloatKind.f64.format.order a b
def c1e6 : Nat := 4696837146684686336
def c9999 : Nat := 4652006429231887155
def levelOk (x : Nat) : Bool := ord x 0 == some .gt && (ord x c1e6 == some .lt || ord x c1e6 == some .eq)
def ticksOk (s : Nat) : Bool := (ord s 0 == some .gt || ord s 0 == some .eq) && (ord s c9999 == some .lt || ord s c9999 == some .eq)
def signbit (x : Nat) : Bool := decide (wrap64 (x : Int) < 0)
def secondsOk (s : Nat) : Bool := ticksOk s && !signbit s

theorem run_mul_any (P : Program) (w : World) (t : TypeId) (x y : Nat) : ∃ r w1, (binOp .mul t (.float .f64 x) (.float .f64 y)).run P w = .ok (.float .f64 r) w1 ∧ Ext w w1 := by
  cases h : FloatKind.f64.format.mul x y with
  | some r => exact ⟨r, w, by simp [binOp, Op.floatArith, h], Ext.refl w⟩
  | none =>
    refine ⟨Question.cut (.nanBits .f64 x y) (w.tape w.drawn (.nanBits .f64 x y)), w.drew, ?_, (Ext.refl w).drew⟩
    simp [binOp, Op.floatArith, h, Question.forced]

theorem run_toInt_any (P : Program) (w : World) (x : Nat) : ∃ (n : Int) (w1 : World), (Conv.floatToInt .f64 x .i64).run P w = .ok (.int .i64 n) w1 ∧ Ext w w1 := by
  unfold Conv.floatToInt
  have hany : ∃ (n : Int) (w1 : World), (Sem.run P (do pure (.int .i64 (IntKind.i64.wrap (← choose (.floatToInt .f64 x .i64))))) w : Result Value) = .ok (.int .i64 n) w1 ∧ Ext w w1 :=
    ⟨_, w.drew, by simp [Question.forced]; rfl, (Ext.refl w).drew⟩
  cases h : (FloatKind.f64.decode x).toInt .zero with
  | none => exact hany
  | some n =>
    by_cases hb : IntKind.i64.min ≤ n ∧ n ≤ IntKind.i64.max
    · exact ⟨n, w, by simp only [if_pos hb]; rfl, Ext.refl w⟩
    · simp only [if_neg hb]; exact hany

theorem toIntegral_eq (name : String) (way : Ieee.Toward) (x : Nat) : Extern.MathFloor.toIntegral name way #[.float .f64 x] =
    (match FloatKind.f64.decode x with
    | .nan s t =>
      if FloatKind.f64.format.quiet t = t then pure (.float .f64 x) else do
      let kept ← choose (.extern "math.Floor,Ceil,Trunc,RoundToEven.signallingNaN kept" 2)
      pure (.float .f64 (if kept == 1 then x else FloatKind.f64.encode (.nan s (FloatKind.f64.format.quiet t))))
    | d => pure (.float .f64 (FloatKind.f64.encode (d.integral way)))) := rfl

theorem run_round_any (P : Program) (w : World) (x : Nat) : ∃ (r : Nat) (w1 : World), (Extern.MathFloor.toIntegral "math.RoundToEven" .even #[.float .f64 x]).run P w = .ok (.float .f64 r) w1 ∧ Ext w w1 := by
  rw [toIntegral_eq]
  cases h : FloatKind.f64.decode x with
  | number s m e => exact ⟨_, w, rfl, Ext.refl w⟩
  | infinity s => exact ⟨_, w, rfl, Ext.refl w⟩
  | nan s t =>
    by_cases hq : FloatKind.f64.format.quiet t = t
    · exact ⟨_, w, by simp only [if_pos hq]; rfl, Ext.refl w⟩
    · simp only [if_neg hq]
      exact ⟨_, w.drew, rfl, (Ext.refl w).drew⟩

end Go.Proofs.YtpopnmelcplbbaaGreat
namespace Go.Proofs.YtpopnmelcplbbaaGreat
open Go.RowKit

theorem run_bits (x : Nat) (w : World) : (callFunc 70 #[.float .f64 x]).run Tryz.prog w = .ok (.value (.int .u64 x)) w := by
  rw [run_callFunc_extern (e := Extern.MathFloatBits.float64bits) Tryz.func70 (by kernel_rfl) (by kernel_rfl) (by kernel_rfl) (by kernel_rfl)]
  rfl

theorem run_round (x : Nat) (w : World) : ∃ (r : Nat) (w1 : World), (callFunc 149 #[.float .f64 x]).run Tryz.prog w = .ok (.value (.float .f64 r)) w1 ∧ Ext w w1 := by
  obtain ⟨r, w1, h, hx⟩ := run_round_any Tryz.prog w x
  refine ⟨r, w1, ?_, hx⟩
  rw [run_callFunc_extern (e := Extern.MathFloor.toIntegral "math.RoundToEven" .even) Tryz.func149 (by kernel_rfl) (by kernel_rfl) (by kernel_rfl) (by kernel_rfl), h]
  rfl

theorem Signbit_c (x : Nat) (w : World) : Calls Tryz.prog 141 #[.float .f64 x] w (Ret w (.bool (signbit x))) := by
  have hb := run_bits x
  go_enter Tryz.func141, Tryz.ntmps141
  go_wp2
  go_ret
  exact ⟨rfl, Ext.refl _⟩

set_option maxHeartbeats 400000 in
theorem detector1_c (x : Nat) (w : World) : Calls Tryz.prog 118 #[.float .f64 x] w (Ret w (.bool (levelOk x))) := by
  unfold levelOk ord c1e6
  generalize h1 : (FloatKind.f64.format.order x 0 == some .gt) = b1
  generalize h2 : (FloatKind.f64.format.order x 4696837146684686336 == some .lt || FloatKind.f64.format.order x 4696837146684686336 == some .eq) = b2
  cases b1 with
  | true =>
    go_enter Tryz.func118, Tryz.ntmps118
    go_wp2
    go_ret
    exact ⟨rfl, Ext.refl _⟩
  | false =>
    clear h2
    go_enter Tryz.func118, Tryz.ntmps118
    go_wp2
    go_ret
    exact ⟨rfl, Ext.refl _⟩

theorem run_conv_any (w : World) (x : Nat) : ∃ (n : Int) (w1 : World), (convert 66 3 (.float .f64 x)).run Tryz.prog w = .ok (.int .i64 n) w1 ∧ Ext w w1 := by
  obtain ⟨n, w1, h, hx⟩ := run_toInt_any Tryz.prog w x
  refine ⟨n, w1, ?_, hx⟩
  unfold convert
  rw [Sem.run_bind, run_underlying Tryz.underlying66]
  simp only [Result.andThen]
  rw [Sem.run_bind, run_underlying Tryz.underlying3]
  exact h

set_option maxRecDepth 100000 in
theorem Ticks_c (s : Nat) (w : World) : Calls Tryz.prog 140 #[.float .f64 s] w fun e w' => ∃ n : Int, e = .returned (.tuple #[.int .i64 n, .bool (ticksOk s)]) ∧ Ext w w' := by
  unfold ticksOk ord c9999
  generalize h1 : (FloatKind.f64.format.order s 0 == some .gt || FloatKind.f64.format.order s 0 == some .eq) = b1
  generalize h2 : (FloatKind.f64.format.order s 4652006429231887155 == some .lt || FloatKind.f64.format.order s 4652006429231887155 == some .eq) = b2
  cases b1 with
  | false =>
    clear h2
    go_enter Tryz.func140, Tryz.ntmps140
    go_wp2
    go_ret2
    exact ⟨_, rfl, Ext.refl _⟩
  | true =>
    cases b2 with
    | false =>
      go_enter Tryz.func140, Tryz.ntmps140
      go_wp2
      go_ret2
      exact ⟨_, rfl, Ext.refl _⟩
    | true =>
      obtain ⟨r, w1, hr, hx1⟩ := run_mul_any Tryz.prog w 66 4621819117588971520 s
      obtain ⟨q, w2, hq, hx2⟩ := run_round r w1
      obtain ⟨n, w3, hn, hx3⟩ := run_conv_any w2 q
      have hfin := (hx1.trans hx2).trans hx3
      clear hx1 hx2 hx3
      go_enter Tryz.func140, Tryz.ntmps140
      go_wp2
      go_ret2
      exact ⟨_, rfl, hfin⟩

theorem seconds_c (s : Nat) (w : World) : Calls Tryz.prog 119 #[.float .f64 s] w (Ret w (.bool (secondsOk s))) := by
  unfold secondsOk
  have hc := Ticks_c s w
  generalize ht : ticksOk s = b at hc ⊢
  clear ht
  have hs := Signbit_c s
  generalize hg : signbit s = g at hs ⊢
  clear hg
  have HS := Lib.hid hs; clear hs
  have H := Lib.hid hc; clear hc
  go_enter Tryz.func119, Tryz.ntmps119
  go_wp2_with fail
  refine H.out.mono ?_
  rintro e w1 ⟨n, rfl, hx1⟩
  clear H
  cases b with
  | false =>
    go_wp2
    go_ret
    exact ⟨rfl, hx1⟩
  | true =>
    go_wp2_with (go_at_call 141; refine (HS.out _).mono ?_; rintro e w2 ⟨rfl, hx2⟩)
    go_ret
    exact ⟨by simp, hx1.trans hx2⟩

def phOk (x : Ph) : Bool := [x.min, x.gap, x.max, x.top, x.step, x.yellow, x.red, x.walk, x.blinks].all (inUpto 9999) && [x.recall].all (inUpto 3)

theorem phase_may (x : Ph) (w : World) : Calls Tryz.prog 72 #[.agg x.cells.toArray] w (Ret w (.bool (phOk x))) := by
  unfold phOk Ph.cells
  generalize h1 : [x.min, x.gap, x.max, x.top, x.step, x.yellow, x.red, x.walk, x.blinks].all (inUpto 9999) = b1
  generalize h2 : [x.recall].all (inUpto 3) = b2
  go_enter Tryz.func72, Tryz.ntmps72
  go_wp2_with fail
  refine (times_c _ _ [x.min, x.gap, x.max, x.top, x.step, x.yellow, x.red, x.walk, x.blinks] (by exact rowIn_at _ _ _ _ _ (by simp)) (by simp)).mono ?_
  rw [h1]
  rintro e w1 ⟨rfl, hx1⟩
  have hx := (((Ext.refl w).alloc _).alloc _).trans hx1
  obtain ⟨hc, hf⟩ := hx1.reads
  clear hx1
  cases b1 with
  | false =>
    clear h2
    go_wp2
    go_ret
    exact ⟨rfl, hx⟩
  | true =>
    go_wp2_with fail
    refine (within_c _ _ [x.recall] (by exact rowIn_at _ _ _ _ _ (by simp)) (by simp) _).mono ?_
    rw [h2]
    rintro e w2 ⟨rfl, hx2⟩
    clear h2
    go_wp2
    go_ret
    exact ⟨rfl, (hx.alloc _).trans hx2⟩

end Go.Proofs.YtpopnmelcplbbaaGreat
namespace Go.Proofs.YtpopnmelcplbbaaGreat
open Go.RowKit

def Tab.phs (t : Tab) : List Ph := (List.range 8).map t.ph
def arr8 (f : Nat → Int) : List Int := (List.range 8).map f

def Tab.cells (t : Tab) (gv dv rv bv : Value) : List Value :=
  t.phs.flatMap Ph.cells ++ (gv :: ints (arr8 t.conflict) ++ (dv :: rv :: bv :: .int .i64 t.extend :: .int .i64 t.budget :: .int .i64 t.start :: .int .i64 t.revert :: .int .i64 t.least ::
    ints (arr8 t.flash) ++ [.int .i64 t.window, .int .i64 t.share]))

section
variable (t : Tab) (gv dv rv bv : Value)
theorem Tab.cells_len : (t.cells gv dv rv bv).length = 131 := by
  simp [Tab.cells, Tab.phs, Ph.cells, ints, arr8, List.range_succ]
theorem Tab.c104 : (t.cells gv dv rv bv)[104]? = some gv := rfl
theorem Tab.c113 : (t.cells gv dv rv bv)[113]? = some dv := rfl
theorem Tab.c114 : (t.cells gv dv rv bv)[114]? = some rv := rfl
theorem Tab.c115 : (t.cells gv dv rv bv)[115]? = some bv := rfl
theorem Tab.c116 : (t.cells gv dv rv bv)[116]? = some (.int .i64 t.extend) := rfl
theorem Tab.c117 : (t.cells gv dv rv bv)[117]? = some (.int .i64 t.budget) := rfl
theorem Tab.c118 : (t.cells gv dv rv bv)[118]? = some (.int .i64 t.start) := rfl
theorem Tab.c119 : (t.cells gv dv rv bv)[119]? = some (.int .i64 t.revert) := rfl
theorem Tab.c120 : (t.cells gv dv rv bv)[120]? = some (.int .i64 t.least) := rfl
theorem Tab.c129 : (t.cells gv dv rv bv)[129]? = some (.int .i64 t.window) := rfl
theorem Tab.c130 : (t.cells gv dv rv bv)[130]? = some (.int .i64 t.share) := rfl
theorem Tab.phs_len : t.phs.length = 8 := rfl
theorem Tab.phs_cells_len : (t.phs.flatMap Ph.cells).length = 104 := rfl
theorem Tab.cells_ph (i : Nat) (c : Value) (h : (t.phs.flatMap Ph.cells)[i]? = some c) : (t.cells gv dv rv bv)[i]? = some c := by
  have hi : i < (t.phs.flatMap Ph.cells).length := (List.getElem?_eq_some_iff.1 h).1
  unfold Tab.cells
  rw [List.getElem?_append_left hi]; exact h
theorem Tab.cells_phs (p : Nat) (hp : p < 8) (j : Nat) (c : Value) (h : (t.ph p).cells[j]? = some c) : (t.cells gv dv rv bv)[p * 13 + j]? = some c := by
  refine t.cells_ph gv dv rv bv _ c (flat_get Ph.cells 13 t.phs (fun _ _ => rfl) p (by rw [t.phs_len]; exact hp) j c ?_)
  simpa [Tab.phs] using h
theorem Tab.cells_conf (i : Nat) (c : Value) (h : (ints (arr8 t.conflict))[i]? = some c) : (t.cells gv dv rv bv)[105 + i]? = some c := by
  have hi : i < (ints (arr8 t.conflict)).length := (List.getElem?_eq_some_iff.1 h).1
  unfold Tab.cells
  rw [List.getElem?_append_right (by rw [t.phs_cells_len]; omega), t.phs_cells_len, show 105 + i - 104 = i + 1 by omega, List.cons_append, List.getElem?_cons_succ, List.getElem?_append_left hi]; exact h
theorem Tab.cells_flash (i : Nat) (c : Value) (h : (ints (arr8 t.flash))[i]? = some c) : (t.cells gv dv rv bv)[121 + i]? = some c := by
  have hi : i < (ints (arr8 t.flash)).length := (List.getElem?_eq_some_iff.1 h).1
  unfold Tab.cells
  rw [List.getElem?_append_right (by rw [t.phs_cells_len]; omega), t.phs_cells_len, show 121 + i - 104 = (i + 16) + 1 by omega, List.cons_append, List.getElem?_cons_succ,
    List.getElem?_append_right (by simp [ints, arr8])]
  simp only [ints, arr8, List.length_map, List.length_range]
  rw [show i + 16 - 8 = i + 8 by omega]
  rw [List.cons_append, List.cons_append, List.cons_append, List.cons_append, List.cons_append, List.cons_append, List.cons_append, List.cons_append]
  simp only [List.getElem?_cons_succ]
  rw [List.getElem?_append_left (by simpa [ints, arr8] using hi)]; exact h
theorem arr8_get (f : Nat → Int) (p : Nat) (hp : p < 8) : (ints (arr8 f))[p]? = some (.int .i64 (f p)) := by
  simp [ints, arr8, hp]
theorem Tab.conf_at (p : Nat) (hp : p < 8) : (t.cells gv dv rv bv)[105 + p]? = some (.int .i64 (t.conflict p)) := t.cells_conf _ _ _ _ _ _ (arr8_get _ p hp)
theorem Tab.flash_at (p : Nat) (hp : p < 8) : (t.cells gv dv rv bv)[121 + p]? = some (.int .i64 (t.flash p)) := t.cells_flash _ _ _ _ _ _ (arr8_get _ p hp)
end
attribute [go_sem] Tab.c104 Tab.c113 Tab.c114 Tab.c115 Tab.c116 Tab.c117 Tab.c118 Tab.c119 Tab.c120 Tab.c129 Tab.c130 Tab.conf_at Tab.flash_at
attribute [irreducible] Tab.cells

/-- A group as it lies: its rows' values, and what they hold. -/
structure GV where
  a : Value
  b : Value
  l : List Int
  r : List Int
def GV.cells (g : GV) : List Value := [g.a, g.b]
def GV.g (g : GV) : List Int × List Int := (g.l, g.r)
def GV.ok (w : World) (g : GV) : Prop := RowIn w g.a g.l.length (ints g.l) ∧ RowIn w g.b g.r.length (ints g.r) ∧ g.l.length ≤ 1000 ∧ g.r.length ≤ 1000
theorem GV.ok.ext {w w' : World} {g : GV} (h : g.ok w) (e : Ext w w') : g.ok w' := ⟨h.1.ext e, h.2.1.ext e, h.2.2⟩

def GroupsIn (w : World) (v : Value) (gs : List (List Int × List Int)) : Prop :=
  ∃ gvs : List GV, gs = gvs.map GV.g ∧ RowIn w v gvs.length (gvs.flatMap GV.cells) ∧ ∀ g ∈ gvs, g.ok w
theorem GroupsIn.ext {w w' : World} {v : Value} {gs : List (List Int × List Int)} (h : GroupsIn w v gs) (e : Ext w w') : GroupsIn w' v gs := by
  obtain ⟨gvs, h1, h2, h3⟩ := h
  exact ⟨gvs, h1, h2.ext e, fun g hg => (h3 g hg).ext e⟩

/-- What a table's value is, part by part. -/
structure TabAt (w : World) (gv dv rv bv : Value) (t : Tab) : Prop where
  g : GroupsIn w gv t.groups
  d : RowIn w dv t.dets.length (t.dets.flatMap Det.cells)
  r : RowIn w rv t.rails.length (t.rails.flatMap Ra.cells)
  b : RowIn w bv t.buses.length (t.buses.flatMap Bu.cells)
  gl : t.groups.length ≤ 1000
  dl : t.dets.length ≤ 1000
  rl : t.rails.length ≤ 1000
  bl : t.buses.length ≤ 1000
theorem TabAt.ext {w w' : World} {gv dv rv bv : Value} {t : Tab} (h : TabAt w gv dv rv bv t) (e : Ext w w') : TabAt w' gv dv rv bv t :=
  ⟨h.g.ext e, h.d.ext e, h.r.ext e, h.b.ext e, h.gl, h.dl, h.rl, h.bl⟩

def tabV (t : Tab) (gv dv rv bv : Value) : Value := .agg (t.cells gv dv rv bv).toArray

end Go.Proofs.YtpopnmelcplbbaaGreat
