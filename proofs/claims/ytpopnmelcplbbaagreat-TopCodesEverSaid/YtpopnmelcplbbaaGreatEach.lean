/-
  set.Each: the phases of a set, rising; and the laws of a loop over them.
-/
import Derived.RangeFuncNested
import Derived.RangeFuncBound
import Derived.RangeFuncCalls
import Derived.RangeFuncLeaves
import Derived.Shelf.Abstract
import Derived.Shelf.RegionOpen
import Derived.OwnWalkIn
import Derived.TacticsInMore
import Derived.LoopNIn
import Derived.LoopIn
import Derived.Deep.MidRow
import Derived.Test.YtpopnmelcplbbaaGreatGBase
set_option linter.unusedVariables false
set_option linter.unusedSimpArgs false
namespace Go.Proofs.YtpopnmelcplbbaaGreat
open Go.RowKit Go.Shelf

attribute [local go_sem] Oper.semAt_some

/-! ### loads of whole rows, inside a fence and under a guard -/
section
variable {F : Fence} {n : Nat} {P : Program} {ops : Array Oper} {rest : List Oper} {op : Oper} {a : Act} {w : World} {Q : Exit → Act → World → Prop}
theorem atLoadIn (ty : TypeId) {x : Operand} (_ho : op.op = .load ty x) (h : wpListIn F n P ops Q (op :: rest) a w) : wpListIn F n P ops Q (op :: rest) a w := h
theorem wpListIn_loadG (ty : TypeId) (x : Operand) (ho : op.op = .load ty x) (hw : Region.wanted op (yielded ops a.tmps) = true) (b o : Nat) (hx : a.eval x = .pointer (some ⟨b, o, none⟩)) (cs : List Value) (d : TypeDesc) (hc : w.rangeAt b o cs)
    (hu : P.underlying ty = some d) (hd : d.isRow = true) (hi : (P.info? ty).map (·.size) = some cs.length)
    (h : wpListIn F n P ops Q rest (a.put op.dst (.agg cs.toArray)) w) : wpListIn F n P ops Q (op :: rest) a w := by
  refine wpListIn_step fun K hK => ?_
  rw [if_pos hw]
  unfold Oper.wpIn
  refine ⟨fun f hf => by simp [Oper.about, ho] at hf, ?_⟩
  rw [Oper.semAt_eq _ _ _ (by simp [ho])]
  unfold execOp
  simp only [ho, hx, Sem.run_bind, run_loadAt_mid w b o ty cs d hc hu hd hi, Result.andThen_ok]
  exact hK _ _ h
theorem atLoadOp {K : Act → World → Prop} (ty : TypeId) {x : Operand} (_ho : op.op = .load ty x) (h : op.wpIn F n P a w K Q) : op.wpIn F n P a w K Q := h
theorem wpIn_loadM {K : Act → World → Prop} (ty : TypeId) (x : Operand) (ho : op.op = .load ty x) (b o : Nat) (hx : a.eval x = .pointer (some ⟨b, o, none⟩)) (cs : List Value) (d : TypeDesc) (hc : w.rangeAt b o cs)
    (hu : P.underlying ty = some d) (hd : d.isRow = true) (hi : (P.info? ty).map (·.size) = some cs.length)
    (h : K (a.put op.dst (.agg cs.toArray)) w) : op.wpIn F n P a w K Q := by
  unfold Oper.wpIn
  refine ⟨fun f hf => by simp [Oper.about, ho] at hf, ?_⟩
  rw [Oper.semAt_eq _ _ _ (by simp [ho])]
  unfold execOp
  simp only [ho, hx, Sem.run_bind, run_loadAt_mid w b o ty cs d hc hu hd hi, Result.andThen_ok]
  exact h
theorem wpList_loadG (ty : TypeId) (x : Operand) (ho : op.op = .load ty x) (hw : Region.wanted op (yielded ops a.tmps) = true) (b o : Nat) (hx : a.eval x = .pointer (some ⟨b, o, none⟩)) (cs : List Value) (d : TypeDesc) (hc : w.rangeAt b o cs)
    (hu : P.underlying ty = some d) (hd : d.isRow = true) (hi : (P.info? ty).map (·.size) = some cs.length)
    (h : wpList P ops Q rest (a.put op.dst (.agg cs.toArray)) w) : wpList P ops Q (op :: rest) a w := by
  refine wpList_step fun K hK => ?_
  rw [if_pos hw]
  unfold Oper.wp
  unfold execOp
  simp only [ho, hx, Sem.run_bind, run_loadAt_mid w b o ty cs d hc hu hd hi, Result.andThen_ok]
  exact hK _ _ h
end

def eachU (s : Int) (k : Nat) : List (Fin 8) := ((List.finRange 8).take k).filter fun x => has s (x.val : Int)
def eachL (s : Int) : List (Fin 8) := (List.finRange 8).filter fun x => has s (x.val : Int)
theorem eachU_all (s : Int) : eachU s 8 = eachL s := by unfold eachU eachL; rw [List.take_of_length_le (by simp)]
theorem eachU_pre (s : Int) (k : Nat) : eachU s k <+: eachL s := (List.take_prefix k _).filter _
theorem eachU_len (s : Int) (k : Nat) : (eachU s k).length ≤ k := by
  unfold eachU
  exact Nat.le_trans (List.length_filter_le _ _) (List.length_take_le _ _)
theorem eachU_succ (s : Int) (k : Nat) (hk : k < 8) : eachU s (k + 1) = eachU s k ++ if has s (k : Int) then [⟨k, hk⟩] else [] := by
  unfold eachU
  rw [List.take_succ_eq_append_getElem (by simpa using hk), List.filter_append]
  simp [List.filter_cons]

theorem eachU_yes (s : Int) (k : Nat) (hk : k < 8) (h : has s (k : Int) = true) : eachU s (k + 1) = eachU s k ++ [⟨k, hk⟩] := by rw [eachU_succ s k hk, if_pos h]
theorem eachU_no (s : Int) (k : Nat) (hk : k < 8) (h : has s (k : Int) = false) : eachU s (k + 1) = eachU s k := by rw [eachU_succ s k hk, h]; simp

/-- the block that a set's value captured -/
def seqKp (bB : Nat) (W W' : World) : Prop := W'.cell? ⟨bB, 0, none⟩ = W.cell? ⟨bB, 0, none⟩

theorem Each_c (s : Int) (w : World) : Calls Tryz.prog 30 #[.int .i64 s] w fun e w' => e = .returned (.func (.func 85) #[] #[.pointer (some ⟨w.heap.size, 0, none⟩)]) ∧ w' = w.alloc (.cells #[.int .i64 s] 3) := by
  go_enter Tryz.func30, Tryz.ntmps30
  go_wp2
  go_ret
  exact ⟨rfl, rfl⟩

set_option maxRecDepth 100000 in
set_option maxHeartbeats 1000000 in
theorem each1_in (n : Nat) (hn : 1 ≤ n) (l bB : Nat) (s : Int) (J Jx : List (Fin 8) → World → Prop)
    (hY : ∀ pre x W, J pre W → pre.length < 8 → YieldAt Fence.wide (n - 1) Tryz.prog l #[.int .i64 ((x : Fin 8).val : Int)] W fun e W' =>
      (e = .returned (.bool true) ∧ J (pre ++ [x]) W' ∧ seqKp bB W W') ∨ (e = .returned (.bool false) ∧ Jx (pre ++ [x]) W'))
    (W : World) (hB : W.cell? ⟨bB, 0, none⟩ = some (.int .i64 s)) (h0 : J [] W) :
    CallsIn Fence.wide n Tryz.prog 85 #[.func (.yield l) #[] #[], .pointer (some ⟨bB, 0, none⟩)] W fun e W' => (∃ v, e = .returned v) ∧
      ((∃ ys, ys = eachL s ∧ J ys W') ∨ (∃ pre, pre <+: eachL s ∧ Jx pre W')) := by
  refine callsIn_of_wp Tryz.func85 rfl trivial ?_ rfl
  simp only [Tryz.ntmps85, List.size_toArray, List.length_cons, List.length_nil, Nat.reduceAdd, Nat.reduceSub, Array.replicate_succ, Array.replicate_zero, List.push_toArray, List.append_toArray, List.nil_append, List.cons_append]
  gi_wp2
  gi_loopw [3, 4] (fun _ i wr => ∃ k : Nat, k ≤ 8 ∧ i = .int .i64 k ∧ wr.cell? ⟨bB, 0, none⟩ = some (.int .i64 s) ∧ J (eachU s k) wr)
    (fun _ i _ => 8 - (intOf i).toNat)
  case atStart => exact ⟨0, by omega, rfl, hB, h0⟩
  case round =>
    obtain ⟨k, hk, rfl, hc, hJ⟩ := hrel
    by_cases hlt : k < 8
    · have hlen := eachU_len s k
      by_cases hhas : has s (k : Int) = true
      · obtain ⟨fn, tmps, assign, body, hy, hR⟩ := hY (eachU s k) ⟨k, hlt⟩ wr hJ (by omega)
        dsimp only at hy
        have hcH := callsIn_wide (n := n - 1) |>.2 (Has_c s (k : Int) wr)
        rw [hhas] at hcH
        have HS := Lib.hid (eachU_yes s k hlt hhas)
        have HC := Lib.hid hcH; clear hcH
        clear hY h0 hB hlen hhas
        gi_wp2_with (refine ⟨trivial, ?_⟩; gi_at_call 39; refine HC.out.mono ?_; rintro e w' ⟨rfl, rfl⟩)
        refine hR.mono ?_
        rintro e W3 (⟨rfl, hJ3, hk3⟩ | ⟨rfl, hJx3⟩)
        · have hc3 := hk3.trans hc
          rw [← HS.out] at hJ3
          gi_wp2
          go_roundw
          case rel => exact ⟨k + 1, by omega, by go_num, hc3, hJ3⟩
          case measure => simp [intOf]; omega
        · rw [← HS.out] at hJx3
          have HX := Lib.hid (show ∃ pre, pre <+: eachL s ∧ Jx pre W3 from ⟨_, eachU_pre s (k + 1), hJx3⟩)
          clear hJx3
          gi_wp2
          refine bodyPost_ret (results_none rfl _ _ _) rfl ?_
          exact ⟨⟨_, rfl⟩, .inr HX.out⟩
      · have hf : has s (k : Int) = false := by simpa using hhas
        have hcH := callsIn_wide (n := n - 1) |>.2 (Has_c s (k : Int) wr)
        rw [hf] at hcH
        have HC := Lib.hid hcH; clear hcH
        have HS := Lib.hid (eachU_no s k hlt hf)
        clear hY h0 hB hlen hhas hf
        gi_wp2_with (refine ⟨trivial, ?_⟩; gi_at_call 39; refine HC.out.mono ?_; rintro e w' ⟨rfl, rfl⟩)
        refine ⟨fun _ h => (by cases h), ?_⟩
        gi_wp2
        go_roundw
        case rel => exact ⟨k + 1, by omega, by go_num, hc, by rw [HS.out]; exact hJ⟩
        case measure => simp [intOf]; omega
    · obtain rfl : k = 8 := by omega
      rw [eachU_all] at hJ
      have HJ := Lib.hid hJ; clear hJ
      gi_wp2
      go_end0
      exact ⟨⟨_, rfl⟩, .inl ⟨_, rfl, HJ.out⟩⟩

theorem each_stops (n : Nat) (hn : 1 ≤ n) (bB : Nat) (s : Int) (w : World) (hlt : bB < w.heap.size) (hc : w.cell? ⟨bB, 0, none⟩ = some (.int .i64 s)) :
    SeqStopsK Fence.wide n Tryz.prog 85 #[.pointer (some ⟨bB, 0, none⟩)] (fun x : Fin 8 => #[Value.int .i64 (x.val : Int)]) (seqKp bB) (fun ys => ys = eachL s) (fun pre => pre <+: eachL s) 8 w := fun l J Jx W hW _ _ hY h0 =>
  each1_in n hn l bB s J Jx hY W ((hW.cell (p := ⟨bB, 0, none⟩) hlt).trans hc) h0

/-! ### The laws of a loop -/
/-- what was there behind w is as it was, but for a loop's own boxes -/
structure LoopAt (w : World) (own : List Nat) (W : World) : Prop where
  os : W.os = w.os
  tape : W.tape = w.tape
  output : W.output = w.output
  size : w.heap.size ≤ W.heap.size
  block : ∀ k, k < w.heap.size → k ∉ own → W.heap[k]? = w.heap[k]?
section
variable {w W W' X : World} {own : List Nat} {g : Nat}
theorem LoopAt.refl (w : World) (own : List Nat) : LoopAt w own w := ⟨rfl, rfl, rfl, Nat.le_refl _, fun _ _ _ => rfl⟩
theorem LoopAt.trans (h : LoopAt w own W) (k : LoopAt W own X) : LoopAt w own X :=
  ⟨k.os.trans h.os, k.tape.trans h.tape, k.output.trans h.output, Nat.le_trans h.size k.size, fun i hi ho => (k.block i (Nat.lt_of_lt_of_le hi h.size) ho).trans (h.block i hi ho)⟩
theorem LoopAt.ofExt (h : Ext W W') (own : List Nat) : LoopAt W own W' := ⟨h.below.os, h.below.tape, h.below.output, h.size, fun k hk _ => h.below.block k hk⟩
theorem LoopAt.ext (h : LoopAt w own W) (k : Ext W W') : LoopAt w own W' := h.trans (.ofExt k own)
theorem LoopAt.set (h : LoopAt w own W) (hg : g ∈ own) (o : Nat) (v : Value) : LoopAt w own (W.setCell ⟨g, o, none⟩ v) :=
  h.trans ⟨rfl, rfl, rfl, by simp [World.setCell], fun k _ hk => Below.heap_setCell _ _ _ _ (show k ≠ g from fun e => hk (e ▸ hg))⟩
theorem LoopAt.cell (h : LoopAt w own W) {b o : Nat} (hb : b < w.heap.size) (ho : b ∉ own) : W.cell? ⟨b, o, none⟩ = w.cell? ⟨b, o, none⟩ := World.cell?_of_block (w := w) (w' := W) (a := ⟨b, o, none⟩) (h.block b hb ho)
theorem LoopAt.frozen (h : LoopAt w own W) {b o : Nat} (hb : b < w.heap.size) (ho : b ∉ own) : W.frozen? ⟨b, o, none⟩ = w.frozen? ⟨b, o, none⟩ := World.frozen?_of_block (w := w) (w' := W) (a := ⟨b, o, none⟩) (h.block b hb ho)
/-- with nothing of one's own below a bound, what was there below it is as it was -/
theorem LoopAt.toExt {a : World} (h : LoopAt w own W) (e : Ext a w) (ho : ∀ k ∈ own, a.heap.size ≤ k) : Ext a W :=
  ⟨⟨h.os.trans e.below.os, h.tape.trans e.below.tape, h.output.trans e.below.output, Nat.le_trans e.size h.size,
    fun k hk => (h.block k (Nat.lt_of_lt_of_le hk e.size) (fun hin => by have := ho k hin; omega)).trans (e.below.block k hk)⟩⟩
theorem LoopAt.keeps (h : LoopAt W own W') {B : Nat} (hB : ∀ k ∈ own, k < B) : KeepsFrom B W W' :=
  ⟨h.size, fun k o hk hko _ => (h.block k (Array.getElem?_eq_some_iff.1 hko).1 (fun hin => by have := hB k hin; omega)).trans hko⟩
theorem LoopAt.putNew {o : Obj} {D : Nat} (h : LoopAt w own W) (hD : w.heap.size ≤ D) (hne : D ∉ own) : LoopAt w own (W.putObj D o) :=
  ⟨h.os, h.tape, h.output, Nat.le_trans h.size (by simp [World.putObj]), fun k hk hno => (World.putObj_heap_other (by omega)).trans (h.block k hk hno)⟩
end

/-- how a round may end -/
def eachPost (own : List Nat) (J Jx : List (Fin 8) → World → Prop) (xs : List (Fin 8)) (W : World) : Exit → Act → World → Prop
  | .normal, _, W' => LoopAt W own W' ∧ J xs W'
  | .ret, _, W' => LoopAt W own W' ∧ Jx xs W'
  | _, _, _ => False

/-- what speaks of a loop's own boxes alone -/
def OfOwn (own : List Nat) (J : List (Fin 8) → World → Prop) : Prop := ∀ pre W W', (∀ k ∈ own, W'.heap[k]? = W.heap[k]?) → J pre W → J pre W'

theorem loopAt_ownFrom {w : World} {own : List Nat} {J : List (Fin 8) → World → Prop} (hown : ∀ k ∈ own, k < w.heap.size) (hJ : OfOwn own J) : OwnFrom w.heap.size (fun pre W => LoopAt w own W ∧ J pre W) :=
  fun pre X Y row hs hg hr => by
    refine ⟨⟨hg.os.trans hs.1.os, hg.tape.trans hs.1.tape, hg.output.trans hs.1.output, Nat.le_trans hs.1.size hg.size, fun k hk ho => ?_⟩, hJ pre X Y (fun k hk => ?_) hs.2⟩
    · refine (hg.block k (Nat.lt_of_lt_of_le hk hs.1.size) (fun e => ?_)).trans (hs.1.block k hk ho)
      have := (hr k e.symm).1; omega
    · refine hg.block k (Nat.lt_of_lt_of_le (hown k hk) hs.1.size) (fun e => ?_)
      have := (hr k e.symm).1; have := hown k hk; omega

/-- A loop over a set's phases; its variable lies in no box. -/
theorem each_loop {g : Operand} {p : Tmp} {assign body : Code} {Q : Exit → Act → World → Prop} {a : Act} {w : World} (s : Int) (bB : Nat)
    (hg : a.eval g = .func (.func 85) #[] #[.pointer (some ⟨bB, 0, none⟩)]) (hc : w.cell? ⟨bB, 0, none⟩ = some (.int .i64 s)) (hlt : bB < w.heap.size)
    (own : List Nat) (hown : ∀ k ∈ own, k < w.heap.size) (hbo : bB ∉ own) (J Jx : List (Fin 8) → World → Prop) (hJ : OfOwn own J) (hJx : OfOwn own Jx) (h0 : J [] w) (a₁ : Fin 8 → Act)
    (hassign : ∀ (l : Nat) (x : Fin 8) (W : World) (K : Act → World → Prop), K (a₁ x) W →
      assign.wpIn (Fence.wide.inRound l) 8 Tryz.prog (Exit.then K (fun _ _ _ => False)) { tmps := a.tmps.setIfInBounds p (.int .i64 (x.val : Int)), defers := [] } W)
    (hbody : ∀ (l : Nat) (pre : List (Fin 8)) (x : Fin 8) (W : World), LoopAt w own W → J pre W → body.wpIn (Fence.wide.inRound l) 8 Tryz.prog (eachPost own J Jx (pre ++ [x]) W) (a₁ x) W)
    (hdone : ∀ (D : Nat) (W : World), w.heap.size ≤ D → LoopAt w own W → J (eachL s) W → W.heap[D]? = some (.deferred (some [])) → Q .normal { a with defers := { target := .collected D, args := #[] } :: a.defers } W)
    (hstop : ∀ (D : Nat) (pre : List (Fin 8)) (W : World), w.heap.size ≤ D → pre <+: eachL s → LoopAt w own W → Jx pre W → W.heap[D]? = some (.deferred (some [])) → Code.ret.wpIn Fence.wide 10 Tryz.prog Q { a with defers := { target := .collected D, args := #[] } :: a.defers } W) :
    (Code.rangeFunc g #[p] assign body).wpIn Fence.wide 10 Tryz.prog Q a w := by
  have hKpB : ∀ {X Y : World}, LoopAt X own Y → bB < X.heap.size → seqKp bB X Y := fun h hb => h.cell hb hbo
  refine wpIn_rangeFunc_ownG (n := 10) rfl (by omega) (gf := 85) (lb := #[.pointer (some ⟨bB, 0, none⟩)]) hg trivial (enters_of Tryz.func85 (by kernel_rfl) rfl)
    (each_stops 9 (by omega) bB s w hlt hc) (fun h k => Eq.trans k h) (fun W l o o' hl hW ho _ => ?_) (Below.refl _ _) (fun _ => rfl)
    (fun pre W => LoopAt w own W ∧ J pre W) (fun c pre W => LoopAt w own W ∧ (c = .ret ∧ Jx pre W))
    (loopAt_ownFrom hown hJ) (fun c => loopAt_ownFrom (J := fun pre W => c = .ret ∧ Jx pre W) hown (fun pre W W' he h => ⟨h.1, hJx pre W W' he h.2⟩)) ⟨.refl _ _, h0⟩ a₁ ?_ ?_ ?_ ?_
  · exact World.cell?_of_block (World.putObj_heap_other (show bB ≠ l by omega))
  · intro l x W K hK
    simpa using hassign l x W K hK
  · rintro l pre x W ⟨hL, hj⟩ _
    refine wpIn_mono (hbody l pre x W hL hj) ?_
    intro e a' W' hp
    have hsz := hL.size
    cases e with
    | normal => exact ⟨hp.1.keeps hown, hKpB hp.1 (by omega), hL.trans hp.1, hp.2⟩
    | ret => exact ⟨hp.1.keeps hown, hL.trans hp.1, rfl, hp.2⟩
    | exit id => exact hp.elim
    | goto t => exact hp.elim
    | panic ch => exact hp.elim
    | outgrown => exact hp.elim
  · rintro D xs W hD rfl ⟨hL, hj⟩ hK
    exact hdone D W hD hL hj hK
  · rintro D c pre W hD hpre ⟨hL, rfl, hj⟩ hK
    exact hstop D pre W hD hpre hL hj hK

/-- A loop over a set's phases; its variable lies in a box, a new one in each round. -/
theorem each_loopB {g : Operand} {p : Tmp} {assign body : Code} {Q : Exit → Act → World → Prop} {a : Act} {w : World} (s : Int) (bB : Nat)
    (hg : a.eval g = .func (.func 85) #[] #[.pointer (some ⟨bB, 0, none⟩)]) (hc : w.cell? ⟨bB, 0, none⟩ = some (.int .i64 s)) (hlt : bB < w.heap.size)
    (own : List Nat) (hown : ∀ k ∈ own, k < w.heap.size) (hbo : bB ∉ own) (J Jx : List (Fin 8) → World → Prop) (hJ : OfOwn own J) (hJx : OfOwn own Jx) (h0 : J [] w) (a₁ : Fin 8 → Nat → Act)
    (hassign : ∀ (l : Nat) (x : Fin 8) (W : World) (K : Act → World → Prop), K (a₁ x W.heap.size) (W.alloc (.cells #[.int .i64 (x.val : Int)] 3)) →
      assign.wpIn (Fence.wide.inRound l) 8 Tryz.prog (Exit.then K (fun _ _ _ => False)) { tmps := a.tmps.setIfInBounds p (.int .i64 (x.val : Int)), defers := [] } W)
    (hbody : ∀ (l : Nat) (r : Loop) (pre : List (Fin 8)) (x : Fin 8) (Bx : Nat) (W : World), W.heap[l]? = some (.loop r) → LoopAt w own W → J pre W → w.heap.size ≤ Bx → W.heap[Bx]? = some (.cells #[.int .i64 (x.val : Int)] 3 (0, 0)) →
      body.wpIn (Fence.wide.inRound l) 8 Tryz.prog (eachPost own J Jx (pre ++ [x]) W) (a₁ x Bx) W)
    (hdone : ∀ (D : Nat) (W : World), w.heap.size ≤ D → LoopAt w own W → J (eachL s) W → W.heap[D]? = some (.deferred (some [])) → Q .normal { a with defers := { target := .collected D, args := #[] } :: a.defers } W)
    (hstop : ∀ (D : Nat) (pre : List (Fin 8)) (W : World), w.heap.size ≤ D → pre <+: eachL s → LoopAt w own W → Jx pre W → W.heap[D]? = some (.deferred (some [])) → Code.ret.wpIn Fence.wide 10 Tryz.prog Q { a with defers := { target := .collected D, args := #[] } :: a.defers } W) :
    (Code.rangeFunc g #[p] assign body).wpIn Fence.wide 10 Tryz.prog Q a w := by
  have hKpB : ∀ {X Y : World}, LoopAt X own Y → bB < X.heap.size → seqKp bB X Y := fun h hb => h.cell hb hbo
  refine wpIn_rangeFunc_ownH (n := 10) rfl (by omega) (gf := 85) (lb := #[.pointer (some ⟨bB, 0, none⟩)]) hg trivial (enters_of Tryz.func85 (by kernel_rfl) rfl)
    (each_stops 9 (by omega) bB s w hlt hc) (fun h k => Eq.trans k h) (fun W l o o' hl hW ho _ => ?_) (Below.refl _ _) (fun _ => rfl)
    (fun pre W => LoopAt w own W ∧ J pre W) (fun c pre W => LoopAt w own W ∧ (c = .ret ∧ Jx pre W))
    (loopAt_ownFrom hown hJ) (fun c => loopAt_ownFrom (J := fun pre W => c = .ret ∧ Jx pre W) hown (fun pre W W' he h => ⟨h.1, hJx pre W W' he h.2⟩)) ⟨.refl _ _, h0⟩
    (fun x a' W => ∃ Bx, w.heap.size ≤ Bx ∧ W.heap[Bx]? = some (.cells #[.int .i64 (x.val : Int)] 3 (0, 0)) ∧ a' = a₁ x Bx)
    (fun x a' _ X Y row hs hg hr => by obtain ⟨Bx, e1, e2, e3⟩ := hs; exact ⟨Bx, e1, boxed_own Bx 3 (fun (_ : Unit) => Value.int .i64 (x.val : Int)) () X Y row e2 hg (fun r e => (hr r e).2), e3⟩) ?_ ?_ ?_ ?_
  · exact World.cell?_of_block (World.putObj_heap_other (show bB ≠ l by omega))
  · rintro l pre x W K ⟨hL, hj⟩ hK
    have hsz := hL.size
    have hx := (Ext.refl W).alloc (.cells #[.int .i64 (x.val : Int)] 3)
    have h1 := hassign l x W K (hK _ _ ((KeepsOthers.alloc _ _).from _) (hKpB (.ofExt hx own) (by omega)) ⟨hL.ext hx, hJ pre W _ (fun k hk => hx.below.block k (Nat.lt_of_lt_of_le (hown k hk) hsz)) hj⟩
      ⟨W.heap.size, hsz, World.alloc_heap_new W _, rfl⟩)
    simpa using h1
  · rintro l pre x a' W hl ⟨r, hr⟩ ⟨hL, hj⟩ ⟨Bx, hBx, hbx, rfl⟩ _
    refine wpIn_mono (hbody l r pre x Bx W hr hL hj hBx hbx) ?_
    intro e a' W' hp
    have hsz := hL.size
    cases e with
    | normal => exact ⟨hp.1.keeps hown, hKpB hp.1 (by omega), hL.trans hp.1, hp.2⟩
    | ret => exact ⟨hp.1.keeps hown, hL.trans hp.1, rfl, hp.2⟩
    | exit id => exact hp.elim
    | goto t => exact hp.elim
    | panic ch => exact hp.elim
    | outgrown => exact hp.elim
  · rintro D xs W hD rfl ⟨hL, hj⟩ hK
    exact hdone D W hD hL hj hK
  · rintro D c pre W hD hpre ⟨hL, rfl, hj⟩ hK
    exact hstop D pre W hD hpre hL hj hK

/-- A loop over a set's phases in the round of another. -/
theorem each_loopN {l₀ : Nat} {r₀ : Loop} {g : Operand} {p : Tmp} {assign body : Code} {Q : Exit → Act → World → Prop} {a : Act} {w : World} (hl₀ : w.heap[l₀]? = some (.loop r₀)) (s : Int) (bB : Nat)
    (hg : a.eval g = .func (.func 85) #[] #[.pointer (some ⟨bB, 0, none⟩)]) (hc : w.cell? ⟨bB, 0, none⟩ = some (.int .i64 s)) (hlt : bB < w.heap.size)
    (own : List Nat) (hown : ∀ k ∈ own, k < w.heap.size) (hbo : bB ∉ own) (J Jx : List (Fin 8) → World → Prop) (hJ : OfOwn own J) (hJx : OfOwn own Jx) (h0 : J [] w) (a₁ : Fin 8 → Act)
    (hassign : ∀ (l : Nat) (x : Fin 8) (W : World) (K : Act → World → Prop), K (a₁ x) W →
      assign.wpIn ((Fence.wide.inRound l₀).inRound l) 6 Tryz.prog (Exit.then K (fun _ _ _ => False)) { tmps := a.tmps.setIfInBounds p (.int .i64 (x.val : Int)), defers := [] } W)
    (hbody : ∀ (l : Nat) (pre : List (Fin 8)) (x : Fin 8) (W : World), LoopAt w own W → J pre W → body.wpIn ((Fence.wide.inRound l₀).inRound l) 6 Tryz.prog (eachPost own J Jx (pre ++ [x]) W) (a₁ x) W)
    (hdone : ∀ (W : World), LoopAt w own W → J (eachL s) W → Q .normal a W)
    (hstop : ∀ (pre : List (Fin 8)) (W : World), pre <+: eachL s → LoopAt w own W → Jx pre W → Code.ret.wpIn (Fence.wide.inRound l₀) 8 Tryz.prog Q a W) :
    (Code.rangeFunc g #[p] assign body).wpIn (Fence.wide.inRound l₀) 8 Tryz.prog Q a w := by
  have hKpB : ∀ {X Y : World}, LoopAt X own Y → bB < X.heap.size → seqKp bB X Y := fun h hb => h.cell hb hbo
  refine wpIn_rangeFunc_ownN (n := 8) (l₀ := l₀) (r₀ := r₀) rfl hl₀ (by omega) (gf := 85) (lb := #[.pointer (some ⟨bB, 0, none⟩)]) hg trivial (enters_of Tryz.func85 (by kernel_rfl) rfl)
    ((each_stops 7 (by omega) bB s w hlt hc).inRound l₀) (fun h k => Eq.trans k h) (fun W l o o' hl hW ho _ => ?_) (Below.refl _ _) (fun _ => rfl)
    (fun pre W => LoopAt w own W ∧ J pre W) (fun c pre W => LoopAt w own W ∧ (c = .ret ∧ Jx pre W))
    (loopAt_ownFrom hown hJ) (fun c => loopAt_ownFrom (J := fun pre W => c = .ret ∧ Jx pre W) hown (fun pre W W' he h => ⟨h.1, hJx pre W W' he h.2⟩)) ⟨.refl _ _, h0⟩
    (fun x a' _ => a' = a₁ x) (fun _ _ _ _ _ _ hs _ _ => hs) ?_ ?_ ?_ ?_
  · exact World.cell?_of_block (World.putObj_heap_other (show bB ≠ l by omega))
  · rintro l pre x W K hi hK
    have h1 := hassign l x W K (hK _ _ (KeepsFrom.refl _ _) rfl hi rfl)
    simpa using h1
  · rintro l pre x a' W _ _ ⟨hL, hj⟩ rfl _
    refine wpIn_mono (hbody l pre x W hL hj) ?_
    intro e a' W' hp
    have hsz := hL.size
    cases e with
    | normal => exact ⟨hp.1.keeps hown, hKpB hp.1 (by omega), hL.trans hp.1, hp.2⟩
    | ret => exact ⟨hp.1.keeps hown, hL.trans hp.1, rfl, hp.2⟩
    | exit id => exact hp.elim
    | goto t => exact hp.elim
    | panic ch => exact hp.elim
    | outgrown => exact hp.elim
  · rintro xs W rfl ⟨hL, hj⟩
    exact hdone W hL hj
  · rintro c pre W hpre ⟨hL, rfl, hj⟩
    exact hstop pre W hpre hL hj

/-! ### The end of a function that ranged over a set -/
theorem Ext.putNew {w W : World} (h : Ext w W) {D : Nat} (o : Obj) (hD : w.heap.size ≤ D) : Ext w (W.putObj D o) :=
  ⟨⟨h.below.os, h.below.tape, h.below.output, Nat.le_trans h.size (by simp [World.putObj]), fun k hk => (World.putObj_heap_other (by omega)).trans (h.below.block k hk)⟩⟩

theorem end_bool {fn : Func} {p : Tmp} {R D : Nat} {b : Bool} {w W : World} {tmps : Array Value} {T : TypeId} (hf : fn.results = #[.cell p 4]) (hp : tmps.getD p undef = .pointer (some ⟨R, 0, none⟩)) (hr : W.heap[R]? = some (.cells #[.bool b] T (0, 0)))
    (hx : Ext w W) (hD : w.heap.size ≤ D) (hK : W.heap[D]? = some (.deferred (some []))) :
    bodyPostM Fence.wide 10 Tryz.prog fn (Ret w (.bool b)) Exit.ret { tmps := tmps, defers := [{ target := .collected D, args := #[] }] } W := by
  refine ⟨by simp, .inl ⟨_, _, rfl, run_takeDeferred hK, ?_⟩⟩
  have hne : R ≠ D := by rintro rfl; rw [hr] at hK; cases hK
  have hc : (W.putObj D (.deferred none)).cell? ⟨R, 0, none⟩ = some (.bool b) := by
    rw [cell_of_row _ R 0 _ _ _ ((World.putObj_heap_other hne).trans hr)]; rfl
  have hp' : tmps[p]?.getD undef = .pointer (some ⟨R, 0, none⟩) := by simpa using hp
  refine ⟨.bool b, ?_, rfl, hx.putNew _ hD⟩
  simp [results, hf, hp', go_sem, hc]

theorem end_int {fn : Func} {p : Tmp} {D : Nat} {x : Int} {w W : World} {tmps : Array Value} (hf : fn.results = #[.tmp p]) (hp : tmps.getD p undef = .int .i64 x)
    (hx : Ext w W) (hD : w.heap.size ≤ D) (hK : W.heap[D]? = some (.deferred (some []))) :
    bodyPostM Fence.wide 10 Tryz.prog fn (Ret w (.int .i64 x)) Exit.ret { tmps := tmps, defers := [{ target := .collected D, args := #[] }] } W := by
  refine ⟨by simp, .inl ⟨_, _, rfl, run_takeDeferred hK, ?_⟩⟩
  have hp' : tmps[p]?.getD undef = .int .i64 x := by simpa using hp
  refine ⟨.int .i64 x, ?_, rfl, hx.putNew _ hD⟩
  simp [results, hf, hp']

theorem end_bool0 {fn : Func} {p : Tmp} {R : Nat} {b : Bool} {w W : World} {tmps : Array Value} {T : TypeId} (hf : fn.results = #[.cell p 4]) (hp : tmps.getD p undef = .pointer (some ⟨R, 0, none⟩)) (hr : W.heap[R]? = some (.cells #[.bool b] T (0, 0)))
    (hx : Ext w W) : bodyPostM Fence.wide 10 Tryz.prog fn (Ret w (.bool b)) Exit.ret { tmps := tmps, defers := [] } W := by
  have hc : W.cell? ⟨R, 0, none⟩ = some (.bool b) := by rw [cell_of_row _ R 0 _ _ _ hr]; rfl
  have hp' : tmps[p]?.getD undef = .pointer (some ⟨R, 0, none⟩) := by simpa using hp
  refine ⟨.bool b, ?_, rfl, hx⟩
  simp [results, hf, hp', go_sem, hc]
theorem end_int0 {fn : Func} {p : Tmp} {x : Int} {w W : World} {tmps : Array Value} (hf : fn.results = #[.tmp p]) (hp : tmps.getD p undef = .int .i64 x) (hx : Ext w W) :
    bodyPostM Fence.wide 10 Tryz.prog fn (Ret w (.int .i64 x)) Exit.ret { tmps := tmps, defers := [] } W := by
  have hp' : tmps[p]?.getD undef = .int .i64 x := by simpa using hp
  refine ⟨.int .i64 x, ?_, rfl, hx⟩
  simp [results, hf, hp']
/-- a box written anew -/
theorem heap_set1 {W : World} {R : Nat} {v u : Value} {T : TypeId} (h : W.heap[R]? = some (.cells #[v] T (0, 0))) : (W.setCell ⟨R, 0, none⟩ u).heap[R]? = some (.cells #[u] T (0, 0)) := by
  simp [World.setCell, Array.getElem?_modify, h]
theorem cell_box {W : World} {R : Nat} {v : Value} {T : TypeId} (h : W.heap[R]? = some (.cells #[v] T (0, 0))) : W.cell? ⟨R, 0, none⟩ = some v := by rw [cell_of_row W R 0 _ _ _ h]; rfl
theorem free_box {W : World} {R : Nat} {v : Value} {T : TypeId} (h : W.heap[R]? = some (.cells #[v] T (0, 0))) : W.frozen? ⟨R, 0, none⟩ = false := by simp [World.frozen?, h]
theorem heap_drewN (w : World) (n : Nat) : (w.drewN n).heap = w.heap := by
  induction n with
  | zero => rfl
  | succ n ih => rw [← World.drew_drewN]; exact ih
end Go.Proofs.YtpopnmelcplbbaaGreat
