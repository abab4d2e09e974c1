/-
  A region that draws its order, in a round: by hand, some loads first. More of the walk by hand: loads of numbers and slices, a new slice, the greatest of three.
-/
import Derived.OrdersIn
import Derived.Deep.RegionHeld3
import Derived.RangeFuncCalls
import Derived.Test.YtpopnmelcplbbaaGreatGBase
set_option linter.unusedVariables false
set_option linter.unusedSimpArgs false
namespace Go.Proofs.YtpopnmelcplbbaaGreat
open Go.RowKit

section
variable {P : Program} {ops : Array Oper} {Q : Exit → Act → World → Prop} {md : Region.Mode} {S : World → Prop} {l n : Nat}

theorem rows_round {row : String} {args : Array Value} {w : World} {R : Value → World → Prop} (h : Rows P row args w R) : RowsIn (Fence.wide.inRound l) n P row args w R :=
  fun c cs _ => let ⟨v, w', r, s⟩ := h c cs; ⟨v, w', r, stepsIn_wide.2 s⟩

theorem calls_round {f : FuncId} {args : Array Value} {w : World} {R : Ending → World → Prop} (h : Calls P f args w R) : CallsIn (Fence.wide.inRound l) n P f args w R :=
  (callsIn_wide.2 h).inRound l

theorem oper_round {o : Oper} {a : Act} {w : World} {K K' : Act → World → Prop} (hd : ∀ c, o.op ≠ .defer c) (hK : ∀ a w, K a w → K' a w) (h : o.wp P a w K Q) : o.wpIn (Fence.wide.inRound l) n P a w K' Q := by
  refine ⟨fun _ _ => trivial, ?_⟩
  rw [show (Fence.wide.inRound l).round = some l from rfl, Oper.semAt_some l _ _ hd]
  unfold Oper.wp at h
  generalize (execOp a.eval o).run P w = r at h ⊢
  cases r with
  | ok x w' =>
    cases x with
    | value v => exact hK _ _ h
    | skip => exact hK _ _ h
    | «defer» d => exact hK _ _ h
    | enter f args =>
      refine ⟨fun hh => (by cases hh), calls_round (Calls.mono h fun e w'' he => ?_)⟩
      cases e with
      | returned v => exact hK _ _ he
      | panicked c => exact he
      | outgrown => exact he
    | row row args => exact ⟨fun hh => (by cases hh), rows_round (Rows.mono h fun v w'' he => hK _ _ he)⟩
    | round l f tmps assign body => exact h.elim
    | _ => exact h.elim
  | halt x w' =>
    cases x with
    | panic v => exact h
    | _ => exact h.elim

def noDefer (ops : Array Oper) : Bool := ops.all fun o => match o.op with | .defer _ => false | _ => true

theorem anyIn_of_held (hd : noDefer ops = true) (hno : ¬ LetsOut Q) : ∀ (fuel : Nat) (listed : Array Bool) (a : Act) (w : World), wpAnyH P md ops Q S fuel listed a w → wpAnyIn (Fence.wide.inRound l) n P md ops Q fuel listed a w
  | 0, _, _, _, h => h
  | fuel + 1, listed, a, w, h => ⟨h.1, fun i hi => by
    have h1 := h.2 i hi
    unfold wpOp at h1
    unfold wpOpIn
    cases ho : ops[i]? with
    | none => rw [ho] at h1; exact anyIn_of_held hd hno fuel _ _ _ h1.2
    | some o =>
      rw [ho] at h1
      dsimp only at h1 ⊢
      split
      · rename_i hw
        rw [if_pos hw] at h1
        rcases h1 with h1 | ⟨_, h1⟩
        · refine oper_round (fun c hc => ?_) (fun a' w' h' => anyIn_of_held hd hno fuel _ _ _ h'.2) h1
          have := Array.all_eq_true_iff_forall_mem.1 hd o (Array.mem_of_getElem? ho)
          rw [hc] at this
          cases this
        · exact absurd h1 hno
      · rename_i hw
        rw [if_neg hw] at h1
        exact ⟨fun _ _ => trivial, anyIn_of_held hd hno fuel _ _ _ h1.2⟩⟩

theorem region_round {id : Nat} {a : Act} {w : World} (hm : P.follows .mixedOrders = true) (hd : noDefer ops = true) (hno : ¬ LetsOut Q) (hS : S w.drew)
    (h : S w.drew → wpAnyH P .any ops Q S ops.size (Array.replicate ops.size false) a w.drew) : (Code.region id ops true).wpIn (Fence.wide.inRound l) n P Q a w :=
  wpIn_region_any hm (anyIn_of_held hd hno _ _ _ _ (h hS))

theorem yields_v {o : Oper} {a : Act} {v : Value} (s : Sem Value) (hw : Region.wanted o (yielded ops a.tmps) = true) (he : execOp a.eval o = (do pure (.value (← s)))) (hrun : ∀ w, S w → s.run P w = .ok v w) : YieldsIf P ops S o v a :=
  Or.inl ⟨hw, fun w h => by rw [he]; simp [hrun w h]⟩
theorem yields_no {o : Oper} {a : Act} (hw : Region.wanted o (yielded ops a.tmps) = false) : YieldsIf P ops S o undef a := Or.inr ⟨hw, rfl⟩

/-- a call that comes up alone -/
theorem wpAnyH_call {i : Nat} {fuel : Nat} {listed : Array Bool} {a : Act} {w : World} {o : Oper} {f : FuncId} {args : Array Value} {v : Value} {R : Ending → World → Prop}
    (hr : Region.ready md ops listed = [i]) (ho : ops[i]? = some o) (hw : Region.wanted o (yielded ops a.tmps) = true) (hrun : (execOp a.eval o).run P w = .ok (.enter f args) w)
    (hc : Calls P f args w R) (hR : ∀ e w', R e w' → e = .returned v ∧ S w' ∧ wpAnyH P md ops Q S fuel (listed.setIfInBounds i true) (a.put o.dst v) w') : wpAnyH P md ops Q S (fuel + 1) listed a w := by
  refine wpAnyH_all hr (by simp) ?_
  intro j hj
  simp only [List.mem_singleton] at hj
  subst hj
  unfold wpOp
  rw [ho]
  dsimp only
  rw [if_pos hw]
  left
  unfold Oper.wp
  rw [hrun]
  refine Calls.mono hc fun e w' he => ?_
  obtain ⟨rfl, h1, h2⟩ := hR e w' he
  exact ⟨h1, h2⟩
end
end Go.Proofs.YtpopnmelcplbbaaGreat
namespace Go.Proofs.YtpopnmelcplbbaaGreat
open Go.RowKit

section
variable {P : Program} {ops : Array Oper} {Q : Exit → Act → World → Prop} {md : Region.Mode} {S : World → Prop}
/-- an operation that makes memory and comes up alone -/
theorem wpAnyH_step {i : Nat} {fuel : Nat} {listed : Array Bool} {a : Act} {w : World} {o : Oper} (v : Value) (w' : World)
    (hr : Region.ready md ops listed = [i]) (ho : ops[i]? = some o) (hw : Region.wanted o (yielded ops a.tmps) = true) (s : Sem Value) (he : execOp a.eval o = (do pure (.value (← s)))) (hrun : s.run P w = .ok v w')
    (hS : S w') (h : wpAnyH P md ops Q S fuel (listed.setIfInBounds i true) (a.put o.dst v) w') : wpAnyH P md ops Q S (fuel + 1) listed a w := by
  refine wpAnyH_all hr (by simp) ?_
  intro j hj
  simp only [List.mem_singleton] at hj
  subst hj
  unfold wpOp
  rw [ho]
  dsimp only
  rw [if_pos hw]
  left
  unfold Oper.wp
  rw [he, Sem.run_bind, hrun]
  exact ⟨hS, h⟩
theorem wpOp_val {i : Nat} {K : Act → World → Prop} {a : Act} {w : World} {o : Oper} (v : Value) (w' : World) (ho : ops[i]? = some o) (hw : Region.wanted o (yielded ops a.tmps) = true) (s : Sem Value)
    (he : execOp a.eval o = (do pure (.value (← s)))) (hrun : s.run P w = .ok v w') (h : K (a.put o.dst v) w') : wpOp P ops Q i K a w := by
  unfold wpOp
  rw [ho]
  dsimp only
  rw [if_pos hw]
  left
  unfold Oper.wp
  rw [he, Sem.run_bind, hrun]
  exact h
theorem wpOp_unit {i : Nat} {K : Act → World → Prop} {a : Act} {w : World} {o : Oper} (w' : World) (ho : ops[i]? = some o) (hw : Region.wanted o (yielded ops a.tmps) = true) (s : Sem Unit)
    (he : execOp a.eval o = (do s; pure .skip)) (hrun : s.run P w = .ok () w') (h : K (a.put o.dst undef) w') : wpOp P ops Q i K a w := by
  unfold wpOp
  rw [ho]
  dsimp only
  rw [if_pos hw]
  left
  unfold Oper.wp
  rw [he, Sem.run_bind, hrun]
  exact h
theorem wpOp_call {i : Nat} {K : Act → World → Prop} {a : Act} {w : World} {o : Oper} {f : FuncId} {args : Array Value} {v : Value} {R : Ending → World → Prop} (ho : ops[i]? = some o) (hw : Region.wanted o (yielded ops a.tmps) = true)
    (hrun : (execOp a.eval o).run P w = .ok (.enter f args) w) (hc : Calls P f args w R) (hR : ∀ e w', R e w' → e = .returned v ∧ K (a.put o.dst v) w') : wpOp P ops Q i K a w := by
  unfold wpOp
  rw [ho]
  dsimp only
  rw [if_pos hw]
  left
  unfold Oper.wp
  rw [hrun]
  refine Calls.mono hc fun e w' he => ?_
  obtain ⟨rfl, h1⟩ := hR e w' he
  exact h1
/-- one comes up alone, or one of two -/
theorem wpAnyH_one {i : Nat} {fuel : Nat} {listed : Array Bool} {a : Act} {w : World} (hr : Region.ready md ops listed = [i])
    (h : wpOp P ops Q i (fun a' w' => S w' ∧ wpAnyH P md ops Q S fuel (listed.setIfInBounds i true) a' w') a w) : wpAnyH P md ops Q S (fuel + 1) listed a w := by
  refine wpAnyH_all hr (by simp) ?_
  intro j hj
  simp only [List.mem_singleton] at hj
  subst hj
  exact h
theorem wpAnyH_two {i k : Nat} {fuel : Nat} {listed : Array Bool} {a : Act} {w : World} (hr : Region.ready md ops listed = [i, k])
    (h1 : wpOp P ops Q i (fun a' w' => S w' ∧ wpAnyH P md ops Q S fuel (listed.setIfInBounds i true) a' w') a w)
    (h2 : wpOp P ops Q k (fun a' w' => S w' ∧ wpAnyH P md ops Q S fuel (listed.setIfInBounds k true) a' w') a w) : wpAnyH P md ops Q S (fuel + 1) listed a w := by
  refine wpAnyH_all hr (by simp) ?_
  intro j hj
  simp only [List.mem_cons, List.not_mem_nil, or_false] at hj
  rcases hj with rfl | rfl
  · exact h1
  · exact h2
end

theorem load_int {W : World} {A : Addr} {v : Int} (h : W.cell? A = some (.int .i64 v)) : (Instr.loadAt 3 (.pointer (some A))).run Tryz.prog W = .ok (.int .i64 v) W := by go_simp
theorem load_bool {W : World} {A : Addr} {v : Bool} (h : W.cell? A = some (.bool v)) : (Instr.loadAt 4 (.pointer (some A))).run Tryz.prog W = .ok (.bool v) W := by go_simp
theorem load_rails {W : World} {A : Addr} {p : Option Addr} {n c : Nat} (h : W.cell? A = some (.slice p n c)) : (Instr.loadAt 31 (.pointer (some A))).run Tryz.prog W = .ok (.slice p n c) W := by go_simp
theorem range_cell {W : World} {b : Nat} {cs : List Value} {j : Nat} {v : Value} (h : W.rangeAt b 0 cs) (hj : cs[j]? = some v) : W.cell? ⟨b, j, none⟩ = some v := by simpa using h j v hj
theorem store_int {W : World} {A : Addr} {v0 : Value} (v : Int) (h : W.cell? A = some v0) (hz : W.frozen? A = false) : (Instr.storeAt 3 (.pointer (some A)) (.int .i64 v)).run Tryz.prog W = .ok () (W.setCell A (.int .i64 v)) := by go_simp
theorem rangeAt_far {W : World} {b o g j : Nat} {cs : List Value} (h : W.rangeAt b o cs) (hne : b ≠ g) (v : Value) : (W.setCell ⟨g, j, none⟩ v).rangeAt b o cs := fun k u hk => by
  rw [World.cell?_of_block (w := W) (Below.heap_setCell W ⟨g, j, none⟩ v b hne)]; exact h k u hk
theorem cell_far {W : World} {b o g j : Nat} {u : Value} (h : W.cell? ⟨b, o, none⟩ = some u) (hne : b ≠ g) (v : Value) : (W.setCell ⟨g, j, none⟩ v).cell? ⟨b, o, none⟩ = some u := by
  rw [World.cell?_of_block (w := W) (Below.heap_setCell W ⟨g, j, none⟩ v b hne)]; exact h
end Go.Proofs.YtpopnmelcplbbaaGreat
