/-
  The words that all texts of this claim share: a world that has grown, what a call returns, rows of cells in memory. Packages sat and set, and the like: functions of whole numbers alone. Package set. More laws of memory for the walk.
-/
import Derived.WalkKit
import Derived.WalkSpells
import Derived.WalkLawsBesides
import Derived.KernelRfl
import Derived.Lib.Hide
import Derived.Deep.MidRow
import Derived.Deep.WholeRow
import Derived.Deep.QuietTactic
import Derived.BigQuiet
import Derived.Deep.DeepFit
import Derived.Deep.DeepMust
import Derived.Test.YtpopnmelcplbbaaGreatProg
set_option linter.unusedVariables false
set_option linter.unusedSimpArgs false
namespace Go.Proofs.YtpopnmelcplbbaaGreat
open Go.RowKit

/-! ### The world has grown: all that was there is as it was -/
structure Ext (w w' : World) : Prop where
  below : Below w.heap.size w w'

theorem Ext.refl (w : World) : Ext w w := ⟨Below.refl _ _⟩
theorem Ext.size {w w' : World} (h : Ext w w') : w.heap.size ≤ w'.heap.size := h.below.size
theorem Ext.trans {a b c : World} (h : Ext a b) (k : Ext b c) : Ext a c := ⟨h.below.trans (k.below.mono h.size)⟩
theorem Ext.alloc {a w : World} (h : Ext a w) (o : Obj) : Ext a (w.alloc o) := ⟨h.below.alloc h.size o⟩
theorem Ext.drew {a w : World} (h : Ext a w) : Ext a w.drew := ⟨h.below.drew⟩
theorem Ext.drewN {a w : World} (h : Ext a w) (n : Nat) : Ext a (w.drewN n) := by
  induction n with
  | zero => exact h
  | succ n ih => rw [← World.drew_drewN]; exact ih.drew
theorem Ext.set {a w : World} (h : Ext a w) {p : Addr} (hp : a.heap.size ≤ p.block) (v : Value) : Ext a (w.setCell p v) := ⟨h.below.setCell hp v⟩
theorem Ext.cell {w w' : World} (h : Ext w w') {p : Addr} (hp : p.block < w.heap.size) : w'.cell? p = w.cell? p := h.below.cell hp
theorem Ext.frozen {w w' : World} (h : Ext w w') {p : Addr} (hp : p.block < w.heap.size) : w'.frozen? p = w.frozen? p := h.below.frozen hp
/-- both rules in one, for the walk -/
theorem Ext.reads {w w' : World} (h : Ext w w') : (∀ b o, b < w.heap.size → w'.cell? ⟨b, o, none⟩ = w.cell? ⟨b, o, none⟩) ∧ (∀ b o, b < w.heap.size → w'.frozen? ⟨b, o, none⟩ = w.frozen? ⟨b, o, none⟩) :=
  ⟨fun b o hb => h.cell (p := ⟨b, o, none⟩) hb, fun b o hb => h.frozen (p := ⟨b, o, none⟩) hb⟩

/-- The call returns v, and all that was there is as it was. -/
def Ret (w : World) (v : Value) : Ending → World → Prop := fun e w' => e = .returned v ∧ Ext w w'

/-! ### min, max as Lean has them -/
theorem run_max2 (P : Program) (w : World) (ts : Array TypeId) (t : TypeId) (k k' : IntKind) (x y : Int) : (Builtin.max_ ts t #[.int k x, .int k' y]).run P w = .ok (.int k (max x y)) w := by
  rw [run_max_int2]; congr 2; omega
theorem run_min2 (P : Program) (w : World) (ts : Array TypeId) (t : TypeId) (k k' : IntKind) (x y : Int) : (Builtin.min_ ts t #[.int k x, .int k' y]).run P w = .ok (.int k (min x y)) w := by
  rw [run_min_int2]; congr 2; omega
attribute [go_sem high] run_max2 run_min2

/-! ### Rows of cells in memory -/
/-- v is a slice of n elements whose cells are cs, and lies in memory that is there. -/
def RowIn (w : World) (v : Value) (n : Nat) (cs : List Value) : Prop :=
  ∃ a cap, v = .slice a n cap ∧ ((n = 0 ∧ cs = []) ∨ ∃ b off, a = some ⟨b, off, none⟩ ∧ b < w.heap.size ∧ ∀ i c, cs[i]? = some c → w.cell? ⟨b, off + i, none⟩ = some c)

theorem RowIn.ext {w w' : World} {v : Value} {n : Nat} {cs : List Value} (h : RowIn w v n cs) (e : Ext w w') : RowIn w' v n cs := by
  obtain ⟨a, cap, hv, h⟩ := h
  refine ⟨a, cap, hv, ?_⟩
  rcases h with h | ⟨b, off, ha, hb, hc⟩
  · exact .inl h
  · exact .inr ⟨b, off, ha, Nat.lt_of_lt_of_le hb e.size, fun i c hi => (e.cell (p := ⟨b, off + i, none⟩) hb).trans (hc i c hi)⟩

theorem addr_add (b o j : Nat) : (⟨b, o, none⟩ : Addr).add j = ⟨b, o + j, none⟩ := by
  unfold Addr.add; split <;> simp_all

/-- A load of a struct or an array, its cells known. -/
theorem wpList_load_agg {P : Program} {ops : Array Oper} {rest : List Oper} {o : Oper} {a : Act} {w : World} {Q : Exit → Act → World → Prop} (ty : TypeId) (x : Operand) (ho : o.op = .load ty x) (hgd : o.guard = none)
    (A : Addr) (hx : a.eval x = .pointer (some A)) (cs : List Value) (hc : ∀ j v, cs[j]? = some v → w.cell? (A.add j) = some v) (d : TypeDesc)
    (hu : P.underlying ty = some d) (hd : (match d with | .struct _ | .array _ _ => true | _ => false) = true) (hi : (P.info? ty).map (·.size) = some cs.length)
    (h : wpList P ops Q rest (a.put o.dst (.agg cs.toArray)) w) : wpList P ops Q (o :: rest) a w := by
  refine wpList_plain hgd fun K hK => ?_
  have hl : (loadCells A cs.length).run P w = .ok cs.toArray w := run_loadCells_list (P := P) w A cs hc
  cases hq : P.info? ty with
  | none => simp [hq] at hi
  | some i =>
    have hs : i.size = cs.length := by simpa [hq] using hi
    have hagg : (isAgg ty).run P w = .ok true w := by
      unfold isAgg
      rw [Sem.run_bind, run_underlying hu w]
      cases d <;> simp_all
    unfold Oper.wp execOp
    simp only [ho, hx, Instr.loadAt, Instr.sureAddr, Sem.run_bind, Sem.run_pure, Result.andThen_ok, loadVar, hagg, if_true, sizeOf, typeInfo, run_program, hq, hs, hl]
    exact hK _ _ h

theorem Ext.setCells {a w : World} (h : Ext a w) {b : Nat} (hb : a.heap.size ≤ b) (o : Nat) (vs : List Value) : Ext a (w.setCells b o vs) := by
  induction vs generalizing o w with
  | nil => exact h
  | cons v r ih => rw [World.setCells]; exact ih (h.set hb v) (o + 1)

/-- A result that is a struct or an array in memory. -/
theorem results_agg {P : Program} {fn : Func} {p : Tmp} {ty : TypeId} (h : fn.results = #[.cell p ty]) (tmps : Array Value) (w : World) (b o : Nat)
    (hp : tmps.getD p undef = .pointer (some ⟨b, o, none⟩)) (cs : List Value) (d : TypeDesc) (hc : w.rangeAt b o cs)
    (hu : P.underlying ty = some d) (hd : d.isRow = true) (hi : (P.info? ty).map (·.size) = some cs.length) :
    (results fn tmps).run P w = .ok (.agg cs.toArray) w := by
  have hp' : tmps[p]?.getD undef = .pointer (some ⟨b, o, none⟩) := by simpa using hp
  simp [results, h, hp', asAddr, run_loadVar_mid w b o ty cs d hc hu hd hi]

/-- A function value that enters function f with what it captured. -/
def Enters (f : FuncId) : Prop := ∀ (args : Array Value) (w : World), (callFunc f args).run Tryz.prog w = .ok (.enter f args) w

/-- The numbers of a row. -/
def ints (xs : List Int) : List Value := xs.map fun x => .int .i64 x
theorem ints_get (xs : List Int) (k : Nat) (h : k < xs.length) : (ints xs)[k]? = some (.int .i64 xs[k]) := by
  simp [ints, h]

end Go.Proofs.YtpopnmelcplbbaaGreat
namespace Go.Proofs.YtpopnmelcplbbaaGreat
open Go.RowKit

def cap (n : Int) : Int := min (max n 0) 2147483647
theorem cap_lo (n : Int) : 0 ≤ cap n := by unfold cap; omega
theorem cap_hi (n : Int) : cap n ≤ 2147483647 := by unfold cap; omega

theorem Cap_c (n : Int) (w : World) : Calls Tryz.prog 126 #[.int .i64 n] w fun e w' => e = .returned (.int .i64 (cap n)) ∧ w = w' := by
  go_enter Tryz.func126, Tryz.ntmps126
  go_wp2
  go_ret
  exact ⟨rfl, rfl⟩

def satAdd (a b : Int) : Int := cap (cap a + cap b)
def satMul (a b : Int) : Int := cap (cap a * cap b)

theorem Add_c (a b : Int) (w : World) : Calls Tryz.prog 88 #[.int .i64 a, .int .i64 b] w fun e w' => e = .returned (.int .i64 (satAdd a b)) ∧ w = w' := by
  have h1 := cap_lo a
  have h2 := cap_hi a
  have h3 := cap_lo b
  have h4 := cap_hi b
  go_enter Tryz.func88, Tryz.ntmps88
  go_wp2_with (go_at_call 126; refine (Cap_c _ _).mono ?_; rintro e w' ⟨rfl, rfl⟩)
  go_ret
  exact ⟨rfl, rfl⟩

theorem Mul_c (a b : Int) (w : World) : Calls Tryz.prog 89 #[.int .i64 a, .int .i64 b] w fun e w' => e = .returned (.int .i64 (satMul a b)) ∧ w = w' := by
  have h1 := cap_lo a
  have h2 := cap_hi a
  have h3 := cap_lo b
  have h4 := cap_hi b
  have h5 : 0 ≤ cap a * cap b := Int.mul_nonneg h1 h3
  have h6 : cap a * cap b ≤ 2147483647 * 2147483647 := Int.mul_le_mul h2 h4 h3 (by omega)
  go_enter Tryz.func89, Tryz.ntmps89
  go_wp2_with (go_at_call 126; refine (Cap_c _ _).mono ?_; rintro e w' ⟨rfl, rfl⟩)
  go_ret
  exact ⟨rfl, rfl⟩

theorem Full_c (n : Int) (w : World) : Calls Tryz.prog 33 #[.int .i64 n] w fun e w' => e = .returned (.bool (decide (2147483647 ≤ n))) ∧ w = w' := by
  go_enter Tryz.func33, Tryz.ntmps33
  go_wp2
  go_ret
  exact ⟨rfl, rfl⟩

/-! ### set -/
def bitOf (p : Int) : Int := if 0 ≤ p ∧ p < 8 then 2 ^ p.toNat else 0
theorem bitOf_out (p : Int) (h : ¬ (0 ≤ p ∧ p < 8)) : bitOf p = 0 := if_neg h
theorem bitOf_in (p : Int) (h : 0 ≤ p ∧ p < 8) : bitOf p = 2 ^ p.toNat := if_pos h

theorem bit_c (p : Int) (w : World) : Calls Tryz.prog 93 #[.int .i64 p] w fun e w' => e = .returned (.int .i64 (bitOf p)) ∧ w = w' := by
  by_cases h0 : p < 0
  · go_enter Tryz.func93, Tryz.ntmps93
    go_wp2
    go_ret
    exact ⟨by rw [bitOf_out p (by omega)]; rfl, rfl⟩
  · by_cases h1 : 8 ≤ p
    · go_enter Tryz.func93, Tryz.ntmps93
      go_wp2
      go_ret
      exact ⟨by rw [bitOf_out p (by omega)]; rfl, rfl⟩
    · have h2 : p = 0 ∨ p = 1 ∨ p = 2 ∨ p = 3 ∨ p = 4 ∨ p = 5 ∨ p = 6 ∨ p = 7 := by omega
      rcases h2 with rfl | rfl | rfl | rfl | rfl | rfl | rfl | rfl
      all_goals
        go_enter Tryz.func93, Tryz.ntmps93
        go_wp2
        go_ret
        exact ⟨rfl, rfl⟩
end Go.Proofs.YtpopnmelcplbbaaGreat
namespace Go.Proofs.YtpopnmelcplbbaaGreat
open Go.RowKit

/-- set.Has -/
def has (s p : Int) : Bool := bits .and .i64 s (bitOf p) != 0
def withP (s p : Int) : Int := bits .or .i64 (bits .and .i64 s 255) (bitOf p)
def setOr (s : Int) (l : List Int) : Int := l.foldl (fun s p => bits .or .i64 s (bitOf p)) s
def ofL (l : List Int) : Int := setOr 0 l

theorem Has_c (s p : Int) (w : World) : Calls Tryz.prog 39 #[.int .i64 s, .int .i64 p] w fun e w' => e = .returned (.bool (has s p)) ∧ w = w' := by
  go_enter Tryz.func39, Tryz.ntmps39
  go_wp2_with (go_at_call 93; refine (bit_c _ _).mono ?_; rintro e w' ⟨rfl, rfl⟩)
  go_ret
  exact ⟨rfl, rfl⟩

theorem With_c (s p : Int) (w : World) : Calls Tryz.prog 86 #[.int .i64 s, .int .i64 p] w fun e w' => e = .returned (.int .i64 (withP s p)) ∧ w = w' := by
  go_enter Tryz.func86, Tryz.ntmps86
  go_wp2_with (go_at_call 93; refine (bit_c _ _).mono ?_; rintro e w' ⟨rfl, rfl⟩)
  go_ret
  exact ⟨rfl, rfl⟩
end Go.Proofs.YtpopnmelcplbbaaGreat
namespace Go.Proofs.YtpopnmelcplbbaaGreat
open Go.RowKit

/-- A whole struct or array into the block that was made last. -/
theorem wpList_store_new {P : Program} {ops : Array Oper} {rest : List Oper} {o : Oper} {a : Act} {W : World} {Q : Exit → Act → World → Prop} (ty : TypeId) (x y : Operand) (ho : o.op = .store ty x y) (hgd : o.guard = none)
    (w : World) (c c' : Array Value) (hW : W = w.alloc (.cells c ty)) (B : Nat) (hx : a.eval x = .pointer (some ⟨B, 0, none⟩)) (hB : B = w.heap.size) (hy : a.eval y = .agg c') (hi : (P.info? ty).map (·.size) = some c'.size) (hs : c.size = c'.size) (h1 : c'.all (·.oneCell') = true)
    (h : wpList P ops Q rest (a.put o.dst undef) (w.alloc (.cells c' ty))) : wpList P ops Q (o :: rest) a W := by
  subst hB hW
  refine wpList_plain hgd fun K hK => ?_
  unfold Oper.wp execOp
  simp only [ho, hx, hy, run_storeAt_new (P := P) w ty c c' hi hs h1, Sem.run_bind, Result.andThen_ok]
  exact hK _ _ h

theorem bits_u16_lo (op : BinOp) (x y : Int) : 0 ≤ bits op .u16 x y := by unfold bits; rw [IntKind.wrap_u16]; exact Int.emod_nonneg _ (by omega)
theorem bits_u16_hi (op : BinOp) (x y : Int) : bits op .u16 x y < 65536 := by unfold bits; rw [IntKind.wrap_u16]; exact Int.emod_lt_of_pos _ (by omega)
theorem wrap_u16_lo (x : Int) : 0 ≤ IntKind.u16.wrap x := by rw [IntKind.wrap_u16]; exact Int.emod_nonneg _ (by omega)
theorem wrap_u16_hi (x : Int) : IntKind.u16.wrap x < 65536 := by rw [IntKind.wrap_u16]; exact Int.emod_lt_of_pos _ (by omega)

/-- the walk halts here -/
def Halt (p : Prop) : Prop := p
theorem halt {p : Prop} (h : Halt p) : p := h

/-! ### At which operation the walk stands: tried with_reducible, ahead of a law that would unfold what it does not fit -/
section
variable {P : Program} {ops : Array Oper} {rest : List Oper} {o : Oper} {a : Act} {w : World} {Q : Exit → Act → World → Prop}
theorem atIndex (ty : TypeId) {x i : Operand} (_ho : o.op = .index ty x i) (h : wpList P ops Q (o :: rest) a w) : wpList P ops Q (o :: rest) a w := h
theorem atLoad (ty : TypeId) {x : Operand} (_ho : o.op = .load ty x) (h : wpList P ops Q (o :: rest) a w) : wpList P ops Q (o :: rest) a w := h
theorem atStore (ty : TypeId) {x y : Operand} (_ho : o.op = .store ty x y) (h : wpList P ops Q (o :: rest) a w) : wpList P ops Q (o :: rest) a w := h
end
end Go.Proofs.YtpopnmelcplbbaaGreat
