/-
  code's reading of rows of numbers. Boxes that a reading makes, beside the reader; and their cells, filled one by one.
-/
import Derived.Test.YtpopnmelcplbbaaGreatGRead
import Derived.Test.YtpopnmelcplbbaaGreatGEnc
set_option linter.unusedVariables false
set_option linter.unusedSimpArgs false
namespace Go.Proofs.YtpopnmelcplbbaaGreat
open Go.RowKit

/-! ### what was made, beside the reader -/
theorem ExtB.grown {B : Nat} {a w w' : World} {row : Option Nat} (h : ExtB B a w) (hg : w.grownBy w' row) (hr : ∀ k, row = some k → a.heap.size ≤ k) : ExtB B a w' :=
  ⟨hg.os.trans h.os, hg.tape.trans h.tape, hg.output.trans h.output, Nat.le_trans h.size hg.size, fun k hk hne =>
    (hg.block k (Nat.lt_of_lt_of_le hk h.size) (fun e => by have := hr k e.symm; omega)).trans (h.block k hk hne)⟩
theorem RdAt.grown {w w' : World} {B : Nat} {l : List UInt8} {n : Nat} {c f : Int} {row : Option Nat} (h : RdAt w B l n c f) (hg : w.grownBy w' row) (hr : ∀ k, row = some k → B < k) : RdAt w' B l n c f := by
  have hlt := h.lt
  exact h.above fun k hk => hg.block k (by omega) (fun e => by have := hr k e.symm; omega)
theorem ownsRow_extB {B base sz n : Nat} {e : TypeId} {w w' : World} {v : Value} {xs : List Value} (h : w.ownsRow base e sz v n xs) (hb : B < base) (x : ExtB B w w') : w'.ownsRow base e sz v n xs := by
  refine ⟨h.1, ?_⟩
  rcases h.2 with hn | ⟨g, cap, cur, hv, hbg, hg, rest⟩
  · exact .inl hn
  · have hlt := (Array.getElem?_eq_some_iff.1 hg).1
    exact .inr ⟨g, cap, cur, hv, hbg, (x.block g hlt (by omega)).trans hg, rest⟩
theorem ownsRow_base {base base' sz n : Nat} {e : TypeId} {w : World} {v : Value} {xs : List Value} (h : w.ownsRow base e sz v n xs) (hb : base' ≤ base) : w.ownsRow base' e sz v n xs := by
  refine ⟨h.1, ?_⟩
  rcases h.2 with hn | ⟨g, cap, cur, hv, hbg, rest⟩
  · exact .inl hn
  · exact .inr ⟨g, cap, cur, hv, Nat.le_trans hb hbg, rest⟩
theorem ownsRow_nil (w : World) (base : Nat) (e : TypeId) (sz : Nat) : w.ownsRow base e sz (.slice none 0 0) 0 [] := ⟨by simp, .inl ⟨rfl, rfl⟩⟩

theorem Boxed.grown {w W W' : World} {B g : Nat} {z : Value} {row : Option Nat} (h : Boxed w B W g z) (hg : W.grownBy W' row) (hr : ∀ k, row = some k → g < k) : Boxed w B W' g z :=
  ⟨h.x.grown hg (fun k e => by have := hr k e; have := h.new; omega), h.new, h.ne, by
    obtain ⟨T, h1⟩ := h.at_
    exact ⟨T, (hg.block g h.lt (fun e => by have := hr g e.symm; omega)).trans h1⟩, h.nb⟩

/-! ### readings, one behind the other -/
abbrev Rs (α : Type) := Except (Int × Int) (α × Nat)
def timesS {α : Type} (f : Nat → Rs α) : Nat → Nat → Rs (List α)
  | 0, n => .ok ([], n)
  | k + 1, n => match f n with
    | .error e => .error e
    | .ok (x, n1) => match timesS f k n1 with
      | .error e => .error e
      | .ok (xs, n2) => .ok (x :: xs, n2)
/-- with what was read ahead -/
def prep {α : Type} (acc : List α) : Rs (List α) → Rs (List α)
  | .error e => .error e
  | .ok (xs, n) => .ok (acc ++ xs, n)
theorem prep_nil {α : Type} (r : Rs (List α)) : prep [] r = r := by cases r <;> rfl
theorem prep_zero {α : Type} (acc : List α) (f : Nat → Rs α) (n : Nat) : prep acc (timesS f 0 n) = .ok (acc, n) := by simp [prep, timesS]
theorem prep_err {α : Type} (acc : List α) (f : Nat → Rs α) (k n : Nat) (e : Int × Int) (h : f n = .error e) : prep acc (timesS f (k + 1) n) = .error e := by simp [prep, timesS, h]
theorem prep_ok {α : Type} (acc : List α) (f : Nat → Rs α) (k n : Nat) (x : α) (n1 : Nat) (h : f n = .ok (x, n1)) : prep acc (timesS f (k + 1) n) = prep (acc ++ [x]) (timesS f k n1) := by
  simp only [timesS, h]
  cases timesS f k n1 with
  | error e => rfl
  | ok y => obtain ⟨xs, n2⟩ := y; simp [prep]

theorem numS_bd {l : List UInt8} {s : Nat} {lo hi : Int} {n : Nat} {v : Int} {n' : Nat} (h : numS l s lo hi n = .ok (v, n')) : lo ≤ v ∧ v ≤ hi := by
  unfold numS at h
  split at h
  · cases h
  · split at h
    · cases h
    · cases h; omega

def rowS (l : List UInt8) (n : Nat) : Rs (List Int) :=
  match numS l 1 0 8 n with
  | .error e => .error e
  | .ok (k, n1) => timesS (fun n => numS l 1 0 7 n) k.toNat n1
def isRow (b : Nat) : World → List Int → Value → Prop := fun w xs v => w.ownsRow (b + 1) 3 1 v xs.length (ints xs)

theorem Tryz.infoInt : (Tryz.prog.info? 3).map (fun i => (i.zero, i.size, i.bytes)) = some (some (.int .i64 0), 1, 8) := by kernel_rfl

set_option maxHeartbeats 1000000 in
set_option maxRecDepth 100000 in
theorem row_read (w : World) (B : Nat) (l : List UInt8) (n : Nat) (h : RdAt w B l n 0 0) (hl : l.length ≤ 1000000000) :
    Calls Tryz.prog 64 #[readerV B] w (RdPost B l w (isRow w.heap.size) (rowS l n)) := by
  have hlt := h.lt
  have hx0 := (Ext.refl w).alloc (.cells #[.pointer (some ⟨B, 0, none⟩)] 59)
  have hc := num_c _ B l n (h.ext hx0) 1 0 8 hl (by omega)
  have HB := Lib.hid (Boxed.make w B hlt (.pointer (some ⟨B, 0, none⟩)) 59 rfl)
  unfold readerV at hc ⊢
  unfold RdPost at hc
  obtain ⟨r, hr⟩ : ∃ r, rowS l n = r := ⟨_, rfl⟩
  rw [hr]
  unfold rowS at hr
  generalize hk : numS l 1 0 8 n = rk at hc hr
  rcases rk with ⟨c, f⟩ | ⟨k, n1⟩
  · dsimp only at hr hc
    subst hr
    have H := Lib.hid hc; clear hc h hk
    go_enter Tryz.func64, Tryz.ntmps64
    go_wp2_with fail
    refine H.out.mono ?_
    rintro e w1 ⟨rfl, hx⟩
    go_wp2
    exact ⟨rfl, rfl, (hx0.toB B).trans hx⟩
  · dsimp only at hr hc
    have hkb := numS_bd hk
    have H := Lib.hid hc; clear hc h hk
    have HR := Lib.hid hr; clear hr
    go_enter Tryz.func64, Tryz.ntmps64
    go_wp2_with fail
    refine H.out.mono ?_
    rintro e w1 ⟨_, rfl, rfl, hrd, hx⟩
    clear H
    have hb1 := HB.out.step hx
    have hc1 := hb1.cell
    have HB1 := Lib.hid hb1; clear hb1 HB
    have HRD := Lib.hid hrd; clear hrd
    have HX := Lib.hid hx; clear hx hx0
    have hii := Tryz.infoInt
    cases hi : Tryz.prog.info? 3 with
    | none => rw [hi] at hii; cases hii
    | some i0 =>
    rw [hi] at hii
    simp only [Option.map_some, Option.some.injEq, Prod.mk.injEq] at hii
    obtain ⟨hz1, hz2, hz3⟩ := hii
    have HI := Lib.hid hi; clear hi
    have HZ1 := Lib.hid hz1; clear hz1
    obtain ⟨K, rfl⟩ : ∃ K : Nat, k = (K : Int) := ⟨k.toNat, by omega⟩
    rw [Int.toNat_natCast] at HR
    go_wp2_with fail
    go_loopw [3, 6] (fun v i wr => ∃ (j m : Nat) (acc : List Int), j ≤ K ∧ i = .int .i64 j ∧ acc.length = j ∧ wr.ownsRow (w.heap.size + 1) 3 1 v acc.length (ints acc) ∧ RdAt wr B l m 0 0 ∧
      Boxed w B wr w.heap.size (.pointer (some ⟨B, 0, none⟩)) ∧ prep acc (timesS (fun n => numS l 1 0 7 n) (K - j) m) = r) (fun _ i _ => K - (intOf i).toNat)
    case atStart => exact ⟨0, n1, [], Nat.zero_le _, rfl, rfl, ownsRow_nil _ _ _ _, HRD.out, HB1.out, by rw [prep_nil]; exact HR.out⟩
    case round =>
      obtain ⟨j, m, acc, hj, rfl, hacc, hown, hrd, hbx, hpr⟩ := hrel
      clear HR HRD HB1 HX hc1
      by_cases hlt2 : j < K
      · have hcn := num_c wr B l m hrd 1 0 7 hl (by omega)
        have hcx := hbx.cell
        obtain ⟨d, hd⟩ : ∃ d, K - j = d + 1 := ⟨K - j - 1, by omega⟩
        rw [hd] at hpr
        unfold RdPost readerV at hcn
        generalize hq : numS l 1 0 7 m = rq at hcn
        rcases rq with ⟨c, f⟩ | ⟨x, m'⟩
        · rw [prep_err acc _ d m _ hq] at hpr
          subst hpr
          have H := Lib.hid hcn; clear hcn hq
          have HBX := Lib.hid hbx; clear hbx hown hrd
          go_wp2_with fail
          refine H.out.mono ?_
          rintro e w2 ⟨rfl, hx2⟩
          go_wp2
          exact ⟨rfl, rfl, HBX.out.x.trans hx2⟩
        · rw [prep_ok acc _ d m x m' hq] at hpr
          have H := Lib.hid hcn; clear hcn hq
          have HPR := Lib.hid hpr; clear hpr
          have HBX := Lib.hid hbx; clear hbx hrd
          have HOWN := Lib.hid hown; clear hown
          go_wp2_with fail
          refine H.out.mono ?_
          rintro e w2 ⟨_, rfl, rfl, hrd2, hx2⟩
          clear H hcx
          have hown2 := (ownsRow_extB HOWN.out (by omega) hx2).alloc (.cells #[.int .i64 x] 3)
          have hbx2 := (HBX.out.step hx2).step (((Ext.refl w2).alloc (.cells #[.int .i64 x] 3)).toB B)
          have hrd3 := hrd2.ext ((Ext.refl w2).alloc (.cells #[.int .i64 x] 3))
          have hlt3 := hbx2.lt
          have HOWN2 := Lib.hid hown2; clear hown2 HOWN hrd2 hx2
          have HBX2 := Lib.hid hbx2; clear hbx2 HBX
          have HRD3 := Lib.hid hrd3; clear hrd3
          go_wp2_with (at_builtin; refine wpList_append_own _ rfl _ _ 64 rfl (w.heap.size + 1) 3 i0 (.int .i64 0) 1 8 Tryz.underlying64 HI.out HZ1.out hz2 hz3 rfl (by omega) _ acc.length (ints acc) rfl HOWN2.out ⟨w2.heap.size, 0, none⟩ 1 1 [.int .i64 x] rfl rfl (cell_one_new _ _ _) (by simp [Value.oneCell']) (by simp [maxLen]; omega) (by omega) (by simp at hlt3 ⊢; omega) ?_; intro v3 w3 hown3 hg3 _)
          have hlk := HOWN2.out.lt
          have hrd4 := HRD3.out.grown hg3 (fun k e => by have := (hlk k e).1; omega)
          have hbx4 := HBX2.out.grown hg3 (fun k e => by have := (hlk k e).1; omega)
          clear hlk HOWN2 HBX2 HRD3 hg3
          go_roundw
          case rel => exact ⟨j + 1, m', acc ++ [x], by omega, by go_num, by simp [hacc], by simpa [ints] using hown3, hrd4, hbx4, by rw [show K - (j + 1) = d by omega]; exact HPR.out⟩
          case measure => simp [intOf]; omega
      · rw [show K - j = 0 by omega, prep_zero] at hpr
        subst hpr
        have HBX := Lib.hid hbx; clear hbx
        have HOWN := Lib.hid hown; clear hown
        have HRD := Lib.hid hrd; clear hrd
        go_wp2
        go_ret
        exact ⟨_, rfl, HOWN.out, HRD.out, HBX.out.x⟩
end Go.Proofs.YtpopnmelcplbbaaGreat
namespace Go.Proofs.YtpopnmelcplbbaaGreat
open Go.RowKit

/-- box g, made behind w, holds cs; beside block B nothing of w has turned -/
structure Held (w : World) (B : Nat) (W : World) (g : Nat) (cs : List Value) : Prop where
  x : ExtB B w W
  hB : B < w.heap.size
  new : w.heap.size ≤ g
  at_ : ∃ T, W.heap[g]? = some (.cells cs.toArray T (0, 0))

section
variable {w W W' : World} {B g g' j : Nat} {cs : List Value} {l : List UInt8} {n : Nat} {c f : Int} {v : Value}
theorem Held.lt (h : Held w B W g cs) : g < W.heap.size := by obtain ⟨T, h⟩ := h.at_; exact (Array.getElem?_eq_some_iff.1 h).1
theorem Held.cell (h : Held w B W g cs) (hj : cs[j]? = some v) : W.cell? ⟨g, j, none⟩ = some v := by
  obtain ⟨T, h⟩ := h.at_; rw [cell_of_row W g j _ _ _ h]; simpa using hj
theorem Held.range (h : Held w B W g cs) : W.rangeAt g 0 cs := fun j v hj => by rw [Nat.zero_add]; exact h.cell hj
theorem Held.free (h : Held w B W g cs) (j : Nat) : W.frozen? ⟨g, j, none⟩ = false := by obtain ⟨T, h⟩ := h.at_; simp [World.frozen?, h]
theorem Held.step (h : Held w B W g cs) (e : ExtB B W W') : Held w B W' g cs :=
  ⟨h.x.trans e, h.hB, h.new, by obtain ⟨T, h1⟩ := h.at_; exact ⟨T, (e.block g h.lt (by have := h.hB; have := h.new; omega)).trans h1⟩⟩
theorem Held.ext (h : Held w B W g cs) (e : Ext W W') : Held w B W' g cs := h.step (e.toB B)
theorem Held.set (h : Held w B W g cs) (j : Nat) (v : Value) : Held w B (W.setCell ⟨g, j, none⟩ v) g (cs.set j v) :=
  ⟨⟨h.x.os, h.x.tape, h.x.output, Nat.le_trans h.x.size (by simp [World.setCell]), fun k hk hne => by
      rw [Below.heap_setCell _ _ _ _ (show k ≠ g by have := h.new; omega)]; exact h.x.block k hk hne⟩, h.hB, h.new,
    by obtain ⟨T, h1⟩ := h.at_; exact ⟨T, by simp [World.setCell, Array.getElem?_modify, h1]⟩⟩
theorem Held.other (h : Held w B W g cs) (hg : w.heap.size ≤ g') (hne : g ≠ g') (j : Nat) (v : Value) : Held w B (W.setCell ⟨g', j, none⟩ v) g cs :=
  ⟨⟨h.x.os, h.x.tape, h.x.output, Nat.le_trans h.x.size (by simp [World.setCell]), fun k hk hne => by
      rw [Below.heap_setCell _ _ _ _ (show k ≠ g' by omega)]; exact h.x.block k hk hne⟩, h.hB, h.new,
    by obtain ⟨T, h1⟩ := h.at_; exact ⟨T, by rw [Below.heap_setCell _ _ _ _ (show g ≠ g' from hne)]; exact h1⟩⟩
theorem Held.rd (h : Held w B W g cs) (hr : RdAt W B l n c f) (j : Nat) (v : Value) : RdAt (W.setCell ⟨g, j, none⟩ v) B l n c f :=
  hr.above fun k hk => Below.heap_setCell _ _ _ _ (show k ≠ g by have := h.hB; have := h.new; omega)
theorem Held.made (x : ExtB B w W) (hB : B < w.heap.size) (cs : List Value) (T : TypeId) : Held w B (W.alloc (.cells cs.toArray T)) W.heap.size cs :=
  ⟨x.trans (((Ext.refl W).alloc _).toB B), hB, x.size, ⟨T, heap_alloc_last _ _⟩⟩
theorem Held.sets (h : Held w B W g cs) (o : Nat) (vs : List Value) : ∃ cs', cs' = (vs.zipIdx o).foldl (fun c p => c.set p.2 p.1) cs ∧ Held w B (W.setCells g o vs) g cs' := by
  induction vs generalizing cs W o with
  | nil => exact ⟨cs, rfl, h⟩
  | cons v vs ih =>
    obtain ⟨cs', e, h'⟩ := ih (h.set o v) (o + 1)
    exact ⟨cs', by rw [e]; rfl, h'⟩
theorem Held.sets_other (h : Held w B W g cs) (hg : w.heap.size ≤ g') (hne : g ≠ g') (o : Nat) (vs : List Value) : Held w B (W.setCells g' o vs) g cs := by
  induction vs generalizing W o with
  | nil => exact h
  | cons v vs ih => exact ih (h.other hg hne o v) (o + 1)
theorem Held.sets_rd (h : Held w B W g cs) (hr : RdAt W B l n c f) (o : Nat) (vs : List Value) : RdAt (W.setCells g o vs) B l n c f := by
  induction vs generalizing cs W o with
  | nil => exact hr
  | cons v vs ih => exact ih (h.set o v) (h.rd hr o v) (o + 1)
theorem Held.grown {row : Option Nat} (h : Held w B W g cs) (hg : W.grownBy W' row) (hr : ∀ k, row = some k → g ≠ k ∧ w.heap.size ≤ k) : Held w B W' g cs :=
  ⟨h.x.grown hg (fun k e => (hr k e).2), h.hB, h.new, by
    obtain ⟨T, h1⟩ := h.at_
    exact ⟨T, (hg.block g h.lt (fun e => (hr g e.symm).1 rfl)).trans h1⟩⟩
end

/-- a piece of a list, written anew -/
theorem set_piece (pre : List Value) (a v : Value) (tail : List Value) (j : Nat) (hj : j = pre.length) : (pre ++ a :: tail).set j v = pre ++ v :: tail := by
  subst hj; simp
theorem sets_piece (pre old vs tail : List Value) (o : Nat) (ho : o = pre.length) (hl : old.length = vs.length) :
    (vs.zipIdx o).foldl (fun c p => c.set p.2 p.1) (pre ++ old ++ tail) = pre ++ vs ++ tail := by
  induction vs generalizing pre old o with
  | nil => simp [List.eq_nil_of_length_eq_zero (by simpa using hl)]
  | cons v vs ih =>
    cases old with
    | nil => simp at hl
    | cons a old =>
      have := ih (pre ++ [v]) old (o + 1) (by simp [ho]) (by simpa using hl)
      rw [List.zipIdx_cons, List.foldl_cons, List.append_assoc, List.cons_append, set_piece pre a v (old ++ tail) o ho]
      simpa using this

section
variable {w W : World} {B g : Nat} {cs : List Value}
theorem Held.there (h : Held w B W g cs) (o n : Nat) (hn : o + n ≤ cs.length) : W.there g o n := fun j hj => by
  have hlt : o + j < cs.length := by omega
  exact ⟨by rw [h.cell (List.getElem?_eq_getElem hlt)]; rfl, h.free _⟩
theorem Held.put {pre old tail : List Value} (h : Held w B W g (pre ++ old ++ tail)) (o : Nat) (vs : List Value) (ho : o = pre.length) (hl : old.length = vs.length) : Held w B (W.setCells g o vs) g (pre ++ vs ++ tail) := by
  obtain ⟨cs', e, h'⟩ := h.sets o vs
  rw [sets_piece pre old vs tail o ho hl] at e
  rw [← e]; exact h'
theorem Held.all (h : Held w B W g cs) (vs : List Value) (hl : cs.length = vs.length) : Held w B (W.setCells g 0 vs) g vs := by
  have h1 : Held w B W g ([] ++ cs ++ []) := by simpa using h
  simpa using h1.put 0 vs rfl hl
end

/-- cells that are filled with numbers, so many so far -/
def fill (acc : List Int) (K : Nat) : List Value := ints acc ++ List.replicate (K - acc.length) (.int .i64 0)
theorem fill_zero (K : Nat) : fill [] K = List.replicate K (.int .i64 0) := by simp [fill, ints]
theorem fill_full (acc : List Int) (K : Nat) (h : acc.length = K) : fill acc K = ints acc := by simp [fill, h]
theorem fill_set (pre tail : List Value) (acc : List Int) (K j : Nat) (x : Int) (hj : j = pre.length + acc.length) (hK : acc.length < K) :
    (pre ++ fill acc K ++ tail).set j (.int .i64 x) = pre ++ fill (acc ++ [x]) K ++ tail := by
  obtain ⟨d, hd⟩ : ∃ d, K - acc.length = d + 1 := ⟨K - acc.length - 1, by omega⟩
  have h1 : pre ++ fill acc K ++ tail = (pre ++ ints acc) ++ (.int .i64 0 :: (List.replicate d (.int .i64 0) ++ tail)) := by simp [fill, hd, List.replicate_succ]
  have h2 : pre ++ fill (acc ++ [x]) K ++ tail = (pre ++ ints acc) ++ (.int .i64 x :: (List.replicate d (.int .i64 0) ++ tail)) := by
    have : K - (acc ++ [x]).length = d := by simp; omega
    simp only [fill, this]
    simp [ints]
  rw [h1, h2]
  exact set_piece (pre ++ ints acc) _ _ _ j (by simp [ints, hj])
theorem fill_at (pre tail : List Value) (acc : List Int) (K : Nat) (hK : acc.length < K) : (pre ++ fill acc K ++ tail)[pre.length + acc.length]? = some (.int .i64 0) := by
  obtain ⟨d, hd⟩ : ∃ d, K - acc.length = d + 1 := ⟨K - acc.length - 1, by omega⟩
  have h : pre ++ fill acc K ++ tail = (pre ++ ints acc) ++ (.int .i64 0 :: (List.replicate d (.int .i64 0) ++ tail)) := by simp [fill, hd, List.replicate_succ]
  rw [h, List.getElem?_append_right (by simp [ints])]
  simp [ints]

/-- pointers to neighbours -/
def ptrs (g o K : Nat) : List Value := (List.range K).map fun j => .pointer (some ⟨g, o + j, none⟩)
theorem ptrs_get (g o K j : Nat) (h : j < K) : (ptrs g o K)[j]? = some (.pointer (some ⟨g, o + j, none⟩)) := by simp [ptrs, h]
end Go.Proofs.YtpopnmelcplbbaaGreat
