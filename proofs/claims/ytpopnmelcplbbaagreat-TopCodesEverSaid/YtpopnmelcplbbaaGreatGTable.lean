/-
  What the reading of a table wants: its box, piece by piece. code's reading of a table.
-/
import Derived.Deep.RegionHeld2
import Derived.Deep.RegionHeld3
import Derived.Deep.AppendLies
import Derived.Test.YtpopnmelcplbbaaGreatGParts
import Derived.Deep.RegionLaw
set_option linter.unusedVariables false
set_option linter.unusedSimpArgs false
namespace Go.Proofs.YtpopnmelcplbbaaGreat
open Go.RowKit

/-! ### the box of a table that is being read -/
def zeroPhs (k : Nat) : List Value := (List.replicate k zeroPh).flatMap Ph.cells
def tl (gv : Value) (cf : List Value) (dv rv bv : Value) (ts fl : List Value) (x y : Value) : List Value := gv :: (cf ++ (dv :: rv :: bv :: (ts ++ (fl ++ [x, y]))))
def nilS : Value := .slice none 0 0
theorem zero_box : (.cells Tryz.zeroCells34 34 : Obj) = .cells (zeroPhs 8 ++ tl nilS (fill [] 8) nilS nilS nilS (fill [] 5) (fill [] 8) (.int .i64 0) (.int .i64 0)).toArray 34 := by kernel_rfl

section
variable {hd cf ts fl : List Value} {gv dv rv bv x y v : Value}
theorem tl_at (h : hd.length = 104) (j : Nat) : (hd ++ tl gv cf dv rv bv ts fl x y)[104 + j]? = (tl gv cf dv rv bv ts fl x y)[j]? := by
  rw [List.getElem?_append_right (by omega), show 104 + j - hd.length = j by omega]
theorem tl_g (h : hd.length = 104) : (hd ++ tl gv cf dv rv bv ts fl x y)[104]? = some gv := tl_at h 0
theorem tl_d (h : hd.length = 104) (hc : cf.length = 8) : (hd ++ tl gv cf dv rv bv ts fl x y)[113]? = some dv := by
  rw [tl_at h 9]; unfold tl; rw [List.getElem?_cons_succ, List.getElem?_append_right (by omega), hc]; rfl
theorem tl_r (h : hd.length = 104) (hc : cf.length = 8) : (hd ++ tl gv cf dv rv bv ts fl x y)[114]? = some rv := by
  rw [tl_at h 10]; unfold tl; rw [List.getElem?_cons_succ, List.getElem?_append_right (by omega), hc]; rfl
theorem tl_b (h : hd.length = 104) (hc : cf.length = 8) : (hd ++ tl gv cf dv rv bv ts fl x y)[115]? = some bv := by
  rw [tl_at h 11]; unfold tl; rw [List.getElem?_cons_succ, List.getElem?_append_right (by omega), hc]; rfl
theorem tl_x (h : hd.length = 104) (hc : cf.length = 8) (ht : ts.length = 5) (hf : fl.length = 8) : (hd ++ tl gv cf dv rv bv ts fl x y)[129]? = some x := by
  have : hd ++ tl gv cf dv rv bv ts fl x y = (hd ++ gv :: (cf ++ (dv :: rv :: bv :: (ts ++ fl)))) ++ [x, y] := by simp [tl]
  rw [this, List.getElem?_append_right (by simp; omega)]
  simp [h, hc, ht, hf]
theorem tl_y (h : hd.length = 104) (hc : cf.length = 8) (ht : ts.length = 5) (hf : fl.length = 8) : (hd ++ tl gv cf dv rv bv ts fl x y)[130]? = some y := by
  have : hd ++ tl gv cf dv rv bv ts fl x y = (hd ++ gv :: (cf ++ (dv :: rv :: bv :: (ts ++ fl)))) ++ [x, y] := by simp [tl]
  rw [this, List.getElem?_append_right (by simp; omega)]
  simp [h, hc, ht, hf]
theorem tl_set_g (h : hd.length = 104) : (hd ++ tl gv cf dv rv bv ts fl x y).set 104 v = hd ++ tl v cf dv rv bv ts fl x y := set_piece hd gv v _ 104 h.symm
theorem tl_set_d (h : hd.length = 104) (hc : cf.length = 8) : (hd ++ tl gv cf dv rv bv ts fl x y).set 113 v = hd ++ tl gv cf v rv bv ts fl x y := by
  have := set_piece (hd ++ gv :: cf) dv v (rv :: bv :: (ts ++ (fl ++ [x, y]))) 113 (by simp; omega)
  simpa [tl] using this
theorem tl_set_r (h : hd.length = 104) (hc : cf.length = 8) : (hd ++ tl gv cf dv rv bv ts fl x y).set 114 v = hd ++ tl gv cf dv v bv ts fl x y := by
  have := set_piece (hd ++ gv :: (cf ++ [dv])) rv v (bv :: (ts ++ (fl ++ [x, y]))) 114 (by simp; omega)
  simpa [tl] using this
theorem tl_set_b (h : hd.length = 104) (hc : cf.length = 8) : (hd ++ tl gv cf dv rv bv ts fl x y).set 115 v = hd ++ tl gv cf dv rv v ts fl x y := by
  have := set_piece (hd ++ gv :: (cf ++ [dv, rv])) bv v (ts ++ (fl ++ [x, y])) 115 (by simp; omega)
  simpa [tl] using this
theorem tl_set_x (h : hd.length = 104) (hc : cf.length = 8) (ht : ts.length = 5) (hf : fl.length = 8) : (hd ++ tl gv cf dv rv bv ts fl x y).set 129 v = hd ++ tl gv cf dv rv bv ts fl v y := by
  have := set_piece (hd ++ gv :: (cf ++ (dv :: rv :: bv :: (ts ++ fl)))) x v [y] 129 (by simp; omega)
  simpa [tl] using this
theorem tl_set_y (h : hd.length = 104) (hc : cf.length = 8) (ht : ts.length = 5) (hf : fl.length = 8) : (hd ++ tl gv cf dv rv bv ts fl x y).set 130 v = hd ++ tl gv cf dv rv bv ts fl x v := by
  have := set_piece (hd ++ gv :: (cf ++ (dv :: rv :: bv :: (ts ++ (fl ++ [x]))))) y v [] 130 (by simp; omega)
  simpa [tl] using this
theorem tl_cf : hd ++ tl gv cf dv rv bv ts fl x y = (hd ++ [gv]) ++ cf ++ (dv :: rv :: bv :: (ts ++ (fl ++ [x, y]))) := by simp [tl]
theorem tl_ts : hd ++ tl gv cf dv rv bv ts fl x y = (hd ++ gv :: (cf ++ [dv, rv, bv])) ++ ts ++ (fl ++ [x, y]) := by simp [tl]
theorem tl_fl : hd ++ tl gv cf dv rv bv ts fl x y = (hd ++ gv :: (cf ++ (dv :: rv :: bv :: ts))) ++ fl ++ [x, y] := by simp [tl]
theorem tl_len (h : hd.length = 104) (hc : cf.length = 8) (ht : ts.length = 5) (hf : fl.length = 8) : (hd ++ tl gv cf dv rv bv ts fl x y).length = 131 := by simp [tl, h, hc, ht, hf]
end
attribute [irreducible] tl zeroPhs

theorem phs_len_cells (acc : List Ph) : (acc.flatMap Ph.cells).length = 13 * acc.length := by
  induction acc with
  | nil => rfl
  | cons x xs ih => simp only [List.flatMap_cons, List.length_append, Ph.len, ih, List.length_cons]; omega
theorem zeroPhs_len (k : Nat) : (zeroPhs k).length = 13 * k := by unfold zeroPhs; rw [phs_len_cells]; simp
theorem zeroPhs_succ (d : Nat) : zeroPhs (d + 1) = zeroPh.cells ++ zeroPhs d := by unfold zeroPhs; rw [List.replicate_succ, List.flatMap_cons]

/-! ### the table that is read -/
def mkTab (phs : List Ph) (groups : List (List Int × List Int)) (cf : List Int) (dets : List Det) (rails : List Ra) (buses : List Bu) (ts fl : List Int) (window share : Int) : Tab :=
  { ph := fun i => phs.getD i zeroPh, groups := groups, conflict := fun i => cf.getD i 0, dets := dets, rails := rails, buses := buses,
    extend := ts.getD 0 0, budget := ts.getD 1 0, start := ts.getD 2 0, revert := ts.getD 3 0, least := ts.getD 4 0, flash := fun i => fl.getD i 0, window := window, share := share }
theorem range8 {α : Type} (f : Nat → α) : (List.range 8).map f = [f 0, f 1, f 2, f 3, f 4, f 5, f 6, f 7] := rfl
theorem list8 {α : Type} (xs : List α) (z : α) (h : xs.length = 8) : (List.range 8).map (fun i => xs.getD i z) = xs := by
  match xs, h with
  | [a, b, c, d, e, f, g, i], _ => rfl
theorem mkTab_cells (phs : List Ph) (groups : List (List Int × List Int)) (cf : List Int) (dets : List Det) (rails : List Ra) (buses : List Bu) (ts fl : List Int) (window share : Int) (gv dv rv bv : Value)
    (h1 : phs.length = 8) (h2 : cf.length = 8) (h3 : ts.length = 5) (h4 : fl.length = 8) :
    (mkTab phs groups cf dets rails buses ts fl window share).cells gv dv rv bv = phs.flatMap Ph.cells ++ tl gv (ints cf) dv rv bv (ints ts) (ints fl) (.int .i64 window) (.int .i64 share) := by
  have e1 : (mkTab phs groups cf dets rails buses ts fl window share).phs = phs := list8 phs zeroPh h1
  have e2 : arr8 (mkTab phs groups cf dets rails buses ts fl window share).conflict = cf := list8 cf 0 h2
  have e3 : arr8 (mkTab phs groups cf dets rails buses ts fl window share).flash = fl := list8 fl 0 h4
  unfold Tab.cells tl
  rw [e1, e2, e3]
  match ts, h3 with
  | [a, b, c, d, e], _ => simp [mkTab, ints]

def groupS (l : List UInt8) (n : Nat) : Rs (List Int × List Int) :=
  match rowS l n with
  | .error e => .error e
  | .ok (a, n1) => match rowS l n1 with
    | .error e => .error e
    | .ok (b, n2) => .ok ((a, b), n2)
def busS (l : List UInt8) (n : Nat) : Rs Bu :=
  match numS l 1 0 255 n with
  | .error e => .error e
  | .ok (s, n1) => match numS l 2 0 9999 n1 with
    | .error e => .error e
    | .ok (k, n2) => .ok (⟨s, k⟩, n2)
def tableS (l : List UInt8) (n : Nat) : Rs Tab :=
  match timesS (phaseS l) 8 n with
  | .error e => .error e
  | .ok (phs, m1) => match numS l 1 0 4 m1 with
    | .error e => .error e
    | .ok (gn, m2) => match timesS (groupS l) gn.toNat m2 with
      | .error e => .error e
      | .ok (groups, m3) => match timesS (fun n => numS l 1 0 255 n) 8 m3 with
        | .error e => .error e
        | .ok (cf, m4) => match numS l 1 0 16 m4 with
          | .error e => .error e
          | .ok (dn, m5) => match timesS (detS l) dn.toNat m5 with
            | .error e => .error e
            | .ok (dets, m6) => match numS l 1 0 4 m6 with
              | .error e => .error e
              | .ok (rn, m7) => match timesS (railS l) rn.toNat m7 with
                | .error e => .error e
                | .ok (rails, m8) => match numS l 1 0 4 m8 with
                  | .error e => .error e
                  | .ok (bn, m9) => match timesS (busS l) bn.toNat m9 with
                    | .error e => .error e
                    | .ok (buses, m10) => match timesS (fun n => numS l 2 0 9999 n) 5 m10 with
                      | .error e => .error e
                      | .ok (ts, m11) => match timesS (fun n => numS l 1 0 2 n) 8 m11 with
                        | .error e => .error e
                        | .ok (fl, m12) => match numS l 4 0 2147483647 m12 with
                          | .error e => .error e
                          | .ok (win, m13) => match numS l 4 0 2147483647 m13 with
                            | .error e => .error e
                            | .ok (share, m14) => .ok (mkTab phs groups cf dets rails buses ts fl win share, m14)

theorem box_one (phs : List Ph) (cf ts fl : List Int) (a1 a2 a3 a4 : Option Addr) (n1 n2 n3 n4 c1 c2 c3 c4 : Nat) (win share : Int) :
    ∀ v ∈ phs.flatMap Ph.cells ++ tl (.slice a1 n1 c1) (ints cf) (.slice a2 n2 c2) (.slice a3 n3 c3) (.slice a4 n4 c4) (ints ts) (ints fl) (.int .i64 win) (.int .i64 share), v.oneCell' = true := by
  intro v hv
  unfold tl at hv
  simp only [List.mem_append, List.mem_flatMap, List.mem_cons, List.not_mem_nil, or_false, ints, List.mem_map, Ph.cells] at hv
  rcases hv with ⟨x, _, h⟩ | rfl | ⟨x, _, rfl⟩ | rfl | rfl | rfl | ⟨x, _, rfl⟩ | ⟨x, _, rfl⟩ | rfl | rfl
  · rcases h with rfl | rfl | rfl | rfl | rfl | rfl | rfl | rfl | rfl | rfl | rfl | rfl | rfl <;> rfl
  all_goals rfl
theorem size_set (w : World) (b o : Nat) (v : Value) : (w.setCell ⟨b, o, none⟩ v).heap.size = w.heap.size := by simp [World.setCell]
theorem heap_set_new (w : World) (b k : Nat) (v : Value) (o : Obj) : ((w.setCell ⟨b, k, none⟩ v).alloc o).heap[w.heap.size]? = some o := by
  have := heap_alloc_new (w.setCell ⟨b, k, none⟩ v) o
  rwa [size_set] at this
theorem far_cell {w w' : World} {o : Obj} {row : Option Nat} {a : Addr} {v : Value} (hg : (w.alloc o).grownBy w' row) (hc : w.cell? a = some v) (hne : some a.block ≠ row) : w'.cell? a = some v := by
  have hlt := World.block_lt_of_cell? w a hc
  rw [hg.cell_far a (by rw [World.size_alloc]; omega) hne, World.cell?_alloc_lt _ _ _ hlt]
  exact hc
theorem far_free {w w' : World} {o : Obj} {row : Option Nat} {a : Addr} {v : Value} (hg : (w.alloc o).grownBy w' row) (hc : w.cell? a = some v) (hz : w.frozen? a = false) (hne : some a.block ≠ row) : w'.frozen? a = false := by
  have hlt := World.block_lt_of_cell? w a hc
  rw [hg.frozen_far a (by rw [World.size_alloc]; omega) hne, World.frozen?_alloc_old _ _ _ (Nat.ne_of_lt hlt)]
  exact hz

/-! ### rows that lie apart -/
theorem ownsRow_apart {w : World} {b1 b2 s1 s2 n1 n2 : Nat} {e1 e2 : TypeId} {v1 v2 : Value} {x1 x2 : List Value} (h1 : w.ownsRow b1 e1 s1 v1 n1 x1) (h2 : w.ownsRow b2 e2 s2 v2 n2 x2) (hne : e1 ≠ e2) :
    v1.ownBlock = none ∨ v1.ownBlock ≠ v2.ownBlock := by
  rcases h1.2 with ⟨rfl, _⟩ | ⟨g, cap, cur, rfl, _, hg, _⟩
  · exact .inl rfl
  · right
    rcases h2.2 with ⟨rfl, _⟩ | ⟨g', cap', cur', rfl, _, hg', _⟩
    · simp [Value.ownBlock]
    · simp only [Value.ownBlock, ne_eq, Option.some.injEq]
      intro e
      subst e
      rw [hg] at hg'
      cases hg'
      exact hne rfl
theorem ownsRow_set {w : World} {base e s n g o : Nat} {v u : Value} {xs : List Value} (h : w.ownsRow base e s v n xs) (hg : g < base) : (w.setCell ⟨g, o, none⟩ u).ownsRow base e s v n xs := by
  refine ⟨h.1, ?_⟩
  rcases h.2 with hn | ⟨g', cap, cur, hv, hbg, hg', rest⟩
  · exact .inl hn
  · exact .inr ⟨g', cap, cur, hv, hbg, by rw [Below.heap_setCell _ _ _ _ (show g' ≠ g by omega)]; exact hg', rest⟩
theorem rowIn_owned {w : World} {base : Nat} {e : TypeId} {v : Value} {s n : Nat} {xs : List Value} (h : w.ownsRow base e s v n xs) : RowIn w v n xs := by
  obtain ⟨hl, h⟩ := h
  rcases h with ⟨rfl, rfl⟩ | ⟨g, cap, cur, rfl, hg, hh, h1, h2, h3, h4⟩
  · exact ⟨none, 0, rfl, .inl ⟨rfl, List.eq_nil_of_length_eq_zero (by simpa using hl)⟩⟩
  · refine ⟨_, _, rfl, .inr ⟨g, 0, rfl, ?_, ?_⟩⟩
    · exact (Array.getElem?_eq_some_iff.1 hh).1
    · intro i c hi
      have hlt : i < xs.length := (List.getElem?_eq_some_iff.1 hi).1
      rw [Nat.zero_add, cell_of_row w g i cur e (0, 0) hh]
      rw [← h4, List.getElem?_take] at hi
      split at hi
      · simpa using hi
      · cases hi
/-- a group whose rows were made -/
def GOwn (b : Nat) (w : World) (g : GV) : Prop := w.ownsRow b 3 1 g.a g.l.length (ints g.l) ∧ w.ownsRow b 3 1 g.b g.r.length (ints g.r) ∧ g.l.length ≤ 8 ∧ g.r.length ≤ 8
theorem GOwn.extB {b B : Nat} {w w' : World} {g : GV} (h : GOwn b w g) (hb : B < b) (x : ExtB B w w') : GOwn b w' g := ⟨ownsRow_extB h.1 hb x, ownsRow_extB h.2.1 hb x, h.2.2⟩
theorem GOwn.set {b k o : Nat} {w : World} {g : GV} {u : Value} (h : GOwn b w g) (hb : k < b) : GOwn b (w.setCell ⟨k, o, none⟩ u) g := ⟨ownsRow_set h.1 hb, ownsRow_set h.2.1 hb, h.2.2⟩
theorem GOwn.grown {b b2 s n : Nat} {e : TypeId} {w w' : World} {g : GV} {v : Value} {xs : List Value} (h : GOwn b w g) (hv : w.ownsRow b2 e s v n xs) (he : 3 ≠ e) (hg : w.grownBy w' v.ownBlock) : GOwn b w' g :=
  ⟨h.1.kept hg (ownsRow_apart h.1 hv he), h.2.1.kept hg (ownsRow_apart h.2.1 hv he), h.2.2⟩
theorem rowS_len {l : List UInt8} {n : Nat} {xs : List Int} {m : Nat} (h : rowS l n = .ok (xs, m)) : xs.length ≤ 8 := by
  unfold rowS at h
  cases h1 : numS l 1 0 8 n with
  | error e => rw [h1] at h; cases h
  | ok y =>
    obtain ⟨k, n1⟩ := y
    rw [h1] at h
    have := timesS_len h
    have := numS_bd h1
    omega
/-! ### all that was made for the table -/
structure Made (b : Nat) (w : World) (gv : Value) (gs : List GV) (dv : Value) (ds : List Det) (rv : Value) (rs : List Ra) (bv : Value) (bs : List Bu) : Prop where
  g : w.ownsRow b 65 2 gv gs.length (gs.flatMap GV.cells)
  gr : ∀ x ∈ gs, GOwn b w x
  d : w.ownsRow b 68 7 dv ds.length (ds.flatMap Det.cells)
  r : w.ownsRow b 72 11 rv rs.length (rs.flatMap Ra.cells)
  b : w.ownsRow b 74 2 bv bs.length (bs.flatMap Bu.cells)
section
variable {b B k o : Nat} {w w' : World} {gv dv rv bv v u : Value} {gs : List GV} {ds : List Det} {rs : List Ra} {bs : List Bu}
theorem Made.extB (h : Made b w gv gs dv ds rv rs bv bs) (hb : B < b) (x : ExtB B w w') : Made b w' gv gs dv ds rv rs bv bs :=
  ⟨ownsRow_extB h.g hb x, fun y hy => (h.gr y hy).extB hb x, ownsRow_extB h.d hb x, ownsRow_extB h.r hb x, ownsRow_extB h.b hb x⟩
theorem Made.set (h : Made b w gv gs dv ds rv rs bv bs) (hb : k < b) : Made b (w.setCell ⟨k, o, none⟩ u) gv gs dv ds rv rs bv bs :=
  ⟨ownsRow_set h.g hb, fun y hy => (h.gr y hy).set hb, ownsRow_set h.d hb, ownsRow_set h.r hb, ownsRow_set h.b hb⟩
theorem Made.addD (h : Made b w gv gs dv ds rv rs bv bs) (x : Det) (hg : w.grownBy w' dv.ownBlock) (ho : w'.ownsRow b 68 7 v (ds.length + 1) (ds.flatMap Det.cells ++ x.cells)) : Made b w' gv gs v (ds ++ [x]) rv rs bv bs :=
  ⟨h.g.kept hg (ownsRow_apart h.g h.d (by decide)), fun y hy => (h.gr y hy).grown h.d (by decide) hg, by simpa using ho, h.r.kept hg (ownsRow_apart h.r h.d (by decide)), h.b.kept hg (ownsRow_apart h.b h.d (by decide))⟩
theorem Made.addR (h : Made b w gv gs dv ds rv rs bv bs) (x : Ra) (hg : w.grownBy w' rv.ownBlock) (ho : w'.ownsRow b 72 11 v (rs.length + 1) (rs.flatMap Ra.cells ++ x.cells)) : Made b w' gv gs dv ds v (rs ++ [x]) bv bs :=
  ⟨h.g.kept hg (ownsRow_apart h.g h.r (by decide)), fun y hy => (h.gr y hy).grown h.r (by decide) hg, h.d.kept hg (ownsRow_apart h.d h.r (by decide)), by simpa using ho, h.b.kept hg (ownsRow_apart h.b h.r (by decide))⟩
theorem Made.addB (h : Made b w gv gs dv ds rv rs bv bs) (x : Bu) (hg : w.grownBy w' bv.ownBlock) (ho : w'.ownsRow b 74 2 v (bs.length + 1) (bs.flatMap Bu.cells ++ x.cells)) : Made b w' gv gs dv ds rv rs v (bs ++ [x]) :=
  ⟨h.g.kept hg (ownsRow_apart h.g h.b (by decide)), fun y hy => (h.gr y hy).grown h.b (by decide) hg, h.d.kept hg (ownsRow_apart h.d h.b (by decide)), h.r.kept hg (ownsRow_apart h.r h.b (by decide)), by simpa using ho⟩
theorem Made.sets {vs : List Value} (h : Made b w gv gs dv ds rv rs bv bs) (hb : k < b) (o : Nat) : Made b (w.setCells k o vs) gv gs dv ds rv rs bv bs := by
  induction vs generalizing w o with
  | nil => exact h
  | cons v vs ih => exact ih (h.set hb) (o + 1)
theorem Made.tabAt (h : Made b w gv gs dv ds rv rs bv bs) (t : Tab) (hg : t.groups = gs.map GV.g) (hd : t.dets = ds) (hr : t.rails = rs) (hb : t.buses = bs) (lg : gs.length ≤ 1000) (ld : ds.length ≤ 1000) (lr : rs.length ≤ 1000) (lb : bs.length ≤ 1000) : TabAt w gv dv rv bv t := by
  refine ⟨⟨gs, hg, rowIn_owned h.g, fun x hx => ?_⟩, by rw [hd]; exact rowIn_owned h.d, by rw [hr]; exact rowIn_owned h.r, by rw [hb]; exact rowIn_owned h.b, by rw [hg, List.length_map]; exact lg, by rw [hd]; exact ld, by rw [hr]; exact lr, by rw [hb]; exact lb⟩
  obtain ⟨h1, h2, h3, h4⟩ := h.gr x hx
  exact ⟨rowIn_owned h1, rowIn_owned h2, by omega, by omega⟩
end
theorem Tryz.infoDet : (Tryz.prog.info? 68).map (fun i => (i.zero, i.size, i.bytes)) = some (some (.agg (⟨0, 0, 0, 0, 0, 0, 0⟩ : Det).cells.toArray), 7, 56) := by kernel_rfl
theorem Tryz.infoRail : (Tryz.prog.info? 72).map (fun i => (i.zero, i.size, i.bytes)) = some (some (.agg (⟨0, 0, 0, 0, 0, 0, 0, 0, 0, 0, 0⟩ : Ra).cells.toArray), 11, 88) := by kernel_rfl
theorem Tryz.infoBus : (Tryz.prog.info? 74).map (fun i => (i.zero, i.size, i.bytes)) = some (some (.agg (⟨0, 0⟩ : Bu).cells.toArray), 2, 16) := by kernel_rfl
theorem Tryz.infoGroup : (Tryz.prog.info? 65).map (fun i => (i.zero, i.size, i.bytes)) = some (some (.agg #[.slice none 0 0, .slice none 0 0]), 2, 48) := by kernel_rfl

/-- what a table's rows hold, all of it made from block b on -/
def TabNew (b : Nat) (w : World) (gv dv rv bv : Value) (t : Tab) : Prop :=
  ∃ gs, Made b w gv gs dv t.dets rv t.rails bv t.buses ∧ t.groups = gs.map GV.g ∧ gs.length ≤ 1000 ∧ t.dets.length ≤ 1000 ∧ t.rails.length ≤ 1000 ∧ t.buses.length ≤ 1000
theorem TabNew.tabAt {b : Nat} {w : World} {gv dv rv bv : Value} {t : Tab} (h : TabNew b w gv dv rv bv t) : TabAt w gv dv rv bv t := by
  obtain ⟨gs, h1, h2, h3, h4, h5, h6⟩ := h
  exact h1.tabAt t h2 rfl rfl rfl h3 h4 h5 h6
theorem TabNew.sets {b k o : Nat} {w : World} {gv dv rv bv : Value} {t : Tab} {vs : List Value} (h : TabNew b w gv dv rv bv t) (hb : k < b) : TabNew b (w.setCells k o vs) gv dv rv bv t := by
  obtain ⟨gs, h1, h2⟩ := h
  exact ⟨gs, h1.sets hb o, h2⟩

/-- a table's value, with what its rows hold -/
def isTab (b : Nat) : World → Tab → Value → Prop := fun w t v => ∃ gv dv rv bv, v = tabV t gv dv rv bv ∧ TabNew b w gv dv rv bv t
end Go.Proofs.YtpopnmelcplbbaaGreat
namespace Go.Proofs.YtpopnmelcplbbaaGreat
open Go.RowKit

set_option maxRecDepth 100000 in
set_option maxHeartbeats 40000000 in
theorem table_read (w : World) (B : Nat) (l : List UInt8) (n : Nat) (h : RdAt w B l n 0 0) (hl : l.length ≤ 1000000000) :
    Calls Tryz.prog 18 #[readerV B] w (RdPost B l w (isTab (w.heap.size + 3)) (tableS l n)) := by
  have hlt := h.lt
  have e1 := (Ext.refl w).alloc (.cells ([.pointer (some ⟨B, 0, none⟩)] : List Value).toArray 59)
  have e2 := e1.alloc (.cells (zeroPhs 8 ++ tl nilS (fill [] 8) nilS nilS nilS (fill [] 5) (fill [] 8) (.int .i64 0) (.int .i64 0)).toArray 34)
  have e3 := e2.alloc (.cells (zeroPhs 8 ++ tl nilS (fill [] 8) nilS nilS nilS (fill [] 5) (fill [] 8) (.int .i64 0) (.int .i64 0)).toArray 34)
  have hR := ((Held.made (ExtB.refl B w) hlt [.pointer (some ⟨B, 0, none⟩)] 59).ext ((Ext.refl _).alloc (.cells (zeroPhs 8 ++ tl nilS (fill [] 8) nilS nilS nilS (fill [] 5) (fill [] 8) (.int .i64 0) (.int .i64 0)).toArray 34))).ext ((Ext.refl _).alloc (.cells (zeroPhs 8 ++ tl nilS (fill [] 8) nilS nilS nilS (fill [] 5) (fill [] 8) (.int .i64 0) (.int .i64 0)).toArray 34))
  have hT := (Held.made (e1.toB B) hlt (zeroPhs 8 ++ tl nilS (fill [] 8) nilS nilS nilS (fill [] 5) (fill [] 8) (.int .i64 0) (.int .i64 0)) 34).ext ((Ext.refl _).alloc (.cells (zeroPhs 8 ++ tl nilS (fill [] 8) nilS nilS nilS (fill [] 5) (fill [] 8) (.int .i64 0) (.int .i64 0)).toArray 34))
  have hP := Held.made (e2.toB B) hlt (zeroPhs 8 ++ tl nilS (fill [] 8) nilS nilS nilS (fill [] 5) (fill [] 8) (.int .i64 0) (.int .i64 0)) 34
  have hd := h.ext e3
  rw [← zero_box] at hR hT hP hd
  simp only [World.size_alloc] at hT hP
  have HR := Lib.hid hR; clear hR
  have HT := Lib.hid hT; clear hT
  have HP := Lib.hid hP; clear hP
  have HD := Lib.hid hd; clear hd h e1 e2 e3
  unfold readerV
  obtain ⟨r, hr⟩ : ∃ r, tableS l n = r := ⟨_, rfl⟩
  rw [hr]
  unfold tableS at hr
  obtain ⟨rK, hrk⟩ : ∃ rK, timesS (phaseS l) 8 n = rK := ⟨_, rfl⟩
  rw [hrk] at hr
  have HRK := Lib.hid hrk; clear hrk
  have HQ := Lib.hid hr; clear hr
  go_enter Tryz.func18, Tryz.ntmps18
  go_wp2_with fail
  go_loopw [11] (fun i wr => ∃ (j m : Nat) (acc : List Ph), j ≤ 8 ∧ i = .int .i64 j ∧ acc.length = j ∧ Held w B wr w.heap.size [.pointer (some ⟨B, 0, none⟩)] ∧
    Held w B wr (w.heap.size + 1) (zeroPhs 8 ++ tl nilS (fill [] 8) nilS nilS nilS (fill [] 5) (fill [] 8) (.int .i64 0) (.int .i64 0)) ∧
    Held w B wr (w.heap.size + 1 + 1) ((acc.flatMap Ph.cells ++ zeroPhs (8 - j)) ++ tl nilS (fill [] 8) nilS nilS nilS (fill [] 5) (fill [] 8) (.int .i64 0) (.int .i64 0)) ∧ RdAt wr B l m 0 0 ∧ prep acc (timesS (phaseS l) (8 - j) m) = rK) (fun i _ => 8 - (intOf i).toNat)
  case atStart => exact ⟨0, n, [], Nat.zero_le _, rfl, rfl, HR.out, HT.out, HP.out, HD.out, by rw [prep_nil]; exact HRK.out⟩
  case round =>
    obtain ⟨j, m1, phs, hj, rfl, hacc, hR, hT, hP, hrd, hpr⟩ := hrel
    clear HR HT HP HD HRK
    by_cases hlt2 : j < 8
    · have hcR := hR.cell (j := 0) rfl
      have HR := Lib.hid hR; clear hR
      have HT := Lib.hid hT; clear hT
      have HP := Lib.hid hP; clear hP
      have HD := Lib.hid hrd; clear hrd
      go_wp2_with fail
      have hcn := phase_read _ B l _ HD.out hl
      obtain ⟨d, hd⟩ : ∃ d, 8 - j = d + 1 := ⟨8 - j - 1, by omega⟩
      rw [hd] at hpr
      unfold RdPost readerV at hcn
      generalize hq : phaseS l m1 = rq at hcn
      rcases rq with ⟨c, f⟩ | ⟨x, m'⟩
      · rw [prep_err phs _ d m1 _ hq] at hpr
        subst hpr
        have hr := HQ.out
        dsimp only at hr
        subst hr
        refine hcn.mono ?_
        rintro e w2 ⟨rfl, hx2⟩
        have HX := Lib.hid (HR.out.x.trans hx2)
        clear hcn hq hx2 HQ
        go_wp2
        exact ⟨rfl, rfl, HX.out⟩
      · rw [prep_ok phs _ d m1 x m' hq] at hpr
        have HPR := Lib.hid hpr; clear hpr
        refine hcn.mono ?_
        clear hcn hq
        rintro e w2 ⟨_, rfl, rfl, hrd2, hx2⟩
        clear hcR
        have hP2 := HP.out.step hx2
        rw [hd, zeroPhs_succ] at hP2
        have hP2' : Held w B w2 (w.heap.size + 1 + 1) (phs.flatMap Ph.cells ++ zeroPh.cells ++ (zeroPhs d ++ tl nilS (fill [] 8) nilS nilS nilS (fill [] 5) (fill [] 8) (.int .i64 0) (.int .i64 0))) := by
          simpa only [List.append_assoc] using hP2
        have hTH := hP2'.there (j * 13) 13 (by simp only [List.length_append, phs_len_cells, hacc, Ph.len]; omega)
        have hP3 := hP2'.put (j * 13) x.cells (by rw [phs_len_cells, hacc]; omega) (by rw [Ph.len, Ph.len])
        have HP3 := Lib.hid (show Held w B (w2.setCells (w.heap.size + 1 + 1) (j * 13) x.cells) (w.heap.size + 1 + 1) (((phs ++ [x]).flatMap Ph.cells ++ zeroPhs d) ++ tl nilS (fill [] 8) nilS nilS nilS (fill [] 5) (fill [] 8) (.int .i64 0) (.int .i64 0)) by
          have : (phs ++ [x]).flatMap Ph.cells = phs.flatMap Ph.cells ++ x.cells := by simp
          rw [this]
          simpa only [List.append_assoc] using hP3)
        have HD3 := Lib.hid (hP2.sets_rd hrd2 (j * 13) x.cells)
        have HR3 := Lib.hid ((HR.out.step hx2).sets_other (g' := (w.heap.size + 1 + 1)) hP2.new (by omega) (j * 13) x.cells)
        have HT3 := Lib.hid ((HT.out.step hx2).sets_other (g' := (w.heap.size + 1 + 1)) hP2.new (by omega) (j * 13) x.cells)
        have HTH := Lib.hid hTH
        have HIN := Lib.hid (show (Tryz.prog.info? 26).map (·.size) = some x.cells.toArray.size from show _ = some 13 by kernel_rfl)
        have HON := Lib.hid (show x.cells.toArray.all (·.oneCell') = true from all_oneCell_toArray (by simp [Ph.cells, Value.oneCell']))
        clear hP3 hP2 hP2' HP HR HT HD hrd2 hx2 hTH
        go_wp2_with ((with_reducible refine atStore _ rfl ?_); refine wpList_store_mid rfl 26 _ _ rfl (w.heap.size + 1 + 1) (j * 13) _ rfl rfl HTH.out HIN.out HON.out ?_)
        go_roundw
        case rel => exact ⟨j + 1, m', phs ++ [x], by omega, by go_num, by simp [hacc], HR3.out, HT3.out, by rw [show 8 - (j + 1) = d by omega]; exact HP3.out, HD3.out, by rw [show 8 - (j + 1) = d by omega]; exact HPR.out⟩
        case measure => simp [intOf]; omega
    · rw [show 8 - j = 0 by omega, prep_zero] at hpr
      subst hpr
      have hr := HQ.out
      dsimp only at hr
      clear HQ
      rw [show 8 - j = 0 by omega, show zeroPhs 0 = [] by unfold zeroPhs; rfl, List.append_nil] at hP
      have hhd : (phs.flatMap Ph.cells).length = 104 := by rw [phs_len_cells]; omega
      obtain ⟨hd, hhd'⟩ : ∃ hd, hd = phs.flatMap Ph.cells := ⟨_, rfl⟩
      rw [← hhd'] at hP hhd
      have HHD := Lib.hid hhd'; clear hhd'
      have hp8 : phs.length = 8 := by omega
      have HR := Lib.hid hR; clear hR
      have HT := Lib.hid hT; clear hT
      have HP := Lib.hid hP; clear hP
      have HD := Lib.hid hrd; clear hrd
      have HQ := Lib.hid hr; clear hr
      have hcR := HR.out.cell (j := 0) rfl
      go_wp2_with fail
      clear hlt2 hj hacc hcR
      have hcn := num_c _ B l _ HD.out 1 0 4 hl (by omega)
      have hr := HQ.out
      clear HQ
      unfold RdPost readerV at hcn
      generalize hq : numS l 1 0 4 m1 = rq at hcn hr
      rcases rq with ⟨c, f⟩ | ⟨gn, m2⟩
      · dsimp only at hr
        subst hr
        refine hcn.mono ?_
        rintro e w2 ⟨rfl, hx2⟩
        have HX := Lib.hid (HR.out.x.trans hx2)
        clear hcn hq hx2
        go_wp2
        exact ⟨rfl, rfl, HX.out⟩
      dsimp only at hr
      have hkb := numS_bd hq
      obtain ⟨KG, rfl⟩ : ∃ KG : Nat, gn = (KG : Int) := ⟨gn.toNat, by omega⟩
      rw [Int.toNat_natCast] at hr
      have HQ := Lib.hid hr; clear hr
      refine hcn.mono ?_
      clear hcn hq
      rintro e w2 ⟨_, rfl, rfl, hrd2, hx2⟩
      have HR2 := Lib.hid (HR.out.step hx2); clear HR
      have HT2 := Lib.hid (HT.out.step hx2); clear HT
      have HP2 := Lib.hid (HP.out.step hx2); clear HP
      have HD2 := Lib.hid hrd2; clear hrd2 HD hx2
      obtain ⟨rG, hrk⟩ : ∃ rG, timesS (groupS l) KG m2 = rG := ⟨_, rfl⟩
      have hr := HQ.out
      rw [hrk] at hr
      clear HQ
      have HRK := Lib.hid hrk; clear hrk
      have HQ := Lib.hid hr; clear hr
      go_wp2_with fail
      have hltT := HP2.out.lt
      go_loopw [22] (fun i wr => ∃ (j m : Nat) (acc : List GV) (gv : Value), j ≤ KG ∧ i = .int .i64 j ∧ acc.length = j ∧ Held w B wr w.heap.size [.pointer (some ⟨B, 0, none⟩)] ∧
        Held w B wr (w.heap.size + 1) (zeroPhs 8 ++ tl nilS (fill [] 8) nilS nilS nilS (fill [] 5) (fill [] 8) (.int .i64 0) (.int .i64 0)) ∧ Held w B wr (w.heap.size + 1 + 1) (hd ++ tl gv (fill [] 8) nilS nilS nilS (fill [] 5) (fill [] 8) (.int .i64 0) (.int .i64 0)) ∧ wr.ownsRow (w.heap.size + 3) 65 2 gv acc.length (acc.flatMap GV.cells) ∧ (∀ g ∈ acc, GOwn (w.heap.size + 3) wr g) ∧
        RdAt wr B l m 0 0 ∧ prep (acc.map GV.g) (timesS (groupS l) (KG - j) m) = rG) (fun i _ => KG - (intOf i).toNat)
      case atStart => exact ⟨0, m2, [], nilS, Nat.zero_le _, rfl, rfl, HR2.out, HT2.out, HP2.out, ownsRow_nil _ _ _ _, by simp, HD2.out, by rw [List.map_nil, prep_nil]; exact HRK.out⟩
      case round =>
        obtain ⟨j, m3, gvs, gv, hj, rfl, hacc, hR, hT, hP, hown, hgow, hrd, hpr⟩ := hrel
        subst hacc
        clear HR2 HT2 HP2 HD2 HRK
        by_cases hlt2 : gvs.length < KG
        · have hcR := hR.cell (j := 0) rfl
          have hltP := hP.lt
          have HR := Lib.hid hR; clear hR
          have HT := Lib.hid hT; clear hT
          have HP := Lib.hid hP; clear hP
          have HD := Lib.hid hrd; clear hrd
          have HOWN := Lib.hid hown; clear hown
          have HGOW := Lib.hid hgow; clear hgow
          go_wp2_with fail
          have hcn := row_read _ B l _ HD.out hl
          obtain ⟨d, hd'⟩ : ∃ d, KG - gvs.length = d + 1 := ⟨KG - gvs.length - 1, by omega⟩
          rw [hd'] at hpr
          unfold RdPost readerV at hcn
          generalize hq : rowS l m3 = rq at hcn
          rcases rq with ⟨c, f⟩ | ⟨a, m4⟩
          · rw [prep_err _ _ d m3 (c, f) (by unfold groupS; rw [hq])] at hpr
            subst hpr
            have hr := HQ.out
            dsimp only at hr
            subst hr
            refine hcn.mono ?_
            rintro e w3 ⟨rfl, hx3⟩
            have HX := Lib.hid (HR.out.x.trans hx3)
            clear hcn hq hx3 HQ
            go_wp2
            exact ⟨rfl, rfl, HX.out⟩
          have hal := rowS_len hq
          refine hcn.mono ?_
          clear hcn
          rintro e w3 ⟨v1, rfl, hv1, hrd3, hx3⟩
          have hR3 := HR.out.step hx3
          have hP3 := HP.out.step hx3
          have hcR3 := hR3.cell (j := 0) rfl
          have hcP3 := hP3.cell (tl_g hhd)
          have HR3 := Lib.hid hR3; clear hR3
          have HP3 := Lib.hid hP3; clear hP3
          have HT3 := Lib.hid (HT.out.step hx3); clear HT
          have hown3 := ownsRow_extB HOWN.out (by omega) hx3
          have hgow3 : ∀ g ∈ gvs, GOwn (w.heap.size + 3) w3 g := fun g hg => (HGOW.out g hg).extB (by omega) hx3
          have hv1' := ownsRow_base (base' := w.heap.size + 3) hv1 (by omega)
          have HOWN3 := Lib.hid hown3; clear hown3 HOWN
          have HGOW3 := Lib.hid hgow3; clear hgow3 HGOW
          have HV1 := Lib.hid hv1'; clear hv1 hv1'
          have HD3 := Lib.hid hrd3; clear hrd3 HD
          have hlt3 : w.heap.size + 3 ≤ w3.heap.size := by have := hx3.size; omega
          clear hx3 HR HP hcR
          have hcn := fun W (hx : Ext w3 W) => row_read W B l _ (HD3.out.ext hx) hl
          unfold readerV at hcn
          have HCN := Lib.hid hcn; clear hcn
          have HPR := Lib.hid hpr; clear hpr
          have HQ1 := Lib.hid hq; clear hq
          have hii := Tryz.infoGroup
          cases hi : Tryz.prog.info? 65 with
          | none => rw [hi] at hii; cases hii
          | some i0 =>
          rw [hi] at hii
          simp only [Option.map_some, Option.some.injEq, Prod.mk.injEq] at hii
          obtain ⟨hz1, hz2, hz3⟩ := hii
          have HI := Lib.hid hi; clear hi
          have HZ1 := Lib.hid hz1; clear hz1
          have HZ2 := Lib.hid hz2; clear hz2
          have HZ3 := Lib.hid hz3; clear hz3
          obtain ⟨av1, cv1, hv1e, hv1r⟩ := rowIn_owned HV1.out
          subst hv1e
          clear hv1r
          have hcall : ∀ W, Ext w3 W → Calls Tryz.prog 64 #[.agg #[.pointer (some ⟨B, 0, none⟩)]] W (fun e w4 => (∃ c f, e = .panicked (chainOf c f) ∧ r = .error (c, f) ∧ ExtB B w3 w4) ∨
              (∃ b m5 av cv, rowS l m4 = .ok (b, m5) ∧ e = .returned (.slice av b.length cv) ∧ w4.ownsRow (w.heap.size + 3) 3 1 (.slice av b.length cv) b.length (ints b) ∧ RdAt w4 B l m5 0 0 ∧ ExtB B w3 w4 ∧
                w4.cell? ⟨(w.heap.size + 1 + 1), 104, none⟩ = some gv ∧ w4.cell? ⟨w.heap.size, 0, none⟩ = some (.pointer (some ⟨B, 0, none⟩)) ∧ w4.frozen? ⟨(w.heap.size + 1 + 1), 104, none⟩ = false)) := by
            intro W hx
            refine (HCN.out W hx).mono ?_
            intro e w4 hp4
            unfold RdPost at hp4
            obtain ⟨rq, hq2⟩ : ∃ rq, rowS l m4 = rq := ⟨_, rfl⟩
            rw [hq2] at hp4
            rcases rq with ⟨c, f⟩ | ⟨b, m5⟩
            · obtain ⟨rfl, hx4⟩ := hp4
              have hpr := HPR.out
              rw [prep_err _ _ d m3 (c, f) (by unfold groupS; rw [HQ1.out]; dsimp only; rw [hq2])] at hpr
              have hr := HQ.out
              rw [← hpr] at hr
              dsimp only at hr
              exact .inl ⟨c, f, rfl, hr.symm, (hx.toB B).trans hx4⟩
            · obtain ⟨v2, rfl, hv2, hrd4, hx4⟩ := hp4
              have hx4' := (hx.toB B).trans hx4
              have hv2' := ownsRow_base (base' := w.heap.size + 3) hv2 (by have := hx.size; omega)
              obtain ⟨av2, cv2, hv2e, _⟩ := rowIn_owned hv2'
              subst hv2e
              exact .inr ⟨b, m5, av2, cv2, hq2, rfl, hv2', hrd4, hx4', (HP3.out.step hx4').cell (tl_g hhd), (HR3.out.step hx4').cell rfl, (HP3.out.step hx4').free 104⟩
          have HCALL := Lib.hid hcall; clear hcall HCN
          have hneP : some (((w.heap.size + 1 + 1)) : Nat) ≠ gv.ownBlock := fun e => by have := (HOWN3.out.lt _ e.symm).1; omega
          have hneR : some (w.heap.size : Nat) ≠ gv.ownBlock := fun e => by have := (HOWN3.out.lt _ e.symm).1; omega
          go_wp2_with fail
          go_region_law
            (first
              | ((go_simp; go_at_call 64; refine (HCALL.out _ ((Ext.refl _).drew)).mono ?_; rintro e w4 (⟨c, f, rfl, hre, hx4⟩ | ⟨b, m5, av2, cv2, hq2, rfl, hv2, hrd4, hx4, hcP4, hcR4, hzP4⟩); (go_wp2; exact (show _ ∧ _ from ⟨rfl, by rw [hre]; exact ⟨rfl, HR3.out.x.trans hx4⟩⟩));
                  (try dsimp only); (have HV2 := Lib.hid hv2; clear hv2; have HD4 := Lib.hid hrd4; clear hrd4; have HX4 := Lib.hid hx4; clear hx4; have hltP4 := (show (w.heap.size + 1 + 1) < w4.heap.size from World.block_lt_of_cell? w4 _ hcP4))))
              | ((refine step_append_lies _ (by rfl) _ _ _ (by rfl) (w.heap.size + 3) 65 i0 (.agg #[.slice none 0 0, .slice none 0 0]) 2 48 Tryz.underlying28 HI.out HZ1.out HZ2.out HZ3.out rfl (by omega) gv gvs.length (gvs.flatMap GV.cells) (by rfl)
                    ((ownsRow_extB HOWN3.out (by omega) HX4.out).alloc _) ⟨w4.heap.size, 0, none⟩ 1 1 [.slice av1 a.length cv1, .slice av2 b.length cv2] (by rfl) (by rfl)
                    (World.news_of_block (cs := #[.slice av1 a.length cv1, .slice av2 b.length cv2]) (t := 65) (fr := (0, 0)) (heap_alloc_new w4 _)) (by simp [Value.oneCell'])
                    (by omega) (by simp [maxLen]; omega) (by omega) (by have := HX4.out.size; simp; omega) (w4.heap.size + 1) (by simp) ?_; intro g cap w5 hown5 hgrow hat hlt5;
                    (have hcP5 := far_cell hgrow hcP4 hneP; have hcR5 := far_cell hgrow hcR4 hneR; have hzP5 := far_free hgrow hcP4 hzP4 hneP))))
          all_goals
            have hx5 := ((Ext.refl w4).alloc (.cells (#[.slice av1 a.length cv1, .slice av2 b.length cv2] : Array Value) 65))
            have hlk := HOWN3.out.lt
            have hbk : ∀ k, gv.ownBlock = some k → B < k := fun k e => by have := (hlk k e).1; omega
            have hkR : ∀ k, gv.ownBlock = some k → w.heap.size ≠ k ∧ w.heap.size ≤ k := fun k e => by have := (hlk k e).1; omega
            have hkT : ∀ k, gv.ownBlock = some k → (w.heap.size + 1) ≠ k ∧ w.heap.size ≤ k := fun k e => by have := (hlk k e).1; omega
            have hkP : ∀ k, gv.ownBlock = some k → (w.heap.size + 1 + 1) ≠ k ∧ w.heap.size ≤ k := fun k e => by have := (hlk k e).1; omega
            have hP5 := ((HP3.out.step HX4.out).ext hx5).grown hgrow hkP
            have hrd5 := (HD4.out.ext hx5).grown hgrow hbk
            have HD6 := Lib.hid (hP5.rd hrd5 104 (.slice (some ⟨g, 0, none⟩) (gvs.length + 1) cap))
            have HR6 := Lib.hid ((((HR3.out.step HX4.out).ext hx5).grown hgrow hkR).other (g' := (w.heap.size + 1 + 1)) hP5.new (by omega) 104 (.slice (some ⟨g, 0, none⟩) (gvs.length + 1) cap))
            have HT6 := Lib.hid ((((HT3.out.step HX4.out).ext hx5).grown hgrow hkT).other (g' := (w.heap.size + 1 + 1)) hP5.new (by omega) 104 (.slice (some ⟨g, 0, none⟩) (gvs.length + 1) cap))
            have hP6 := hP5.set 104 (.slice (some ⟨g, 0, none⟩) (gvs.length + 1) cap)
            rw [tl_set_g hhd] at hP6
            have HP6 := Lib.hid hP6; clear hP6
            have HOWN6 := Lib.hid (ownsRow_set (g := (w.heap.size + 1 + 1)) (o := 104) (u := .slice (some ⟨g, 0, none⟩) (gvs.length + 1) cap) hown5 (by omega))
            have howna := (ownsRow_extB HOWN3.out (by omega) HX4.out).alloc (.cells (#[.slice av1 a.length cv1, .slice av2 b.length cv2] : Array Value) 65)
            have hg6 : ∀ x, GOwn (w.heap.size + 3) w4 x → GOwn (w.heap.size + 3) (w5.setCell ⟨(w.heap.size + 1 + 1), 104, none⟩ (.slice (some ⟨g, 0, none⟩) (gvs.length + 1) cap)) x := fun x hx =>
              (((hx.extB (by omega) (hx5.toB B)).grown howna (by decide) hgrow).set (by omega))
            have hgow6 : ∀ x ∈ gvs ++ [⟨.slice av1 a.length cv1, .slice av2 b.length cv2, a, b⟩], GOwn (w.heap.size + 3) (w5.setCell ⟨(w.heap.size + 1 + 1), 104, none⟩ (.slice (some ⟨g, 0, none⟩) (gvs.length + 1) cap)) x := by
              intro x hx
              rcases List.mem_append.1 hx with hx | hx
              · exact hg6 x ((HGOW3.out x hx).extB (by omega) HX4.out)
              · rw [List.mem_singleton] at hx
                subst hx
                exact hg6 _ ⟨ownsRow_extB HV1.out (by omega) HX4.out, HV2.out, hal, rowS_len hq2⟩
            have HG6 := Lib.hid hgow6; clear hgow6 hg6 howna hrd5 hP5 hkP hkT hkR hbk hlk hx5
            have hpr := HPR.out
            rw [prep_ok _ _ d m3 (a, b) m5 (by unfold groupS; rw [HQ1.out]; dsimp only; rw [hq2])] at hpr
            have HPR6 := Lib.hid hpr; clear hpr hq2
            clear HCALL HD4 HX4 HV2 HV1 HOWN3 HGOW3 HR3 HP3 HT3 hown5 hgrow hat hlt5 hcP5 hcR5 hzP5 hcP4 hcR4 hzP4
            go_wp2
            go_roundw
            case rel => exact ⟨gvs.length + 1, m5, gvs ++ [⟨.slice av1 a.length cv1, .slice av2 b.length cv2, a, b⟩], .slice (some ⟨g, 0, none⟩) (gvs.length + 1) cap, by omega, by go_num, by simp, HR6.out, HT6.out, HP6.out,
              by simpa [GV.cells] using HOWN6.out, HG6.out, HD6.out, by rw [show KG - (gvs.length + 1) = d by omega, List.map_append]; exact HPR6.out⟩
            case measure => simp [intOf]; omega
        · rw [show KG - gvs.length = 0 by omega, prep_zero] at hpr
          subst hpr
          have hr := HQ.out
          dsimp only at hr
          clear HQ
          have hM : Made (w.heap.size + 3) wr gv gvs nilS [] nilS [] nilS [] := ⟨hown, hgow, ownsRow_nil _ _ _ _, ownsRow_nil _ _ _ _, ownsRow_nil _ _ _ _⟩
          clear hown hgow
          have hgl : gvs.length ≤ 4 := by omega
          rw [tl_cf] at hP
          have HR := Lib.hid hR; clear hR
          have HT := Lib.hid hT; clear hT
          have HP := Lib.hid hP; clear hP
          have HM := Lib.hid hM; clear hM
          have HD := Lib.hid hrd; clear hrd
          obtain ⟨rC, hrk⟩ : ∃ rC, timesS (fun n => numS l 1 0 255 n) 8 m3 = rC := ⟨_, rfl⟩
          rw [hrk] at hr
          have HRK := Lib.hid hrk; clear hrk
          have HQ := Lib.hid hr; clear hr
          go_wp2_with fail
          clear hlt2 hj
          go_loopw [36] (fun i wr => ∃ (j m : Nat) (acc : List Int), j ≤ 8 ∧ i = .int .i64 j ∧ acc.length = j ∧ Held w B wr w.heap.size [.pointer (some ⟨B, 0, none⟩)] ∧
            Held w B wr (w.heap.size + 1) (zeroPhs 8 ++ tl nilS (fill [] 8) nilS nilS nilS (fill [] 5) (fill [] 8) (.int .i64 0) (.int .i64 0)) ∧
            Held w B wr (w.heap.size + 1 + 1) ((hd ++ [gv]) ++ fill acc 8 ++ (nilS :: nilS :: nilS :: (fill [] 5 ++ (fill [] 8 ++ [Value.int .i64 0, Value.int .i64 0])))) ∧ Made (w.heap.size + 3) wr gv gvs nilS [] nilS [] nilS [] ∧ RdAt wr B l m 0 0 ∧ prep acc (timesS (fun n => numS l 1 0 255 n) (8 - j) m) = rC) (fun i _ => 8 - (intOf i).toNat)
          case atStart => exact ⟨0, m3, [], Nat.zero_le _, rfl, rfl, HR.out, HT.out, HP.out, HM.out, HD.out, by rw [prep_nil]; exact HRK.out⟩
          case round =>
            obtain ⟨j, m, acc, hj, rfl, hacc, hR, hT, hP, hM, hrd, hpr⟩ := hrel
            subst hacc
            clear HR HT HP HM HD HRK
            by_cases hlt2 : acc.length < 8
            · have hcR := hR.cell (j := 0) rfl
              have HR := Lib.hid hR; clear hR
              have HT := Lib.hid hT; clear hT
              have HP := Lib.hid hP; clear hP
              have HM := Lib.hid hM; clear hM
              have HD := Lib.hid hrd; clear hrd
              go_wp2_with fail
              have hcn := set_c _ B l _ HD.out hl
              obtain ⟨d, hd'⟩ : ∃ d, 8 - acc.length = d + 1 := ⟨8 - acc.length - 1, by omega⟩
              rw [hd'] at hpr
              unfold RdPost readerV at hcn
              generalize hq : numS l 1 0 255 m = rq at hcn
              rcases rq with ⟨c, f⟩ | ⟨x, m'⟩
              · rw [prep_err acc _ d m _ hq] at hpr
                subst hpr
                have hr := HQ.out
                dsimp only at hr
                subst hr
                refine hcn.mono ?_
                rintro e w2 ⟨rfl, hx2⟩
                have HX := Lib.hid (HR.out.x.trans hx2)
                clear hcn hq hx2 HQ
                go_wp2
                exact ⟨rfl, rfl, HX.out⟩
              · rw [prep_ok acc _ d m x m' hq] at hpr
                have HPR := Lib.hid hpr; clear hpr
                refine hcn.mono ?_
                clear hcn hq
                rintro e w2 ⟨_, rfl, rfl, hrd2, hx2⟩
                clear hcR
                have hP2 := HP.out.step hx2
                have hc2 := hP2.cell (fill_at (hd ++ [gv]) (nilS :: nilS :: nilS :: (fill [] 5 ++ (fill [] 8 ++ [Value.int .i64 0, Value.int .i64 0]))) acc 8 (by omega))
                rw [show (hd ++ [gv]).length + acc.length = 105 + acc.length by simp [hhd]] at hc2
                have hz2 := hP2.free (105 + acc.length)
                have hP3 := hP2.set (105 + acc.length) (.int .i64 x)
                rw [fill_set (hd ++ [gv]) (nilS :: nilS :: nilS :: (fill [] 5 ++ (fill [] 8 ++ [Value.int .i64 0, Value.int .i64 0]))) acc 8 (105 + acc.length) x (by simp [hhd]) (by omega)] at hP3
                have HD3 := Lib.hid (hP2.rd hrd2 (105 + acc.length) (.int .i64 x))
                have HR3 := Lib.hid ((HR.out.step hx2).other (g' := (w.heap.size + 1 + 1)) hP2.new (by omega) (105 + acc.length) (.int .i64 x))
                have HT3 := Lib.hid ((HT.out.step hx2).other (g' := (w.heap.size + 1 + 1)) hP2.new (by omega) (105 + acc.length) (.int .i64 x))
                have HM3 := Lib.hid ((HM.out.extB (by omega) hx2).set (k := (w.heap.size + 1 + 1)) (o := 105 + acc.length) (u := .int .i64 x) (by omega))
                have HP3 := Lib.hid hP3; clear hP3 hP2 HP HR HT HM HD hrd2 hx2
                go_wp2
                go_roundw
                case rel => exact ⟨acc.length + 1, m', acc ++ [x], by omega, by go_num, by simp, HR3.out, HT3.out, HP3.out, HM3.out, HD3.out, by rw [show 8 - (acc.length + 1) = d by omega]; exact HPR.out⟩
                case measure => simp [intOf]; omega
            · rw [show 8 - acc.length = 0 by omega, prep_zero] at hpr
              subst hpr
              have hr := HQ.out
              dsimp only at hr
              clear HQ
              have hcf : acc.length = 8 := by omega
              rw [fill_full acc 8 hcf, ← tl_cf] at hP
              obtain ⟨cf, hcf'⟩ : ∃ cf, cf = acc := ⟨_, rfl⟩
              rw [← hcf'] at hP hr hcf
              have hcl : (ints cf).length = 8 := by simp [ints, hcf]
              have HR := Lib.hid hR; clear hR
              have HT := Lib.hid hT; clear hT
              have HP := Lib.hid hP; clear hP
              have HM := Lib.hid hM; clear hM
              have HD := Lib.hid hrd; clear hrd
              have HQ := Lib.hid hr; clear hr
              have hcR := HR.out.cell (j := 0) rfl
              go_wp2_with fail
              clear hlt2 hj hcR
              have hcn := num_c _ B l _ HD.out 1 0 16 hl (by omega)
              have hr := HQ.out
              clear HQ
              unfold RdPost readerV at hcn
              generalize hq : numS l 1 0 16 m = rq at hcn hr
              rcases rq with ⟨c, f⟩ | ⟨dn, m2⟩
              · dsimp only at hr
                subst hr
                refine hcn.mono ?_
                rintro e w2 ⟨rfl, hx2⟩
                have HX := Lib.hid (HR.out.x.trans hx2)
                clear hcn hq hx2
                go_wp2
                exact ⟨rfl, rfl, HX.out⟩
              dsimp only at hr
              have hkb := numS_bd hq
              obtain ⟨KD, rfl⟩ : ∃ KD : Nat, dn = (KD : Int) := ⟨dn.toNat, by omega⟩
              rw [Int.toNat_natCast] at hr
              have HQ := Lib.hid hr; clear hr
              refine hcn.mono ?_
              clear hcn hq
              rintro e w2 ⟨_, rfl, rfl, hrd2, hx2⟩
              have HR2 := Lib.hid (HR.out.step hx2); clear HR
              have HT2 := Lib.hid (HT.out.step hx2); clear HT
              have HP2 := Lib.hid (HP.out.step hx2); clear HP
              have HM2 := Lib.hid (HM.out.extB (by omega) hx2); clear HM
              have HD2 := Lib.hid hrd2; clear hrd2 HD hx2
              have HR := HR2; clear HR2
              have HT := HT2; clear HT2
              have HP := HP2; clear HP2
              have HM := HM2; clear HM2
              have HD := HD2; clear HD2
              have hr := HQ.out
              clear HQ
              obtain ⟨rD, hrk⟩ : ∃ rD, timesS (detS l) KD m2 = rD := ⟨_, rfl⟩
              rw [hrk] at hr
              have HRK := Lib.hid hrk; clear hrk
              have HQ := Lib.hid hr; clear hr
              go_wp2_with fail
              go_loopw [47] (fun i wr => ∃ (j m : Nat) (acc : List Det) (v : Value), j ≤ KD ∧ i = .int .i64 j ∧ acc.length = j ∧ Held w B wr w.heap.size [.pointer (some ⟨B, 0, none⟩)] ∧
                Held w B wr (w.heap.size + 1) (zeroPhs 8 ++ tl nilS (fill [] 8) nilS nilS nilS (fill [] 5) (fill [] 8) (.int .i64 0) (.int .i64 0)) ∧ Held w B wr (w.heap.size + 1 + 1) (hd ++ tl gv (ints cf) v nilS nilS (fill [] 5) (fill [] 8) (.int .i64 0) (.int .i64 0)) ∧ Made (w.heap.size + 3) wr gv gvs v acc nilS [] nilS [] ∧
                RdAt wr B l m 0 0 ∧ prep acc (timesS (detS l) (KD - j) m) = rD) (fun i _ => KD - (intOf i).toNat)
              case atStart => exact ⟨0, m2, [], nilS, Nat.zero_le _, rfl, rfl, HR.out, HT.out, HP.out, HM.out, HD.out, by rw [prep_nil]; exact HRK.out⟩
              case round =>
                obtain ⟨j, m, acc, dv, hj, rfl, hacc, hR, hT, hP, hM, hrd, hpr⟩ := hrel
                subst hacc
                clear HR HT HP HM HD HRK
                by_cases hlt2 : acc.length < KD
                · have hcR := hR.cell (j := 0) rfl
                  have hcP := hP.cell (tl_d hhd hcl)
                  have hltP := hP.lt
                  have HR := Lib.hid hR; clear hR
                  have HT := Lib.hid hT; clear hT
                  have HP := Lib.hid hP; clear hP
                  have HM := Lib.hid hM; clear hM
                  have HD := Lib.hid hrd; clear hrd
                  obtain ⟨d, hd'⟩ : ∃ d, KD - acc.length = d + 1 := ⟨KD - acc.length - 1, by omega⟩
                  rw [hd'] at hpr
                  have HPR := Lib.hid hpr; clear hpr
                  have hcn := fun W (hx : Ext wr W) => detector_read W B l _ (HD.out.ext hx) hl
                  unfold readerV at hcn
                  have HCN := Lib.hid hcn; clear hcn
                  have hii := Tryz.infoDet
                  cases hi : Tryz.prog.info? 68 with
                  | none => rw [hi] at hii; cases hii
                  | some i0 =>
                  rw [hi] at hii
                  simp only [Option.map_some, Option.some.injEq, Prod.mk.injEq] at hii
                  obtain ⟨hz1, hz2, hz3⟩ := hii
                  have HI := Lib.hid hi; clear hi
                  have HZ1 := Lib.hid hz1; clear hz1
                  have HZ2 := Lib.hid hz2; clear hz2
                  have HZ3 := Lib.hid hz3; clear hz3
                  have hcall : ∀ W, Ext wr W → Calls Tryz.prog 66 #[.agg #[.pointer (some ⟨B, 0, none⟩)]] W (fun e w4 => (∃ c f, e = .panicked (chainOf c f) ∧ r = .error (c, f) ∧ ExtB B wr w4) ∨
                      (∃ x m5, detS l m = .ok (x, m5) ∧ e = .returned (.agg #[.int .i64 x.phase, .float .f64 x.on, .float .f64 x.off, .float .f64 x.delay, .float .f64 x.extend, .int .i64 x.maxOn, .int .i64 x.maxOff]) ∧ RdAt w4 B l m5 0 0 ∧ ExtB B wr w4 ∧
                        w4.cell? ⟨(w.heap.size + 1 + 1), 113, none⟩ = some dv ∧ w4.cell? ⟨w.heap.size, 0, none⟩ = some (.pointer (some ⟨B, 0, none⟩)) ∧ w4.frozen? ⟨(w.heap.size + 1 + 1), 113, none⟩ = false)) := by
                    intro W hx
                    refine (HCN.out W hx).mono ?_
                    intro e w4 hp4
                    unfold RdPost at hp4
                    obtain ⟨rq, hq2⟩ : ∃ rq, detS l m = rq := ⟨_, rfl⟩
                    rw [hq2] at hp4
                    rcases rq with ⟨c, f⟩ | ⟨x, m5⟩
                    · obtain ⟨rfl, hx4⟩ := hp4
                      have hpr := HPR.out
                      rw [prep_err _ _ d m (c, f) hq2] at hpr
                      have hr := HQ.out
                      rw [← hpr] at hr
                      dsimp only at hr
                      exact .inl ⟨c, f, rfl, hr.symm, (hx.toB B).trans hx4⟩
                    · obtain ⟨v2, rfl, rfl, hrd4, hx4⟩ := hp4
                      have hx4' := (hx.toB B).trans hx4
                      exact .inr ⟨x, m5, hq2, rfl, hrd4, hx4', (HP.out.step hx4').cell (tl_d hhd hcl), (HR.out.step hx4').cell rfl, (HP.out.step hx4').free 113⟩
                  have HCALL := Lib.hid hcall; clear hcall HCN
                  have hneP : some (((w.heap.size + 1 + 1)) : Nat) ≠ dv.ownBlock := fun e => by have := (HM.out.d.lt _ e.symm).1; omega
                  have hneR : some (w.heap.size : Nat) ≠ dv.ownBlock := fun e => by have := (HM.out.d.lt _ e.symm).1; omega
                  go_wp2_with fail
                  go_region_law
                    (first
                      | ((go_simp; go_at_call 66; refine (HCALL.out _ ((Ext.refl _).drew)).mono ?_; rintro e w4 (⟨c, f, rfl, hre, hx4⟩ | ⟨x, m5, hq2, rfl, hrd4, hx4, hcP4, hcR4, hzP4⟩); (go_wp2; (first | exact ⟨rfl, by rw [hre]; exact ⟨rfl, HR.out.x.trans hx4⟩⟩ | exact (show _ ∧ _ from ⟨rfl, by rw [hre]; exact ⟨rfl, HR.out.x.trans hx4⟩⟩)));
                          (try dsimp only); (have HD4 := Lib.hid hrd4; clear hrd4; have HX4 := Lib.hid hx4; clear hx4; have hltP4 := (show (w.heap.size + 1 + 1) < w4.heap.size from World.block_lt_of_cell? w4 _ hcP4))))
                      | ((refine step_append_lies _ (by rfl) _ _ _ (by rfl) (w.heap.size + 3) 68 i0 (.agg (⟨0, 0, 0, 0, 0, 0, 0⟩ : Det).cells.toArray) 7 56 Tryz.underlying30 HI.out HZ1.out HZ2.out HZ3.out rfl (by omega) dv acc.length (acc.flatMap Det.cells) (by rfl)
                            ((ownsRow_extB HM.out.d (by omega) HX4.out).alloc _) ⟨w4.heap.size, 0, none⟩ 1 1 (Det.cells x) (by rfl) (by rfl)
                            (World.news_of_block (cs := (Det.cells x).toArray) (t := 68) (fr := (0, 0)) (heap_alloc_new w4 _)) (by simp [Det.cells, Value.oneCell'])
                            (by omega) (by simp [maxLen]; omega) (by omega) (by have := HX4.out.size; have := hltP; simp; omega) (w4.heap.size + 1) (by simp) ?_; intro g cap w5 hown5 hgrow hat hlt5;
                            (have hcP5 := far_cell hgrow hcP4 hneP; have hcR5 := far_cell hgrow hcR4 hneR; have hzP5 := far_free hgrow hcP4 hzP4 hneP))))
                  all_goals
                    have hx5 := ((Ext.refl w4).alloc (.cells (Det.cells x).toArray 68))
                    have hlk := HM.out.d.lt
                    have hbk : ∀ k, dv.ownBlock = some k → B < k := fun k e => by have := (hlk k e).1; omega
                    have hkR : ∀ k, dv.ownBlock = some k → w.heap.size ≠ k ∧ w.heap.size ≤ k := fun k e => by have := (hlk k e).1; omega
                    have hkT : ∀ k, dv.ownBlock = some k → (w.heap.size + 1) ≠ k ∧ w.heap.size ≤ k := fun k e => by have := (hlk k e).1; omega
                    have hkP : ∀ k, dv.ownBlock = some k → (w.heap.size + 1 + 1) ≠ k ∧ w.heap.size ≤ k := fun k e => by have := (hlk k e).1; omega
                    have hP5 := ((HP.out.step HX4.out).ext hx5).grown hgrow hkP
                    have hrd5 := (HD4.out.ext hx5).grown hgrow hbk
                    have HD6 := Lib.hid (hP5.rd hrd5 113 (.slice (some ⟨g, 0, none⟩) (acc.length + 1) cap))
                    have HR6 := Lib.hid ((((HR.out.step HX4.out).ext hx5).grown hgrow hkR).other (g' := (w.heap.size + 1 + 1)) hP5.new (by omega) 113 (.slice (some ⟨g, 0, none⟩) (acc.length + 1) cap))
                    have HT6 := Lib.hid ((((HT.out.step HX4.out).ext hx5).grown hgrow hkT).other (g' := (w.heap.size + 1 + 1)) hP5.new (by omega) 113 (.slice (some ⟨g, 0, none⟩) (acc.length + 1) cap))
                    have hP6 := hP5.set 113 (.slice (some ⟨g, 0, none⟩) (acc.length + 1) cap)
                    rw [tl_set_d hhd hcl] at hP6
                    have HP6 := Lib.hid hP6; clear hP6
                    have HM6 := Lib.hid ((((HM.out.extB (by omega) HX4.out).extB (by omega) (hx5.toB B)).addD x hgrow hown5).set (k := (w.heap.size + 1 + 1)) (o := 113) (u := .slice (some ⟨g, 0, none⟩) (acc.length + 1) cap) (by omega))
                    have hpr := HPR.out
                    rw [prep_ok _ _ d m x m5 hq2] at hpr
                    have HPR6 := Lib.hid hpr; clear hpr hq2
                    clear hrd5 hP5 hkP hkT hkR hbk hlk hx5 HCALL HD4 HX4 HR HP HT HM hown5 hgrow hat hlt5 hcP5 hcR5 hzP5 hcP4 hcR4 hzP4
                    go_wp2
                    go_roundw
                    case rel => exact ⟨acc.length + 1, m5, acc ++ [x], .slice (some ⟨g, 0, none⟩) (acc.length + 1) cap, by omega, by go_num, by simp, HR6.out, HT6.out, HP6.out,
                      HM6.out, HD6.out, by rw [show KD - (acc.length + 1) = d by omega]; exact HPR6.out⟩
                    case measure => simp [intOf]; omega
                · rw [show KD - acc.length = 0 by omega, prep_zero] at hpr
                  subst hpr
                  have hr := HQ.out
                  dsimp only at hr
                  clear HQ
                  obtain ⟨dets, hdets⟩ : ∃ dets, dets = acc := ⟨_, rfl⟩
                  obtain ⟨dv1, hdv1⟩ : ∃ dv1, dv1 = dv := ⟨_, rfl⟩
                  rw [← hdets, ← hdv1] at hM
                  rw [← hdv1] at hP
                  rw [← hdets] at hr
                  have hldets : dets.length ≤ 16 := by rw [hdets]; omega
                  clear hdets hdv1
                  have HR := Lib.hid hR; clear hR
                  have HT := Lib.hid hT; clear hT
                  have HP := Lib.hid hP; clear hP
                  have HM := Lib.hid hM; clear hM
                  have HD := Lib.hid hrd; clear hrd
                  have HQ := Lib.hid hr; clear hr
                  have hcR := HR.out.cell (j := 0) rfl
                  go_wp2_with fail
                  clear hlt2 hj hcR
                  have hcn := num_c _ B l _ HD.out 1 0 4 hl (by omega)
                  have hr := HQ.out
                  clear HQ
                  unfold RdPost readerV at hcn
                  generalize hq : numS l 1 0 4 m = rq at hcn hr
                  rcases rq with ⟨c, f⟩ | ⟨rn, m2⟩
                  · dsimp only at hr
                    subst hr
                    refine hcn.mono ?_
                    rintro e w2 ⟨rfl, hx2⟩
                    have HX := Lib.hid (HR.out.x.trans hx2)
                    clear hcn hq hx2
                    go_wp2
                    exact ⟨rfl, rfl, HX.out⟩
                  dsimp only at hr
                  have hkb := numS_bd hq
                  obtain ⟨KR, rfl⟩ : ∃ KR : Nat, rn = (KR : Int) := ⟨rn.toNat, by omega⟩
                  rw [Int.toNat_natCast] at hr
                  have HQ := Lib.hid hr; clear hr
                  refine hcn.mono ?_
                  clear hcn hq
                  rintro e w2 ⟨_, rfl, rfl, hrd2, hx2⟩
                  have HR2 := Lib.hid (HR.out.step hx2); clear HR
                  have HT2 := Lib.hid (HT.out.step hx2); clear HT
                  have HP2 := Lib.hid (HP.out.step hx2); clear HP
                  have HM2 := Lib.hid (HM.out.extB (by omega) hx2); clear HM
                  have HD2 := Lib.hid hrd2; clear hrd2 HD hx2
                  have HR := HR2; clear HR2
                  have HT := HT2; clear HT2
                  have HP := HP2; clear HP2
                  have HM := HM2; clear HM2
                  have HD := HD2; clear HD2
                  have hr := HQ.out
                  clear HQ
                  obtain ⟨rR, hrk⟩ : ∃ rR, timesS (railS l) KR m2 = rR := ⟨_, rfl⟩
                  rw [hrk] at hr
                  have HRK := Lib.hid hrk; clear hrk
                  have HQ := Lib.hid hr; clear hr
                  go_wp2_with fail
                  go_loopw [59] (fun i wr => ∃ (j m : Nat) (acc : List Ra) (v : Value), j ≤ KR ∧ i = .int .i64 j ∧ acc.length = j ∧ Held w B wr w.heap.size [.pointer (some ⟨B, 0, none⟩)] ∧
                    Held w B wr (w.heap.size + 1) (zeroPhs 8 ++ tl nilS (fill [] 8) nilS nilS nilS (fill [] 5) (fill [] 8) (.int .i64 0) (.int .i64 0)) ∧ Held w B wr (w.heap.size + 1 + 1) (hd ++ tl gv (ints cf) dv1 v nilS (fill [] 5) (fill [] 8) (.int .i64 0) (.int .i64 0)) ∧ Made (w.heap.size + 3) wr gv gvs dv1 dets v acc nilS [] ∧
                    RdAt wr B l m 0 0 ∧ prep acc (timesS (railS l) (KR - j) m) = rR) (fun i _ => KR - (intOf i).toNat)
                  case atStart => exact ⟨0, m2, [], nilS, Nat.zero_le _, rfl, rfl, HR.out, HT.out, HP.out, HM.out, HD.out, by rw [prep_nil]; exact HRK.out⟩
                  case round =>
                    obtain ⟨j, m, acc, dv, hj, rfl, hacc, hR, hT, hP, hM, hrd, hpr⟩ := hrel
                    subst hacc
                    clear HR HT HP HM HD HRK
                    by_cases hlt2 : acc.length < KR
                    · have hcR := hR.cell (j := 0) rfl
                      have hcP := hP.cell (tl_r hhd hcl)
                      have hltP := hP.lt
                      have HR := Lib.hid hR; clear hR
                      have HT := Lib.hid hT; clear hT
                      have HP := Lib.hid hP; clear hP
                      have HM := Lib.hid hM; clear hM
                      have HD := Lib.hid hrd; clear hrd
                      obtain ⟨d, hd'⟩ : ∃ d, KR - acc.length = d + 1 := ⟨KR - acc.length - 1, by omega⟩
                      rw [hd'] at hpr
                      have HPR := Lib.hid hpr; clear hpr
                      have hcn := fun W (hx : Ext wr W) => rail_read W B l _ (HD.out.ext hx) hl
                      unfold readerV at hcn
                      have HCN := Lib.hid hcn; clear hcn
                      have hii := Tryz.infoRail
                      cases hi : Tryz.prog.info? 72 with
                      | none => rw [hi] at hii; cases hii
                      | some i0 =>
                      rw [hi] at hii
                      simp only [Option.map_some, Option.some.injEq, Prod.mk.injEq] at hii
                      obtain ⟨hz1, hz2, hz3⟩ := hii
                      have HI := Lib.hid hi; clear hi
                      have HZ1 := Lib.hid hz1; clear hz1
                      have HZ2 := Lib.hid hz2; clear hz2
                      have HZ3 := Lib.hid hz3; clear hz3
                      have hcall : ∀ W, Ext wr W → Calls Tryz.prog 67 #[.agg #[.pointer (some ⟨B, 0, none⟩)]] W (fun e w4 => (∃ c f, e = .panicked (chainOf c f) ∧ r = .error (c, f) ∧ ExtB B wr w4) ∨
                          (∃ x m5, railS l m = .ok (x, m5) ∧ e = .returned (.agg #[.int .i64 x.bars, .int .i64 x.clear, .int .i64 x.dwell, .int .i64 x.exit, .int .i64 x.delay, .int .i64 x.green, .int .i64 x.foot, .int .i64 x.hold, .int .i64 x.stay, .int .i64 x.most, .int .i64 x.limit]) ∧ RdAt w4 B l m5 0 0 ∧ ExtB B wr w4 ∧
                            w4.cell? ⟨(w.heap.size + 1 + 1), 114, none⟩ = some dv ∧ w4.cell? ⟨w.heap.size, 0, none⟩ = some (.pointer (some ⟨B, 0, none⟩)) ∧ w4.frozen? ⟨(w.heap.size + 1 + 1), 114, none⟩ = false)) := by
                        intro W hx
                        refine (HCN.out W hx).mono ?_
                        intro e w4 hp4
                        unfold RdPost at hp4
                        obtain ⟨rq, hq2⟩ : ∃ rq, railS l m = rq := ⟨_, rfl⟩
                        rw [hq2] at hp4
                        rcases rq with ⟨c, f⟩ | ⟨x, m5⟩
                        · obtain ⟨rfl, hx4⟩ := hp4
                          have hpr := HPR.out
                          rw [prep_err _ _ d m (c, f) hq2] at hpr
                          have hr := HQ.out
                          rw [← hpr] at hr
                          dsimp only at hr
                          exact .inl ⟨c, f, rfl, hr.symm, (hx.toB B).trans hx4⟩
                        · obtain ⟨v2, rfl, rfl, hrd4, hx4⟩ := hp4
                          have hx4' := (hx.toB B).trans hx4
                          exact .inr ⟨x, m5, hq2, rfl, hrd4, hx4', (HP.out.step hx4').cell (tl_r hhd hcl), (HR.out.step hx4').cell rfl, (HP.out.step hx4').free 114⟩
                      have HCALL := Lib.hid hcall; clear hcall HCN
                      have hneP : some (((w.heap.size + 1 + 1)) : Nat) ≠ dv.ownBlock := fun e => by have := (HM.out.r.lt _ e.symm).1; omega
                      have hneR : some (w.heap.size : Nat) ≠ dv.ownBlock := fun e => by have := (HM.out.r.lt _ e.symm).1; omega
                      go_wp2_with fail
                      go_region_law
                        (first
                          | ((go_simp; go_at_call 67; refine (HCALL.out _ ((Ext.refl _).drew)).mono ?_; rintro e w4 (⟨c, f, rfl, hre, hx4⟩ | ⟨x, m5, hq2, rfl, hrd4, hx4, hcP4, hcR4, hzP4⟩); (go_wp2; (first | exact ⟨rfl, by rw [hre]; exact ⟨rfl, HR.out.x.trans hx4⟩⟩ | exact (show _ ∧ _ from ⟨rfl, by rw [hre]; exact ⟨rfl, HR.out.x.trans hx4⟩⟩)));
                              (try dsimp only); (have HD4 := Lib.hid hrd4; clear hrd4; have HX4 := Lib.hid hx4; clear hx4; have hltP4 := (show (w.heap.size + 1 + 1) < w4.heap.size from World.block_lt_of_cell? w4 _ hcP4))))
                          | ((refine step_append_lies _ (by rfl) _ _ _ (by rfl) (w.heap.size + 3) 72 i0 (.agg (⟨0, 0, 0, 0, 0, 0, 0, 0, 0, 0, 0⟩ : Ra).cells.toArray) 11 88 Tryz.underlying31 HI.out HZ1.out HZ2.out HZ3.out rfl (by omega) dv acc.length (acc.flatMap Ra.cells) (by rfl)
                                ((ownsRow_extB HM.out.r (by omega) HX4.out).alloc _) ⟨w4.heap.size, 0, none⟩ 1 1 (Ra.cells x) (by rfl) (by rfl)
                                (World.news_of_block (cs := (Ra.cells x).toArray) (t := 72) (fr := (0, 0)) (heap_alloc_new w4 _)) (by simp [Ra.cells, Value.oneCell'])
                                (by omega) (by simp [maxLen]; omega) (by omega) (by have := HX4.out.size; have := hltP; simp; omega) (w4.heap.size + 1) (by simp) ?_; intro g cap w5 hown5 hgrow hat hlt5;
                                (have hcP5 := far_cell hgrow hcP4 hneP; have hcR5 := far_cell hgrow hcR4 hneR; have hzP5 := far_free hgrow hcP4 hzP4 hneP))))
                      all_goals
                        have hx5 := ((Ext.refl w4).alloc (.cells (Ra.cells x).toArray 72))
                        have hlk := HM.out.r.lt
                        have hbk : ∀ k, dv.ownBlock = some k → B < k := fun k e => by have := (hlk k e).1; omega
                        have hkR : ∀ k, dv.ownBlock = some k → w.heap.size ≠ k ∧ w.heap.size ≤ k := fun k e => by have := (hlk k e).1; omega
                        have hkT : ∀ k, dv.ownBlock = some k → (w.heap.size + 1) ≠ k ∧ w.heap.size ≤ k := fun k e => by have := (hlk k e).1; omega
                        have hkP : ∀ k, dv.ownBlock = some k → (w.heap.size + 1 + 1) ≠ k ∧ w.heap.size ≤ k := fun k e => by have := (hlk k e).1; omega
                        have hP5 := ((HP.out.step HX4.out).ext hx5).grown hgrow hkP
                        have hrd5 := (HD4.out.ext hx5).grown hgrow hbk
                        have HD6 := Lib.hid (hP5.rd hrd5 114 (.slice (some ⟨g, 0, none⟩) (acc.length + 1) cap))
                        have HR6 := Lib.hid ((((HR.out.step HX4.out).ext hx5).grown hgrow hkR).other (g' := (w.heap.size + 1 + 1)) hP5.new (by omega) 114 (.slice (some ⟨g, 0, none⟩) (acc.length + 1) cap))
                        have HT6 := Lib.hid ((((HT.out.step HX4.out).ext hx5).grown hgrow hkT).other (g' := (w.heap.size + 1 + 1)) hP5.new (by omega) 114 (.slice (some ⟨g, 0, none⟩) (acc.length + 1) cap))
                        have hP6 := hP5.set 114 (.slice (some ⟨g, 0, none⟩) (acc.length + 1) cap)
                        rw [tl_set_r hhd hcl] at hP6
                        have HP6 := Lib.hid hP6; clear hP6
                        have HM6 := Lib.hid ((((HM.out.extB (by omega) HX4.out).extB (by omega) (hx5.toB B)).addR x hgrow hown5).set (k := (w.heap.size + 1 + 1)) (o := 114) (u := .slice (some ⟨g, 0, none⟩) (acc.length + 1) cap) (by omega))
                        have hpr := HPR.out
                        rw [prep_ok _ _ d m x m5 hq2] at hpr
                        have HPR6 := Lib.hid hpr; clear hpr hq2
                        clear hrd5 hP5 hkP hkT hkR hbk hlk hx5 HCALL HD4 HX4 HR HP HT HM hown5 hgrow hat hlt5 hcP5 hcR5 hzP5 hcP4 hcR4 hzP4
                        go_wp2
                        go_roundw
                        case rel => exact ⟨acc.length + 1, m5, acc ++ [x], .slice (some ⟨g, 0, none⟩) (acc.length + 1) cap, by omega, by go_num, by simp, HR6.out, HT6.out, HP6.out,
                          HM6.out, HD6.out, by rw [show KR - (acc.length + 1) = d by omega]; exact HPR6.out⟩
                        case measure => simp [intOf]; omega
                    · rw [show KR - acc.length = 0 by omega, prep_zero] at hpr
                      subst hpr
                      have hr := HQ.out
                      dsimp only at hr
                      clear HQ
                      obtain ⟨rails, hrails⟩ : ∃ rails, rails = acc := ⟨_, rfl⟩
                      obtain ⟨rv1, hrv1⟩ : ∃ rv1, rv1 = dv := ⟨_, rfl⟩
                      rw [← hrails, ← hrv1] at hM
                      rw [← hrv1] at hP
                      rw [← hrails] at hr
                      have hlrails : rails.length ≤ 16 := by rw [hrails]; omega
                      clear hrails hrv1
                      have HR := Lib.hid hR; clear hR
                      have HT := Lib.hid hT; clear hT
                      have HP := Lib.hid hP; clear hP
                      have HM := Lib.hid hM; clear hM
                      have HD := Lib.hid hrd; clear hrd
                      have HQ := Lib.hid hr; clear hr
                      have hcR := HR.out.cell (j := 0) rfl
                      go_wp2_with fail
                      clear hlt2 hj hcR
                      have hcn := num_c _ B l _ HD.out 1 0 4 hl (by omega)
                      have hr := HQ.out
                      clear HQ
                      unfold RdPost readerV at hcn
                      generalize hq : numS l 1 0 4 m = rq at hcn hr
                      rcases rq with ⟨c, f⟩ | ⟨bn, m2⟩
                      · dsimp only at hr
                        subst hr
                        refine hcn.mono ?_
                        rintro e w2 ⟨rfl, hx2⟩
                        have HX := Lib.hid (HR.out.x.trans hx2)
                        clear hcn hq hx2
                        go_wp2
                        exact ⟨rfl, rfl, HX.out⟩
                      dsimp only at hr
                      have hkb := numS_bd hq
                      obtain ⟨KB, rfl⟩ : ∃ KB : Nat, bn = (KB : Int) := ⟨bn.toNat, by omega⟩
                      rw [Int.toNat_natCast] at hr
                      have HQ := Lib.hid hr; clear hr
                      refine hcn.mono ?_
                      clear hcn hq
                      rintro e w2 ⟨_, rfl, rfl, hrd2, hx2⟩
                      have HR2 := Lib.hid (HR.out.step hx2); clear HR
                      have HT2 := Lib.hid (HT.out.step hx2); clear HT
                      have HP2 := Lib.hid (HP.out.step hx2); clear HP
                      have HM2 := Lib.hid (HM.out.extB (by omega) hx2); clear HM
                      have HD2 := Lib.hid hrd2; clear hrd2 HD hx2
                      have HR := HR2; clear HR2
                      have HT := HT2; clear HT2
                      have HP := HP2; clear HP2
                      have HM := HM2; clear HM2
                      have HD := HD2; clear HD2
                      have hr := HQ.out
                      clear HQ
                      obtain ⟨rB, hrk⟩ : ∃ rB, timesS (busS l) KB m2 = rB := ⟨_, rfl⟩
                      rw [hrk] at hr
                      have HRK := Lib.hid hrk; clear hrk
                      have HQ := Lib.hid hr; clear hr
                      go_wp2_with fail
                      go_loopw [71] (fun i wr => ∃ (j m : Nat) (acc : List Bu) (v : Value), j ≤ KB ∧ i = .int .i64 j ∧ acc.length = j ∧ Held w B wr w.heap.size [.pointer (some ⟨B, 0, none⟩)] ∧
                        Held w B wr (w.heap.size + 1) (zeroPhs 8 ++ tl nilS (fill [] 8) nilS nilS nilS (fill [] 5) (fill [] 8) (.int .i64 0) (.int .i64 0)) ∧ Held w B wr (w.heap.size + 1 + 1) (hd ++ tl gv (ints cf) dv1 rv1 v (fill [] 5) (fill [] 8) (.int .i64 0) (.int .i64 0)) ∧ Made (w.heap.size + 3) wr gv gvs dv1 dets rv1 rails v acc ∧
                        RdAt wr B l m 0 0 ∧ prep acc (timesS (busS l) (KB - j) m) = rB) (fun i _ => KB - (intOf i).toNat)
                      case atStart => exact ⟨0, m2, [], nilS, Nat.zero_le _, rfl, rfl, HR.out, HT.out, HP.out, HM.out, HD.out, by rw [prep_nil]; exact HRK.out⟩
                      case round =>
                        obtain ⟨j, m, acc, dv, hj, rfl, hacc, hR, hT, hP, hM, hrd, hpr⟩ := hrel
                        subst hacc
                        clear HR HT HP HM HD HRK
                        by_cases hlt2 : acc.length < KB
                        · have hcR := hR.cell (j := 0) rfl
                          have hltP := hP.lt
                          have HR := Lib.hid hR; clear hR
                          have HT := Lib.hid hT; clear hT
                          have HP := Lib.hid hP; clear hP
                          have HM := Lib.hid hM; clear hM
                          have HD := Lib.hid hrd; clear hrd
                          obtain ⟨d, hd'⟩ : ∃ d, KB - acc.length = d + 1 := ⟨KB - acc.length - 1, by omega⟩
                          rw [hd'] at hpr
                          have HPR := Lib.hid hpr; clear hpr
                          have hii := Tryz.infoBus
                          cases hi : Tryz.prog.info? 74 with
                          | none => rw [hi] at hii; cases hii
                          | some i0 =>
                          rw [hi] at hii
                          simp only [Option.map_some, Option.some.injEq, Prod.mk.injEq] at hii
                          obtain ⟨hz1, hz2, hz3⟩ := hii
                          have HI := Lib.hid hi; clear hi
                          have HZ1 := Lib.hid hz1; clear hz1
                          have HZ2 := Lib.hid hz2; clear hz2
                          have HZ3 := Lib.hid hz3; clear hz3
                          go_wp2_with fail
                          have hcn := set_c _ B l _ HD.out hl
                          unfold RdPost readerV at hcn
                          generalize hq : numS l 1 0 255 m = rq at hcn
                          rcases rq with ⟨c, f⟩ | ⟨x1, m3⟩
                          · have hpr := HPR.out
                            rw [prep_err _ _ d m (c, f) (by unfold busS; rw [hq])] at hpr
                            have hr := HQ.out
                            rw [← hpr] at hr
                            dsimp only at hr
                            subst hr
                            refine hcn.mono ?_
                            rintro e w2 ⟨rfl, hx2⟩
                            have HX := Lib.hid (HR.out.x.trans hx2)
                            clear hcn hq hx2 HQ hpr HPR
                            go_wp2
                            exact ⟨rfl, rfl, HX.out⟩
                          refine hcn.mono ?_
                          clear hcn
                          have HQ1 := Lib.hid hq; clear hq
                          rintro e w2 ⟨_, rfl, rfl, hrd2, hx2⟩
                          clear hcR
                          have HR2 := Lib.hid (HR.out.step hx2)
                          have HT2 := Lib.hid (HT.out.step hx2)
                          have HP2 := Lib.hid (HP.out.step hx2)
                          have HM2 := Lib.hid (HM.out.extB (by omega) hx2)
                          have hltP2 := HP2.out.lt
                          have hxb := (Ext.refl w2).alloc (.cells ([.int .i64 x1, .int .i64 0] : List Value).toArray 74)
                          have HBX := Lib.hid (Held.made (ExtB.refl B w2) (by omega) [.int .i64 x1, .int .i64 0] 74)
                          have HD2 := Lib.hid (hrd2.ext hxb)
                          have hcR := (HR2.out.ext hxb).cell (j := 0) rfl
                          have HXB := Lib.hid hxb; clear hxb
                          clear HR HT HP HM HD hrd2 hx2
                          go_wp2_with fail
                          have hcn := time_c _ B l _ HD2.out hl
                          unfold RdPost readerV at hcn
                          generalize hq : numS l 2 0 9999 m3 = rq at hcn
                          rcases rq with ⟨c, f⟩ | ⟨x2, m4⟩
                          · have hpr := HPR.out
                            rw [prep_err _ _ d m (c, f) (by unfold busS; rw [HQ1.out]; dsimp only; rw [hq])] at hpr
                            have hr := HQ.out
                            rw [← hpr] at hr
                            dsimp only at hr
                            subst hr
                            refine hcn.mono ?_
                            rintro e w3 ⟨rfl, hx3⟩
                            have HX := Lib.hid ((HR2.out.x.trans (HXB.out.toB B)).trans hx3)
                            clear hcn hq hx3 HQ hpr HPR
                            go_wp2
                            exact ⟨rfl, rfl, HX.out⟩
                          refine hcn.mono ?_
                          clear hcn
                          have hpr := HPR.out
                          rw [prep_ok _ _ d m ⟨x1, x2⟩ m4 (by unfold busS; rw [HQ1.out]; dsimp only; rw [hq])] at hpr
                          clear HPR
                          have HPR := Lib.hid hpr; clear hpr hq HQ1
                          rintro e w3 ⟨_, rfl, rfl, hrd3, hx3⟩
                          clear hcR
                          have hB3 := HBX.out.step hx3
                          have hcb := hB3.cell (j := 1) rfl
                          have hzb := hB3.free 1
                          have hB4 := hB3.set 1 (.int .i64 x2)
                          have hcb0 := hB4.cell (j := 0) rfl
                          have hcb1 := hB4.cell (j := 1) rfl
                          have hx4 := hB4.x
                          have hlt4 := hB4.lt
                          have HR4 := Lib.hid (HR2.out.step hx4)
                          have HT4 := Lib.hid (HT2.out.step hx4)
                          have hP4 := HP2.out.step hx4
                          have HM4 := Lib.hid (HM2.out.extB (by omega) hx4)
                          have HD4 := Lib.hid (hB3.rd hrd3 1 (.int .i64 x2))
                          have hcP4 := hP4.cell (tl_b hhd hcl)
                          have hzP4 := hP4.free 115
                          have HP4 := Lib.hid hP4; clear hP4
                          have hneP : some (((w.heap.size + 1 + 1)) : Nat) ≠ dv.ownBlock := fun e => by have := (HM4.out.b.lt _ e.symm).1; omega
                          clear hB3 hB4 hx4 hrd3 hx3 HBX HD2 HR2 HT2 HP2 HM2 HXB
                          go_wp2_with (at_builtin; refine wpList_append_lies _ rfl _ _ 32 rfl (w.heap.size + 3) 74 i0 (.agg (⟨0, 0⟩ : Bu).cells.toArray) 2 16 Tryz.underlying32 HI.out HZ1.out HZ2.out HZ3.out rfl (by omega) dv acc.length (acc.flatMap Bu.cells) rfl (HM4.out.b.alloc _) ⟨w3.heap.size, 0, none⟩ 1 1 (Bu.cells ⟨x1, x2⟩) rfl rfl (World.news_of_block (cs := (Bu.cells ⟨x1, x2⟩).toArray) (t := 74) (fr := (0, 0)) (heap_set_new _ _ _ _ _)) (by simp [Bu.cells, Value.oneCell']) (by omega) (by simp [maxLen]; omega) (by omega) (by simp [World.setCell] at hlt4 ⊢; omega) (w3.heap.size + 1) (by simp [World.setCell]) ?_; intro g cap w5 hown5 hgrow hat hlt5; have hcP5 := far_cell hgrow hcP4 hneP; have hzP5 := far_free hgrow hcP4 hzP4 hneP)
                          have hx5 := ((Ext.refl (w3.setCell ⟨w2.heap.size, 1, none⟩ (.int .i64 x2))).alloc (.cells (Bu.cells ⟨x1, x2⟩).toArray 74))
                          have hlk := HM4.out.b.lt
                          have hbk : ∀ k, dv.ownBlock = some k → B < k := fun k e => by have := (hlk k e).1; omega
                          have hkR : ∀ k, dv.ownBlock = some k → w.heap.size ≠ k ∧ w.heap.size ≤ k := fun k e => by have := (hlk k e).1; omega
                          have hkT : ∀ k, dv.ownBlock = some k → (w.heap.size + 1) ≠ k ∧ w.heap.size ≤ k := fun k e => by have := (hlk k e).1; omega
                          have hkP : ∀ k, dv.ownBlock = some k → (w.heap.size + 1 + 1) ≠ k ∧ w.heap.size ≤ k := fun k e => by have := (hlk k e).1; omega
                          have hP5 := (HP4.out.ext hx5).grown hgrow hkP
                          have hrd5 := (HD4.out.ext hx5).grown hgrow hbk
                          have HD6 := Lib.hid (hP5.rd hrd5 115 (.slice (some ⟨g, 0, none⟩) (acc.length + 1) cap))
                          have HR6 := Lib.hid (((HR4.out.ext hx5).grown hgrow hkR).other (g' := (w.heap.size + 1 + 1)) hP5.new (by omega) 115 (.slice (some ⟨g, 0, none⟩) (acc.length + 1) cap))
                          have HT6 := Lib.hid (((HT4.out.ext hx5).grown hgrow hkT).other (g' := (w.heap.size + 1 + 1)) hP5.new (by omega) 115 (.slice (some ⟨g, 0, none⟩) (acc.length + 1) cap))
                          have hP6 := hP5.set 115 (.slice (some ⟨g, 0, none⟩) (acc.length + 1) cap)
                          rw [tl_set_b hhd hcl] at hP6
                          have HP6 := Lib.hid hP6; clear hP6
                          have HM6 := Lib.hid (((HM4.out.extB (by omega) (hx5.toB B)).addB ⟨x1, x2⟩ hgrow hown5).set (k := (w.heap.size + 1 + 1)) (o := 115) (u := .slice (some ⟨g, 0, none⟩) (acc.length + 1) cap) (by omega))
                          clear hrd5 hP5 hkP hkT hkR hbk hlk hx5 HD4 HR4 HP4 HT4 HM4 hown5 hgrow hat hlt5 hcP5 hzP5 hcP4 hzP4
                          go_roundw
                          case rel => exact ⟨acc.length + 1, m4, acc ++ [⟨x1, x2⟩], .slice (some ⟨g, 0, none⟩) (acc.length + 1) cap, by omega, by go_num, by simp, HR6.out, HT6.out, HP6.out,
                            HM6.out, HD6.out, by rw [show KB - (acc.length + 1) = d by omega]; exact HPR.out⟩
                          case measure => simp [intOf]; omega
                        · rw [show KB - acc.length = 0 by omega, prep_zero] at hpr
                          subst hpr
                          have hr := HQ.out
                          dsimp only at hr
                          clear HQ
                          obtain ⟨buses, hbuses⟩ : ∃ buses, buses = acc := ⟨_, rfl⟩
                          obtain ⟨bv1, hbv1⟩ : ∃ bv1, bv1 = dv := ⟨_, rfl⟩
                          rw [← hbuses, ← hbv1] at hM
                          rw [← hbv1] at hP
                          rw [← hbuses] at hr
                          have hlbuses : buses.length ≤ 16 := by rw [hbuses]; omega
                          clear hbuses hbv1
                          rw [tl_ts] at hP
                          have hlen2 : (hd ++ gv :: (ints cf ++ [dv1, rv1, bv1])).length = 116 := by simp [hhd, hcl]
                          have HR := Lib.hid (hR.ext ((Ext.refl _).alloc (.cells (ptrs (w.heap.size + 1 + 1) 116 5).toArray 107)))
                          have HT := Lib.hid (hT.ext ((Ext.refl _).alloc (.cells (ptrs (w.heap.size + 1 + 1) 116 5).toArray 107)))
                          have HP := Lib.hid (hP.ext ((Ext.refl _).alloc (.cells (ptrs (w.heap.size + 1 + 1) 116 5).toArray 107)))
                          have HS := Lib.hid (Held.made hP.x hlt (ptrs (w.heap.size + 1 + 1) 116 5) 107)
                          have HM := Lib.hid (hM.extB (by omega) (((Ext.refl _).alloc (.cells (ptrs (w.heap.size + 1 + 1) 116 5).toArray 107)).toB B))
                          have HD := Lib.hid (hrd.ext ((Ext.refl _).alloc (.cells (ptrs (w.heap.size + 1 + 1) 116 5).toArray 107)))
                          have hltP := hP.lt
                          clear hR hT hP hM hrd
                          obtain ⟨rT, hrk⟩ : ∃ rT, timesS (fun n => numS l 2 0 9999 n) 5 m = rT := ⟨_, rfl⟩
                          rw [hrk] at hr
                          have HRK := Lib.hid hrk; clear hrk
                          have HQ := Lib.hid hr; clear hr
                          go_wp2_with fail
                          clear hlt2 hj
                          generalize wr.heap.size = S at *
                          go_loopw [93] (fun i wr => ∃ (j m : Nat) (acc : List Int), j ≤ 5 ∧ i = .int .i64 j ∧ acc.length = j ∧ Held w B wr w.heap.size [.pointer (some ⟨B, 0, none⟩)] ∧
                            Held w B wr (w.heap.size + 1) (zeroPhs 8 ++ tl nilS (fill [] 8) nilS nilS nilS (fill [] 5) (fill [] 8) (.int .i64 0) (.int .i64 0)) ∧
                            Held w B wr S (ptrs (w.heap.size + 1 + 1) 116 5) ∧ Held w B wr (w.heap.size + 1 + 1) ((hd ++ gv :: (ints cf ++ [dv1, rv1, bv1])) ++ fill acc 5 ++ (fill [] 8 ++ [Value.int .i64 0, Value.int .i64 0])) ∧ Made (w.heap.size + 3) wr gv gvs dv1 dets rv1 rails bv1 buses ∧ RdAt wr B l m 0 0 ∧ prep acc (timesS (fun n => numS l 2 0 9999 n) (5 - j) m) = rT) (fun i _ => 5 - (intOf i).toNat)
                          case atStart => exact ⟨0, m, [], Nat.zero_le _, rfl, rfl, HR.out, HT.out, HS.out, HP.out, HM.out, HD.out, by rw [prep_nil]; exact HRK.out⟩
                          case round =>
                            obtain ⟨j, m, acc, hj, rfl, hacc, hR, hT, hS, hP, hM, hrd, hpr⟩ := hrel
                            subst hacc
                            clear HR HT HS HP HM HD HRK
                            by_cases hlt2 : acc.length < 5
                            · have hcR := hR.cell (j := 0) rfl
                              have hcS := hS.cell (ptrs_get (w.heap.size + 1 + 1) 116 5 acc.length hlt2)
                              have HS := Lib.hid hS; clear hS
                              have HR := Lib.hid hR; clear hR
                              have HT := Lib.hid hT; clear hT
                              have HP := Lib.hid hP; clear hP
                              have HM := Lib.hid hM; clear hM
                              have HD := Lib.hid hrd; clear hrd
                              go_wp2_with fail
                              have hcn := time_c _ B l _ HD.out hl
                              obtain ⟨d, hd'⟩ : ∃ d, 5 - acc.length = d + 1 := ⟨5 - acc.length - 1, by omega⟩
                              rw [hd'] at hpr
                              unfold RdPost readerV at hcn
                              generalize hq : numS l 2 0 9999 m = rq at hcn
                              rcases rq with ⟨c, f⟩ | ⟨x, m'⟩
                              · rw [prep_err acc _ d m _ hq] at hpr
                                subst hpr
                                have hr := HQ.out
                                dsimp only at hr
                                subst hr
                                refine hcn.mono ?_
                                rintro e w2 ⟨rfl, hx2⟩
                                have HX := Lib.hid (HR.out.x.trans hx2)
                                clear hcn hq hx2 HQ
                                go_wp2
                                exact ⟨rfl, rfl, HX.out⟩
                              · rw [prep_ok acc _ d m x m' hq] at hpr
                                have HPR := Lib.hid hpr; clear hpr
                                refine hcn.mono ?_
                                clear hcn hq
                                rintro e w2 ⟨_, rfl, rfl, hrd2, hx2⟩
                                clear hcR hcS
                                have HS3 := Lib.hid ((HS.out.step hx2).other (g' := (w.heap.size + 1 + 1)) HP.out.new (by omega) (116 + acc.length) (.int .i64 x))
                                clear HS
                                have hP2 := HP.out.step hx2
                                have hc2 := hP2.cell (fill_at (hd ++ gv :: (ints cf ++ [dv1, rv1, bv1])) (fill [] 8 ++ [Value.int .i64 0, Value.int .i64 0]) acc 5 (by omega))
                                rw [show (hd ++ gv :: (ints cf ++ [dv1, rv1, bv1])).length + acc.length = 116 + acc.length by omega] at hc2
                                have hz2 := hP2.free (116 + acc.length)
                                have hP3 := hP2.set (116 + acc.length) (.int .i64 x)
                                rw [fill_set (hd ++ gv :: (ints cf ++ [dv1, rv1, bv1])) (fill [] 8 ++ [Value.int .i64 0, Value.int .i64 0]) acc 5 (116 + acc.length) x (by omega) (by omega)] at hP3
                                have HD3 := Lib.hid (hP2.rd hrd2 (116 + acc.length) (.int .i64 x))
                                have HR3 := Lib.hid ((HR.out.step hx2).other (g' := (w.heap.size + 1 + 1)) hP2.new (by omega) (116 + acc.length) (.int .i64 x))
                                have HT3 := Lib.hid ((HT.out.step hx2).other (g' := (w.heap.size + 1 + 1)) hP2.new (by omega) (116 + acc.length) (.int .i64 x))
                                have HM3 := Lib.hid ((HM.out.extB (by omega) hx2).set (k := (w.heap.size + 1 + 1)) (o := 116 + acc.length) (u := .int .i64 x) (by omega))
                                have HP3 := Lib.hid hP3; clear hP3 hP2 HP HR HT HM HD hrd2 hx2
                                go_wp2
                                go_roundw
                                case rel => exact ⟨acc.length + 1, m', acc ++ [x], by omega, by go_num, by simp, HR3.out, HT3.out, HS3.out, HP3.out, HM3.out, HD3.out, by rw [show 5 - (acc.length + 1) = d by omega]; exact HPR.out⟩
                                case measure => simp [intOf]; omega
                            · rw [show 5 - acc.length = 0 by omega, prep_zero] at hpr
                              subst hpr
                              have hr := HQ.out
                              dsimp only at hr
                              clear HQ
                              clear hS
                              have hts : acc.length = 5 := by omega
                              rw [fill_full acc 5 hts, ← tl_ts] at hP
                              obtain ⟨ts, hts'⟩ : ∃ ts, ts = acc := ⟨_, rfl⟩
                              rw [← hts'] at hP hr hts
                              have htl : (ints ts).length = 5 := by simp [ints, hts]
                              rw [tl_fl] at hP
                              have hlen3 : (hd ++ gv :: (ints cf ++ (dv1 :: rv1 :: bv1 :: ints ts))).length = 121 := by simp [hhd, hcl, htl]
                              clear hts'
                              have HR := Lib.hid hR; clear hR
                              have HT := Lib.hid hT; clear hT
                              have HP := Lib.hid hP; clear hP
                              have HM := Lib.hid hM; clear hM
                              have HD := Lib.hid hrd; clear hrd
                              obtain ⟨rF, hrk⟩ : ∃ rF, timesS (fun n => numS l 1 0 2 n) 8 m = rF := ⟨_, rfl⟩
                              rw [hrk] at hr
                              have HRK := Lib.hid hrk; clear hrk
                              have HQ := Lib.hid hr; clear hr
                              go_wp2_with fail
                              clear hlt2 hj
                              go_loopw [102] (fun i wr => ∃ (j m : Nat) (acc : List Int), j ≤ 8 ∧ i = .int .i64 j ∧ acc.length = j ∧ Held w B wr w.heap.size [.pointer (some ⟨B, 0, none⟩)] ∧
                                Held w B wr (w.heap.size + 1) (zeroPhs 8 ++ tl nilS (fill [] 8) nilS nilS nilS (fill [] 5) (fill [] 8) (.int .i64 0) (.int .i64 0)) ∧
                                Held w B wr (w.heap.size + 1 + 1) ((hd ++ gv :: (ints cf ++ (dv1 :: rv1 :: bv1 :: ints ts))) ++ fill acc 8 ++ [Value.int .i64 0, Value.int .i64 0]) ∧ Made (w.heap.size + 3) wr gv gvs dv1 dets rv1 rails bv1 buses ∧ RdAt wr B l m 0 0 ∧ prep acc (timesS (fun n => numS l 1 0 2 n) (8 - j) m) = rF) (fun i _ => 8 - (intOf i).toNat)
                              case atStart => exact ⟨0, m, [], Nat.zero_le _, rfl, rfl, HR.out, HT.out, HP.out, HM.out, HD.out, by rw [prep_nil]; exact HRK.out⟩
                              case round =>
                                obtain ⟨j, m, acc, hj, rfl, hacc, hR, hT, hP, hM, hrd, hpr⟩ := hrel
                                subst hacc
                                clear HR HT HP HM HD HRK
                                by_cases hlt2 : acc.length < 8
                                · have hcR := hR.cell (j := 0) rfl
                                  have HR := Lib.hid hR; clear hR
                                  have HT := Lib.hid hT; clear hT
                                  have HP := Lib.hid hP; clear hP
                                  have HM := Lib.hid hM; clear hM
                                  have HD := Lib.hid hrd; clear hrd
                                  go_wp2_with fail
                                  have hcn := num_c _ B l _ HD.out 1 0 2 hl (by omega)
                                  obtain ⟨d, hd'⟩ : ∃ d, 8 - acc.length = d + 1 := ⟨8 - acc.length - 1, by omega⟩
                                  rw [hd'] at hpr
                                  unfold RdPost readerV at hcn
                                  generalize hq : numS l 1 0 2 m = rq at hcn
                                  rcases rq with ⟨c, f⟩ | ⟨x, m'⟩
                                  · rw [prep_err acc _ d m _ hq] at hpr
                                    subst hpr
                                    have hr := HQ.out
                                    dsimp only at hr
                                    subst hr
                                    refine hcn.mono ?_
                                    rintro e w2 ⟨rfl, hx2⟩
                                    have HX := Lib.hid (HR.out.x.trans hx2)
                                    clear hcn hq hx2 HQ
                                    go_wp2
                                    exact ⟨rfl, rfl, HX.out⟩
                                  · rw [prep_ok acc _ d m x m' hq] at hpr
                                    have HPR := Lib.hid hpr; clear hpr
                                    refine hcn.mono ?_
                                    clear hcn hq
                                    rintro e w2 ⟨_, rfl, rfl, hrd2, hx2⟩
                                    clear hcR
                                    have hP2 := HP.out.step hx2
                                    have hc2 := hP2.cell (fill_at (hd ++ gv :: (ints cf ++ (dv1 :: rv1 :: bv1 :: ints ts))) [Value.int .i64 0, Value.int .i64 0] acc 8 (by omega))
                                    rw [show (hd ++ gv :: (ints cf ++ (dv1 :: rv1 :: bv1 :: ints ts))).length + acc.length = 121 + acc.length by omega] at hc2
                                    have hz2 := hP2.free (121 + acc.length)
                                    have hP3 := hP2.set (121 + acc.length) (.int .i64 x)
                                    rw [fill_set (hd ++ gv :: (ints cf ++ (dv1 :: rv1 :: bv1 :: ints ts))) [Value.int .i64 0, Value.int .i64 0] acc 8 (121 + acc.length) x (by omega) (by omega)] at hP3
                                    have HD3 := Lib.hid (hP2.rd hrd2 (121 + acc.length) (.int .i64 x))
                                    have HR3 := Lib.hid ((HR.out.step hx2).other (g' := (w.heap.size + 1 + 1)) hP2.new (by omega) (121 + acc.length) (.int .i64 x))
                                    have HT3 := Lib.hid ((HT.out.step hx2).other (g' := (w.heap.size + 1 + 1)) hP2.new (by omega) (121 + acc.length) (.int .i64 x))
                                    have HM3 := Lib.hid ((HM.out.extB (by omega) hx2).set (k := (w.heap.size + 1 + 1)) (o := 121 + acc.length) (u := .int .i64 x) (by omega))
                                    have HP3 := Lib.hid hP3; clear hP3 hP2 HP HR HT HM HD hrd2 hx2
                                    go_wp2
                                    go_roundw
                                    case rel => exact ⟨acc.length + 1, m', acc ++ [x], by omega, by go_num, by simp, HR3.out, HT3.out, HP3.out, HM3.out, HD3.out, by rw [show 8 - (acc.length + 1) = d by omega]; exact HPR.out⟩
                                    case measure => simp [intOf]; omega
                                · rw [show 8 - acc.length = 0 by omega, prep_zero] at hpr
                                  subst hpr
                                  have hr := HQ.out
                                  dsimp only at hr
                                  clear HQ
                                  have hfl : acc.length = 8 := by omega
                                  rw [fill_full acc 8 hfl, ← tl_fl] at hP
                                  obtain ⟨fl, hfl'⟩ : ∃ fl, fl = acc := ⟨_, rfl⟩
                                  rw [← hfl'] at hP hr hfl
                                  have hfll : (ints fl).length = 8 := by simp [ints, hfl]
                                  clear hfl'
                                  have HR := Lib.hid hR; clear hR
                                  have HT := Lib.hid hT; clear hT
                                  have HP := Lib.hid hP; clear hP
                                  have HM := Lib.hid hM; clear hM
                                  have HD := Lib.hid hrd; clear hrd
                                  have HQ := Lib.hid hr; clear hr
                                  have hcR := HR.out.cell (j := 0) rfl
                                  go_wp2_with fail
                                  clear hlt2 hj
                                  have hcn := num_c _ B l _ HD.out 4 0 2147483647 hl (by omega)
                                  have hr := HQ.out
                                  clear HQ
                                  unfold RdPost readerV at hcn
                                  generalize hq : numS l 4 0 2147483647 m = rq at hcn hr
                                  rcases rq with ⟨c, f⟩ | ⟨win, m2⟩
                                  · dsimp only at hr
                                    subst hr
                                    refine hcn.mono ?_
                                    rintro e w5 ⟨rfl, hx2⟩
                                    have HX := Lib.hid (HR.out.x.trans hx2)
                                    clear hcn hq hx2
                                    go_wp2
                                    exact ⟨rfl, rfl, HX.out⟩
                                  dsimp only at hr
                                  have HQ := Lib.hid hr; clear hr
                                  refine hcn.mono ?_
                                  clear hcn hq
                                  rintro e w5 ⟨_, rfl, rfl, hrd2, hx2⟩
                                  clear hcR
                                  have hP2 := HP.out.step hx2
                                  have hc2 := hP2.cell (tl_x hhd hcl htl hfll)
                                  have hz2 := hP2.free 129
                                  have HD2 := Lib.hid (hP2.rd hrd2 129 (.int .i64 win))
                                  have HR2 := Lib.hid ((HR.out.step hx2).other (g' := (w.heap.size + 1 + 1)) hP2.new (by omega) 129 (.int .i64 win))
                                  have HT2 := Lib.hid ((HT.out.step hx2).other (g' := (w.heap.size + 1 + 1)) hP2.new (by omega) 129 (.int .i64 win))
                                  have HM2 := Lib.hid ((HM.out.extB (by omega) hx2).set (k := (w.heap.size + 1 + 1)) (o := 129) (u := .int .i64 win) (by omega))
                                  have hP3 := hP2.set 129 (.int .i64 win)
                                  rw [tl_set_x hhd hcl htl hfll] at hP3
                                  clear HD HR HT HP HM hrd2 hx2 hP2
                                  have HD := HD2; clear HD2
                                  have HR := HR2; clear HR2
                                  have HT := HT2; clear HT2
                                  have HM := HM2; clear HM2
                                  have HP := Lib.hid hP3; clear hP3
                                  have hcR := HR.out.cell (j := 0) rfl
                                  go_wp2_with fail
                                  clear hc2 hz2
                                  have hcn := num_c _ B l _ HD.out 4 0 2147483647 hl (by omega)
                                  have hr := HQ.out
                                  clear HQ
                                  unfold RdPost readerV at hcn
                                  generalize hq : numS l 4 0 2147483647 m2 = rq at hcn hr
                                  rcases rq with ⟨c, f⟩ | ⟨share, m3⟩
                                  · dsimp only at hr
                                    subst hr
                                    refine hcn.mono ?_
                                    rintro e w6 ⟨rfl, hx2⟩
                                    have HX := Lib.hid (HR.out.x.trans hx2)
                                    clear hcn hq hx2
                                    go_wp2
                                    exact ⟨rfl, rfl, HX.out⟩
                                  dsimp only at hr
                                  have HQ := Lib.hid hr; clear hr
                                  refine hcn.mono ?_
                                  clear hcn hq
                                  rintro e w6 ⟨_, rfl, rfl, hrd2, hx2⟩
                                  clear hcR
                                  have hP2 := HP.out.step hx2
                                  have hc2 := hP2.cell (tl_y hhd hcl htl hfll)
                                  have hz2 := hP2.free 130
                                  have HD2 := Lib.hid (hP2.rd hrd2 130 (.int .i64 share))
                                  have HR2 := Lib.hid ((HR.out.step hx2).other (g' := (w.heap.size + 1 + 1)) hP2.new (by omega) 130 (.int .i64 share))
                                  have HT2 := Lib.hid ((HT.out.step hx2).other (g' := (w.heap.size + 1 + 1)) hP2.new (by omega) 130 (.int .i64 share))
                                  have HM2 := Lib.hid ((HM.out.extB (by omega) hx2).set (k := (w.heap.size + 1 + 1)) (o := 130) (u := .int .i64 share) (by omega))
                                  have hP3 := hP2.set 130 (.int .i64 share)
                                  rw [tl_set_y hhd hcl htl hfll] at hP3
                                  clear HD HR HT HP HM hrd2 hx2 hP2
                                  have HD := HD2; clear HD2
                                  have HR := HR2; clear HR2
                                  have HT := HT2; clear HT2
                                  have HM := HM2; clear HM2
                                  have HP := Lib.hid hP3; clear hP3
                                  have hr := HQ.out
                                  subst hr
                                  have hlenF : (hd ++ tl gv (ints cf) dv1 rv1 bv1 (ints ts) (ints fl) (.int .i64 win) (.int .i64 share)).length = 131 := tl_len hhd hcl htl hfll
                                  obtain ⟨F, hF⟩ : ∃ F, F = (hd ++ tl gv (ints cf) dv1 rv1 bv1 (ints ts) (ints fl) (.int .i64 win) (.int .i64 share)) := ⟨_, rfl⟩
                                  have hP := HP.out
                                  rw [← hF] at hP hlenF
                                  have hone : F.toArray.all (·.oneCell') = true := by
                                    rw [hF]
                                    refine all_oneCell_toArray ?_
                                    obtain ⟨_, _, e1, _⟩ := rowIn_owned HM.out.g
                                    obtain ⟨_, _, e2, _⟩ := rowIn_owned HM.out.d
                                    obtain ⟨_, _, e3, _⟩ := rowIn_owned HM.out.r
                                    obtain ⟨_, _, e4, _⟩ := rowIn_owned HM.out.b
                                    rw [HHD.out, e1, e2, e3, e4]
                                    exact box_one phs cf ts fl _ _ _ _ _ _ _ _ _ _ _ _ win share
                                  have hZ : ((zeroPhs 8 ++ tl nilS (fill [] 8) nilS nilS nilS (fill [] 5) (fill [] 8) (.int .i64 0) (.int .i64 0)) : List Value).length = 131 := by rw [tl_len (by rw [zeroPhs_len]) (by simp [fill, ints]) (by simp [fill, ints]) (by simp [fill, ints])]
                                  have HIN := Lib.hid (show (Tryz.prog.info? 34).map (·.size) = some F.length by rw [hlenF]; kernel_rfl)
                                  have HIN2 := Lib.hid (show (Tryz.prog.info? 34).map (·.size) = some F.toArray.size by rw [List.size_toArray, hlenF]; kernel_rfl)
                                  have HRG := Lib.hid hP.range
                                  have HTH := Lib.hid (show World.there _ (w.heap.size + 1) 0 F.toArray.size from HT.out.there 0 F.toArray.size (by rw [List.size_toArray, hlenF, hZ]; omega))
                                  have HT2 := Lib.hid (HT.out.all F (by rw [hlenF, hZ]))
                                  have HD2 := Lib.hid (HT.out.sets_rd HD.out 0 F)
                                  have HM2 := Lib.hid (HM.out.sets (k := (w.heap.size + 1)) (vs := F) (by omega) 0)
                                  have HON := Lib.hid hone
                                  clear hP hone HP HT HD HR HQ HM
                                  go_wp2_with (first
                                    | ((with_reducible refine atLoad _ rfl ?_); refine wpList_load_mid rfl 34 _ rfl _ _ rfl _ _ HRG.out Tryz.underlying34 rfl HIN.out ?_)
                                    | ((with_reducible refine atStore _ rfl ?_); refine wpList_store_mid rfl 34 _ _ rfl (w.heap.size + 1) 0 _ rfl rfl HTH.out HIN2.out HON.out ?_))
                                  refine bodyPost_ret (results_agg rfl _ _ _ _ rfl _ _ HT2.out.range Tryz.underlying34 rfl HIN.out) rfl ⟨_, rfl, ?_, HD2.out, HT2.out.x⟩
                                  refine ⟨gv, dv1, rv1, bv1, ?_, _, HM2.out, rfl, by omega, (show _ ≤ 1000 by dsimp only [mkTab]; omega), (show _ ≤ 1000 by dsimp only [mkTab]; omega), (show _ ≤ 1000 by dsimp only [mkTab]; omega)⟩
                                  unfold tabV
                                  rw [mkTab_cells _ _ _ _ _ _ _ _ _ _ _ _ _ _ hp8 hcf hts hfl, ← HHD.out, ← hF]
end Go.Proofs.YtpopnmelcplbbaaGreat
