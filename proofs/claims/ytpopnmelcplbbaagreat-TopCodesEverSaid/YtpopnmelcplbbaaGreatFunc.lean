/-
  slices.IndexFunc, slices.ContainsFunc, table.every, at each of their element types; table.within, table.times.
-/
import Derived.Test.YtpopnmelcplbbaaGreatGBase
set_option linter.unusedVariables false
set_option linter.unusedSimpArgs false
namespace Go.Proofs.YtpopnmelcplbbaaGreat
open Go.RowKit

def idxOf {α : Type} (p : α → Bool) (xs : List α) : Int := match xs.findIdx? p with | some i => (i : Int) | none => -1

theorem idxOf_at {α : Type} (p : α → Bool) (xs : List α) (k : Nat) (h : k < xs.length) (hk : p xs[k] = true) (hn : ∀ j (hj : j < k), p (xs[j]'(by omega)) = false) : idxOf p xs = k := by
  unfold idxOf
  have : xs.findIdx? p = some k := by
    rw [List.findIdx?_eq_some_iff_getElem]
    exact ⟨h, hk, fun j hj => by simp [hn j hj]⟩
  rw [this]
theorem idxOf_none {α : Type} (p : α → Bool) (xs : List α) (hn : ∀ j (hj : j < xs.length), p xs[j] = false) : idxOf p xs = -1 := by
  unfold idxOf
  have : xs.findIdx? p = none := by
    rw [List.findIdx?_eq_none_iff]
    intro x hx
    obtain ⟨j, hj, rfl⟩ := List.getElem_of_mem hx
    exact hn j hj
  rw [this]
theorem idxOf_any {α : Type} (p : α → Bool) (xs : List α) : decide (0 ≤ idxOf p xs) = xs.any p := by
  unfold idxOf
  cases h : xs.findIdx? p with
  | none =>
    rw [List.findIdx?_eq_none_iff] at h
    have : xs.any p = false := by simpa using h
    simp [this]
  | some i =>
    rw [List.findIdx?_eq_some_iff_getElem] at h
    obtain ⟨hi, hp, _⟩ := h
    have : xs.any p = true := List.any_eq_true.2 ⟨_, List.getElem_mem hi, hp⟩
    simp [this]
theorem any_not_all {α : Type} (p : α → Bool) (xs : List α) : (!xs.any fun x => !p x) = xs.all p := by
  induction xs with
  | nil => rfl
  | cons x xs ih => simp [← ih]

/-- Elements of several cells each. -/
theorem flat_get {α : Type} (enc : α → List Value) (sz : Nat) (xs : List α) (hsz : ∀ x ∈ xs, (enc x).length = sz) (k : Nat) (h : k < xs.length) (j : Nat) (v : Value) (hj : (enc xs[k])[j]? = some v) :
    (xs.flatMap enc)[k * sz + j]? = some v := by
  induction xs generalizing k with
  | nil => simp at h
  | cons x xs ih =>
    have hx : (enc x).length = sz := hsz x (by simp)
    cases k with
    | zero =>
      have hjlt : j < (enc x).length := by
        have := (List.getElem?_eq_some_iff.1 hj).1; simpa using this
      simp only [List.getElem_cons_zero] at hj
      rw [List.flatMap_cons, Nat.zero_mul, Nat.zero_add, List.getElem?_append_left hjlt]; exact hj
    | succ k =>
      simp only [List.length_cons] at h
      simp only [List.getElem_cons_succ] at hj
      have := ih (fun y hy => hsz y (by simp [hy])) k (by omega) hj
      rw [List.flatMap_cons, List.getElem?_append_right (by rw [hx, Nat.succ_mul]; omega), hx]
      rw [show (k + 1) * sz + j - sz = k * sz + j by rw [Nat.succ_mul]; omega]
      exact this


/-! ### at int -/
set_option maxHeartbeats 400000 in
theorem IndexFunc_int (w : World) (sv : Value) (xs : List Int) (hs : RowIn w sv xs.length (ints xs)) (hlen : xs.length ≤ 4611686018427387904) (f : FuncId) (caps : Array Value) (hE : Enters f) (p : Int → Bool)
    (hC : ∀ x ∈ xs, ∀ w1, Ext w w1 → Calls Tryz.prog f (#[.int .i64 x] ++ caps) w1 (Ret w1 (.bool (p x)))) :
    Calls Tryz.prog 148 #[sv, .func (.func f) #[] caps] w (Ret w (.int .i64 (idxOf p xs))) := by
  obtain ⟨a, cp, rfl, hrow⟩ := hs
  unfold Enters at hE
  go_enter Tryz.func148, Tryz.ntmps148
  go_wp2
  go_loopw [8] (fun i wr => ∃ k : Nat, k ≤ xs.length ∧ i = .int .i64 k ∧ Ext w wr ∧ ∀ j (hj : j < xs.length), j < k → p xs[j] = false) (fun i _ => xs.length - (intOf i).toNat)
  case atStart => exact ⟨0, Nat.zero_le _, rfl, Ext.refl _, fun _ _ h => by omega⟩
  case round =>
    obtain ⟨k, hk, rfl, hx, hno⟩ := hrel
    by_cases hlt : k < xs.length
    · rcases hrow with ⟨h0, _⟩ | ⟨b, off, rfl, hb, hc⟩
      · omega
      have hc1 : wr.cell? ⟨b, off + k, none⟩ = some (.int .i64 xs[k]) := (hx.cell (p := ⟨b, off + k, none⟩) hb).trans (hc k _ (ints_get xs k hlt))
      have hcall := hC xs[k] (by simp) wr hx
      clear hc hC
      have H := Lib.hid hcall; clear hcall
      go_wp2_with fail
      refine H.out.mono ?_
      rintro e w2 ⟨rfl, hx2⟩
      clear H hc1
      cases hp : p xs[k] with
      | true =>
        have hfin := idxOf_at p xs k hlt hp (fun j hj => hno j (by omega) hj)
        have HF := Lib.hid hfin; clear hfin hno
        have hx3 := hx.trans hx2
        clear hp
        go_wp2
        go_ret
        exact ⟨by rw [HF.out]; rfl, hx3⟩
      | false =>
        have hno' : ∀ j (hj : j < xs.length), j < k + 1 → p xs[j] = false := fun j hj hj' => by
          by_cases e : j = k
          · subst e; exact hp
          · exact hno j hj (by omega)
        have HN := Lib.hid hno'; clear hno' hno
        have hx3 := hx.trans hx2
        clear hp
        go_wp2
        go_roundw
        case rel => exact ⟨k + 1, by omega, by go_num, hx3, HN.out⟩
        case measure => simp [intOf]; omega
    · have hfin := idxOf_none p xs (fun j hj => hno j hj (by omega))
      have HF := Lib.hid hfin; clear hfin hno
      go_wp2
      go_ret
      exact ⟨by rw [HF.out]; rfl, hx⟩

theorem ContainsFunc_int (w : World) (sv : Value) (xs : List Int) (hs : RowIn w sv xs.length (ints xs)) (hlen : xs.length ≤ 4611686018427387904) (f : FuncId) (caps : Array Value) (hE : Enters f) (p : Int → Bool)
    (hC : ∀ x ∈ xs, ∀ w1, Ext w w1 → Calls Tryz.prog f (#[.int .i64 x] ++ caps) w1 (Ret w1 (.bool (p x)))) :
    Calls Tryz.prog 137 #[sv, .func (.func f) #[] caps] w (Ret w (.bool (xs.any p))) := by
  have hc := IndexFunc_int w sv xs hs hlen f caps hE p hC
  rw [← idxOf_any]
  clear hs hC hE hlen
  have H := Lib.hid hc; clear hc
  go_enter Tryz.func137, Tryz.ntmps137
  go_wp2_with fail
  refine H.out.mono ?_
  rintro e w1 ⟨rfl, hx⟩
  clear H
  go_wp2
  go_ret
  exact ⟨rfl, hx⟩

theorem every1_int (w : World) (x : Int) (B : Nat) (f : FuncId) (caps : Array Value) (hE : Enters f) (b : Bool) (hb : w.cell? ⟨B, 0, none⟩ = some (.func (.func f) #[] caps))
    (hC : ∀ w1, Ext w w1 → Calls Tryz.prog f (#[.int .i64 x] ++ caps) w1 (Ret w1 (.bool b))) :
    Calls Tryz.prog 138 #[.int .i64 x, .pointer (some ⟨B, 0, none⟩)] w (Ret w (.bool !b)) := by
  have hB : B < w.heap.size := World.block_lt_of_cell? w ⟨B, 0, none⟩ hb
  unfold Enters at hE
  have hc := hC w (Ext.refl w)
  clear hC
  have H := Lib.hid hc; clear hc
  go_enter Tryz.func138, Tryz.ntmps138
  go_wp2_with fail
  refine H.out.mono ?_
  rintro e w1 ⟨rfl, hx⟩
  clear H
  go_wp2
  go_ret
  exact ⟨rfl, hx⟩

theorem every_int (w : World) (sv : Value) (xs : List Int) (hs : RowIn w sv xs.length (ints xs)) (hlen : xs.length ≤ 4611686018427387904) (most : Int) (f : FuncId) (caps : Array Value) (hE : Enters f) (p : Int → Bool)
    (hC : ∀ x ∈ xs, ∀ w1, Ext w w1 → Calls Tryz.prog f (#[.int .i64 x] ++ caps) w1 (Ret w1 (.bool (p x)))) :
    Calls Tryz.prog 113 #[sv, .int .i64 most, .func (.func f) #[] caps] w (Ret w (.bool (decide ((xs.length : Int) ≤ most) && xs.all p))) := by
  have he : Enters 138 := fun args w => by kernel_rfl
  have hx1 := (Ext.refl w).alloc (.cells #[.func (.func f) #[] caps] 89)
  have hc := ContainsFunc_int (w.alloc (.cells #[.func (.func f) #[] caps] 89)) sv xs (hs.ext hx1) hlen 138 #[.pointer (some ⟨w.heap.size, 0, none⟩)] he (fun x => !p x)
    (fun x hx w1 h1 => every1_int w1 x w.heap.size f caps hE (p x) ((h1.cell (p := ⟨w.heap.size, 0, none⟩) (by simp)).trans (World.cell?_alloc_at _ _ _ _ rfl)) (fun w2 h2 => hC x hx w2 ((hx1.trans h1).trans h2)))
  have hl : ∃ (a : Option Addr) (cp : Nat), sv = .slice a xs.length cp := by obtain ⟨a, cp, h, _⟩ := hs; exact ⟨a, cp, h⟩
  obtain ⟨a, cp, rfl⟩ := hl
  have hfin := any_not_all p xs
  clear hs hC hE he
  have H := Lib.hid hc; clear hc
  have HF := Lib.hid hfin; clear hfin
  have HX := Lib.hid hx1; clear hx1
  by_cases hm : (xs.length : Int) ≤ most
  · go_enter Tryz.func113, Tryz.ntmps113
    go_wp2_with fail
    refine H.out.mono ?_
    rintro e w1 ⟨rfl, hx⟩
    clear H
    go_wp2
    go_ret
    exact ⟨by rw [decide_eq_true (by omega), Bool.true_and, ← HF.out]; rfl, HX.out.trans hx⟩
  · go_enter Tryz.func113, Tryz.ntmps113
    go_wp2
    go_ret
    exact ⟨by rw [decide_eq_false (by omega)]; rfl, HX.out⟩

/-! ### at Phase -/
set_option maxHeartbeats 400000 in
theorem IndexFunc_Phase {α : Type} (enc : α → List Value) (w : World) (sv : Value) (xs : List α) (hs : RowIn w sv xs.length (xs.flatMap enc)) (hsz : ∀ x ∈ xs, (enc x).length = 13) (hlen : xs.length ≤ 4611686018427387904) (f : FuncId) (caps : Array Value) (hE : Enters f) (p : α → Bool)
    (hC : ∀ x ∈ xs, ∀ w1, Ext w w1 → Calls Tryz.prog f (#[.agg (enc x).toArray] ++ caps) w1 (Ret w1 (.bool (p x)))) :
    Calls Tryz.prog 135 #[sv, .func (.func f) #[] caps] w (Ret w (.int .i64 (idxOf p xs))) := by
  obtain ⟨a, cp, rfl, hrow⟩ := hs
  unfold Enters at hE
  go_enter Tryz.func135, Tryz.ntmps135
  go_wp2
  go_loopw [8] (fun i wr => ∃ k : Nat, k ≤ xs.length ∧ i = .int .i64 k ∧ Ext w wr ∧ ∀ j (hj : j < xs.length), j < k → p xs[j] = false) (fun i _ => xs.length - (intOf i).toNat)
  case atStart => exact ⟨0, Nat.zero_le _, rfl, Ext.refl _, fun _ _ h => by omega⟩
  case round =>
    obtain ⟨k, hk, rfl, hx, hno⟩ := hrel
    by_cases hlt : k < xs.length
    · rcases hrow with ⟨h0, _⟩ | ⟨b, off, rfl, hb, hc⟩
      · omega
      have hc1 : ∀ j v, (enc xs[k])[j]? = some v → wr.cell? ((⟨b, off + k * 13, none⟩ : Addr).add j) = some v := fun j v hj => by
        have h := (hx.cell (p := ⟨b, off + (k * 13 + j), none⟩) hb).trans (hc (k * 13 + j) v (flat_get enc 13 xs hsz k hlt j v hj))
        rw [addr_add, Nat.add_assoc]; exact h
      have HC1 := Lib.hid hc1; clear hc1
      have hl1 : (enc xs[k]).length = 13 := hsz _ (by simp)
      have HL1 := Lib.hid hl1; clear hl1
      have hcall := hC xs[k] (by simp) wr hx
      clear hc hC
      have H := Lib.hid hcall; clear hcall
      go_wp2_with (refine wpList_load_agg 26 _ rfl rfl _ rfl _ HC1.out _ Tryz.underlying26 rfl (by rw [HL1.out]; kernel_rfl) ?_)
      refine H.out.mono ?_
      rintro e w2 ⟨rfl, hx2⟩
      clear H HC1 HL1
      cases hp : p xs[k] with
      | true =>
        have hfin := idxOf_at p xs k hlt hp (fun j hj => hno j (by omega) hj)
        have HF := Lib.hid hfin; clear hfin hno
        have hx3 := hx.trans hx2
        clear hp
        go_wp2
        go_ret
        exact ⟨by rw [HF.out]; rfl, hx3⟩
      | false =>
        have hno' : ∀ j (hj : j < xs.length), j < k + 1 → p xs[j] = false := fun j hj hj' => by
          by_cases e : j = k
          · subst e; exact hp
          · exact hno j hj (by omega)
        have HN := Lib.hid hno'; clear hno' hno
        have hx3 := hx.trans hx2
        clear hp
        go_wp2
        go_roundw
        case rel => exact ⟨k + 1, by omega, by go_num, hx3, HN.out⟩
        case measure => simp [intOf]; omega
    · have hfin := idxOf_none p xs (fun j hj => hno j hj (by omega))
      have HF := Lib.hid hfin; clear hfin hno
      go_wp2
      go_ret
      exact ⟨by rw [HF.out]; rfl, hx⟩

theorem ContainsFunc_Phase {α : Type} (enc : α → List Value) (w : World) (sv : Value) (xs : List α) (hs : RowIn w sv xs.length (xs.flatMap enc)) (hsz : ∀ x ∈ xs, (enc x).length = 13) (hlen : xs.length ≤ 4611686018427387904) (f : FuncId) (caps : Array Value) (hE : Enters f) (p : α → Bool)
    (hC : ∀ x ∈ xs, ∀ w1, Ext w w1 → Calls Tryz.prog f (#[.agg (enc x).toArray] ++ caps) w1 (Ret w1 (.bool (p x)))) :
    Calls Tryz.prog 108 #[sv, .func (.func f) #[] caps] w (Ret w (.bool (xs.any p))) := by
  have hc := IndexFunc_Phase enc w sv xs hs hsz hlen f caps hE p hC
  rw [← idxOf_any]
  clear hs hC hE hlen
  have H := Lib.hid hc; clear hc
  go_enter Tryz.func108, Tryz.ntmps108
  go_wp2_with fail
  refine H.out.mono ?_
  rintro e w1 ⟨rfl, hx⟩
  clear H
  go_wp2
  go_ret
  exact ⟨rfl, hx⟩

theorem every1_Phase {α : Type} (enc : α → List Value) (w : World) (x : α) (hsz : (enc x).length = 13) (B : Nat) (f : FuncId) (caps : Array Value) (hE : Enters f) (b : Bool) (hb : w.cell? ⟨B, 0, none⟩ = some (.func (.func f) #[] caps))
    (hC : ∀ w1, Ext w w1 → Calls Tryz.prog f (#[.agg (enc x).toArray] ++ caps) w1 (Ret w1 (.bool b))) :
    Calls Tryz.prog 109 #[.agg (enc x).toArray, .pointer (some ⟨B, 0, none⟩)] w (Ret w (.bool !b)) := by
  have hB : B < w.heap.size := World.block_lt_of_cell? w ⟨B, 0, none⟩ hb
  unfold Enters at hE
  have hc := hC (w.alloc (.cells (enc x).toArray 26)) ((Ext.refl w).alloc _)
  clear hC
  have H := Lib.hid hc; clear hc
  have hc1 : ∀ j v, (enc x)[j]? = some v → (w.alloc (.cells (enc x).toArray 26)).cell? ((⟨w.heap.size, 0, none⟩ : Addr).add j) = some v := fun j v hj => by
    rw [addr_add, Nat.zero_add, World.cell?_alloc_at _ _ _ _ rfl]; simpa using hj
  have HC1 := Lib.hid hc1; clear hc1
  have HL1 := Lib.hid hsz; clear hsz
  go_enter Tryz.func109, Tryz.ntmps109
  go_wp2_with (refine wpList_load_agg 26 _ rfl rfl _ rfl _ HC1.out _ Tryz.underlying26 rfl (by rw [HL1.out]; kernel_rfl) ?_)
  refine H.out.mono ?_
  rintro e w1 ⟨rfl, hx⟩
  clear H HC1 HL1
  have hx1 := ((Ext.refl w).alloc (.cells (enc x).toArray 26)).trans hx
  go_wp2
  go_ret
  exact ⟨rfl, hx1⟩

theorem every_Phase {α : Type} (enc : α → List Value) (w : World) (sv : Value) (xs : List α) (hs : RowIn w sv xs.length (xs.flatMap enc)) (hsz : ∀ x ∈ xs, (enc x).length = 13) (hlen : xs.length ≤ 4611686018427387904) (most : Int) (f : FuncId) (caps : Array Value) (hE : Enters f) (p : α → Bool)
    (hC : ∀ x ∈ xs, ∀ w1, Ext w w1 → Calls Tryz.prog f (#[.agg (enc x).toArray] ++ caps) w1 (Ret w1 (.bool (p x)))) :
    Calls Tryz.prog 71 #[sv, .int .i64 most, .func (.func f) #[] caps] w (Ret w (.bool (decide ((xs.length : Int) ≤ most) && xs.all p))) := by
  have he : Enters 109 := fun args w => by kernel_rfl
  have hx1 := (Ext.refl w).alloc (.cells #[.func (.func f) #[] caps] 94)
  have hc := ContainsFunc_Phase enc (w.alloc (.cells #[.func (.func f) #[] caps] 94)) sv xs (hs.ext hx1) hsz hlen 109 #[.pointer (some ⟨w.heap.size, 0, none⟩)] he (fun x => !p x)
    (fun x hx w1 h1 => every1_Phase enc w1 x (hsz x hx) w.heap.size f caps hE (p x) ((h1.cell (p := ⟨w.heap.size, 0, none⟩) (by simp)).trans (World.cell?_alloc_at _ _ _ _ rfl)) (fun w2 h2 => hC x hx w2 ((hx1.trans h1).trans h2)))
  have hl : ∃ (a : Option Addr) (cp : Nat), sv = .slice a xs.length cp := by obtain ⟨a, cp, h, _⟩ := hs; exact ⟨a, cp, h⟩
  obtain ⟨a, cp, rfl⟩ := hl
  have hfin := any_not_all p xs
  clear hs hC hE hsz he
  have H := Lib.hid hc; clear hc
  have HF := Lib.hid hfin; clear hfin
  have HX := Lib.hid hx1; clear hx1
  by_cases hm : (xs.length : Int) ≤ most
  · go_enter Tryz.func71, Tryz.ntmps71
    go_wp2_with fail
    refine H.out.mono ?_
    rintro e w1 ⟨rfl, hx⟩
    clear H
    go_wp2
    go_ret
    exact ⟨by rw [decide_eq_true (by omega), Bool.true_and, ← HF.out]; rfl, HX.out.trans hx⟩
  · go_enter Tryz.func71, Tryz.ntmps71
    go_wp2
    go_ret
    exact ⟨by rw [decide_eq_false (by omega)]; rfl, HX.out⟩

/-! ### at Group -/
set_option maxHeartbeats 400000 in
theorem IndexFunc_Group {α : Type} (enc : α → List Value) (w : World) (sv : Value) (xs : List α) (hs : RowIn w sv xs.length (xs.flatMap enc)) (hsz : ∀ x ∈ xs, (enc x).length = 2) (hlen : xs.length ≤ 4611686018427387904) (f : FuncId) (caps : Array Value) (hE : Enters f) (p : α → Bool)
    (hC : ∀ x ∈ xs, ∀ w1, Ext w w1 → Calls Tryz.prog f (#[.agg (enc x).toArray] ++ caps) w1 (Ret w1 (.bool (p x)))) :
    Calls Tryz.prog 136 #[sv, .func (.func f) #[] caps] w (Ret w (.int .i64 (idxOf p xs))) := by
  obtain ⟨a, cp, rfl, hrow⟩ := hs
  unfold Enters at hE
  go_enter Tryz.func136, Tryz.ntmps136
  go_wp2
  go_loopw [8] (fun i wr => ∃ k : Nat, k ≤ xs.length ∧ i = .int .i64 k ∧ Ext w wr ∧ ∀ j (hj : j < xs.length), j < k → p xs[j] = false) (fun i _ => xs.length - (intOf i).toNat)
  case atStart => exact ⟨0, Nat.zero_le _, rfl, Ext.refl _, fun _ _ h => by omega⟩
  case round =>
    obtain ⟨k, hk, rfl, hx, hno⟩ := hrel
    by_cases hlt : k < xs.length
    · rcases hrow with ⟨h0, _⟩ | ⟨b, off, rfl, hb, hc⟩
      · omega
      have hc1 : ∀ j v, (enc xs[k])[j]? = some v → wr.cell? ((⟨b, off + k * 2, none⟩ : Addr).add j) = some v := fun j v hj => by
        have h := (hx.cell (p := ⟨b, off + (k * 2 + j), none⟩) hb).trans (hc (k * 2 + j) v (flat_get enc 2 xs hsz k hlt j v hj))
        rw [addr_add, Nat.add_assoc]; exact h
      have HC1 := Lib.hid hc1; clear hc1
      have hl1 : (enc xs[k]).length = 2 := hsz _ (by simp)
      have HL1 := Lib.hid hl1; clear hl1
      have hcall := hC xs[k] (by simp) wr hx
      clear hc hC
      have H := Lib.hid hcall; clear hcall
      go_wp2_with (refine wpList_load_agg 65 _ rfl rfl _ rfl _ HC1.out _ Tryz.underlying65 rfl (by rw [HL1.out]; kernel_rfl) ?_)
      refine H.out.mono ?_
      rintro e w2 ⟨rfl, hx2⟩
      clear H HC1 HL1
      cases hp : p xs[k] with
      | true =>
        have hfin := idxOf_at p xs k hlt hp (fun j hj => hno j (by omega) hj)
        have HF := Lib.hid hfin; clear hfin hno
        have hx3 := hx.trans hx2
        clear hp
        go_wp2
        go_ret
        exact ⟨by rw [HF.out]; rfl, hx3⟩
      | false =>
        have hno' : ∀ j (hj : j < xs.length), j < k + 1 → p xs[j] = false := fun j hj hj' => by
          by_cases e : j = k
          · subst e; exact hp
          · exact hno j hj (by omega)
        have HN := Lib.hid hno'; clear hno' hno
        have hx3 := hx.trans hx2
        clear hp
        go_wp2
        go_roundw
        case rel => exact ⟨k + 1, by omega, by go_num, hx3, HN.out⟩
        case measure => simp [intOf]; omega
    · have hfin := idxOf_none p xs (fun j hj => hno j hj (by omega))
      have HF := Lib.hid hfin; clear hfin hno
      go_wp2
      go_ret
      exact ⟨by rw [HF.out]; rfl, hx⟩

theorem ContainsFunc_Group {α : Type} (enc : α → List Value) (w : World) (sv : Value) (xs : List α) (hs : RowIn w sv xs.length (xs.flatMap enc)) (hsz : ∀ x ∈ xs, (enc x).length = 2) (hlen : xs.length ≤ 4611686018427387904) (f : FuncId) (caps : Array Value) (hE : Enters f) (p : α → Bool)
    (hC : ∀ x ∈ xs, ∀ w1, Ext w w1 → Calls Tryz.prog f (#[.agg (enc x).toArray] ++ caps) w1 (Ret w1 (.bool (p x)))) :
    Calls Tryz.prog 110 #[sv, .func (.func f) #[] caps] w (Ret w (.bool (xs.any p))) := by
  have hc := IndexFunc_Group enc w sv xs hs hsz hlen f caps hE p hC
  rw [← idxOf_any]
  clear hs hC hE hlen
  have H := Lib.hid hc; clear hc
  go_enter Tryz.func110, Tryz.ntmps110
  go_wp2_with fail
  refine H.out.mono ?_
  rintro e w1 ⟨rfl, hx⟩
  clear H
  go_wp2
  go_ret
  exact ⟨rfl, hx⟩

theorem every1_Group {α : Type} (enc : α → List Value) (w : World) (x : α) (hsz : (enc x).length = 2) (B : Nat) (f : FuncId) (caps : Array Value) (hE : Enters f) (b : Bool) (hb : w.cell? ⟨B, 0, none⟩ = some (.func (.func f) #[] caps))
    (hC : ∀ w1, Ext w w1 → Calls Tryz.prog f (#[.agg (enc x).toArray] ++ caps) w1 (Ret w1 (.bool b))) :
    Calls Tryz.prog 111 #[.agg (enc x).toArray, .pointer (some ⟨B, 0, none⟩)] w (Ret w (.bool !b)) := by
  have hB : B < w.heap.size := World.block_lt_of_cell? w ⟨B, 0, none⟩ hb
  unfold Enters at hE
  have hc := hC (w.alloc (.cells (enc x).toArray 65)) ((Ext.refl w).alloc _)
  clear hC
  have H := Lib.hid hc; clear hc
  have hc1 : ∀ j v, (enc x)[j]? = some v → (w.alloc (.cells (enc x).toArray 65)).cell? ((⟨w.heap.size, 0, none⟩ : Addr).add j) = some v := fun j v hj => by
    rw [addr_add, Nat.zero_add, World.cell?_alloc_at _ _ _ _ rfl]; simpa using hj
  have HC1 := Lib.hid hc1; clear hc1
  have HL1 := Lib.hid hsz; clear hsz
  go_enter Tryz.func111, Tryz.ntmps111
  go_wp2_with (refine wpList_load_agg 65 _ rfl rfl _ rfl _ HC1.out _ Tryz.underlying65 rfl (by rw [HL1.out]; kernel_rfl) ?_)
  refine H.out.mono ?_
  rintro e w1 ⟨rfl, hx⟩
  clear H HC1 HL1
  have hx1 := ((Ext.refl w).alloc (.cells (enc x).toArray 65)).trans hx
  go_wp2
  go_ret
  exact ⟨rfl, hx1⟩

theorem every_Group {α : Type} (enc : α → List Value) (w : World) (sv : Value) (xs : List α) (hs : RowIn w sv xs.length (xs.flatMap enc)) (hsz : ∀ x ∈ xs, (enc x).length = 2) (hlen : xs.length ≤ 4611686018427387904) (most : Int) (f : FuncId) (caps : Array Value) (hE : Enters f) (p : α → Bool)
    (hC : ∀ x ∈ xs, ∀ w1, Ext w w1 → Calls Tryz.prog f (#[.agg (enc x).toArray] ++ caps) w1 (Ret w1 (.bool (p x)))) :
    Calls Tryz.prog 73 #[sv, .int .i64 most, .func (.func f) #[] caps] w (Ret w (.bool (decide ((xs.length : Int) ≤ most) && xs.all p))) := by
  have he : Enters 111 := fun args w => by kernel_rfl
  have hx1 := (Ext.refl w).alloc (.cells #[.func (.func f) #[] caps] 112)
  have hc := ContainsFunc_Group enc (w.alloc (.cells #[.func (.func f) #[] caps] 112)) sv xs (hs.ext hx1) hsz hlen 111 #[.pointer (some ⟨w.heap.size, 0, none⟩)] he (fun x => !p x)
    (fun x hx w1 h1 => every1_Group enc w1 x (hsz x hx) w.heap.size f caps hE (p x) ((h1.cell (p := ⟨w.heap.size, 0, none⟩) (by simp)).trans (World.cell?_alloc_at _ _ _ _ rfl)) (fun w2 h2 => hC x hx w2 ((hx1.trans h1).trans h2)))
  have hl : ∃ (a : Option Addr) (cp : Nat), sv = .slice a xs.length cp := by obtain ⟨a, cp, h, _⟩ := hs; exact ⟨a, cp, h⟩
  obtain ⟨a, cp, rfl⟩ := hl
  have hfin := any_not_all p xs
  clear hs hC hE hsz he
  have H := Lib.hid hc; clear hc
  have HF := Lib.hid hfin; clear hfin
  have HX := Lib.hid hx1; clear hx1
  by_cases hm : (xs.length : Int) ≤ most
  · go_enter Tryz.func73, Tryz.ntmps73
    go_wp2_with fail
    refine H.out.mono ?_
    rintro e w1 ⟨rfl, hx⟩
    clear H
    go_wp2
    go_ret
    exact ⟨by rw [decide_eq_true (by omega), Bool.true_and, ← HF.out]; rfl, HX.out.trans hx⟩
  · go_enter Tryz.func73, Tryz.ntmps73
    go_wp2
    go_ret
    exact ⟨by rw [decide_eq_false (by omega)]; rfl, HX.out⟩

/-! ### at Det -/
set_option maxHeartbeats 400000 in
theorem IndexFunc_Det {α : Type} (enc : α → List Value) (w : World) (sv : Value) (xs : List α) (hs : RowIn w sv xs.length (xs.flatMap enc)) (hsz : ∀ x ∈ xs, (enc x).length = 7) (hlen : xs.length ≤ 4611686018427387904) (f : FuncId) (caps : Array Value) (hE : Enters f) (p : α → Bool)
    (hC : ∀ x ∈ xs, ∀ w1, Ext w w1 → Calls Tryz.prog f (#[.agg (enc x).toArray] ++ caps) w1 (Ret w1 (.bool (p x)))) :
    Calls Tryz.prog 139 #[sv, .func (.func f) #[] caps] w (Ret w (.int .i64 (idxOf p xs))) := by
  obtain ⟨a, cp, rfl, hrow⟩ := hs
  unfold Enters at hE
  go_enter Tryz.func139, Tryz.ntmps139
  go_wp2
  go_loopw [8] (fun i wr => ∃ k : Nat, k ≤ xs.length ∧ i = .int .i64 k ∧ Ext w wr ∧ ∀ j (hj : j < xs.length), j < k → p xs[j] = false) (fun i _ => xs.length - (intOf i).toNat)
  case atStart => exact ⟨0, Nat.zero_le _, rfl, Ext.refl _, fun _ _ h => by omega⟩
  case round =>
    obtain ⟨k, hk, rfl, hx, hno⟩ := hrel
    by_cases hlt : k < xs.length
    · rcases hrow with ⟨h0, _⟩ | ⟨b, off, rfl, hb, hc⟩
      · omega
      have hc1 : ∀ j v, (enc xs[k])[j]? = some v → wr.cell? ((⟨b, off + k * 7, none⟩ : Addr).add j) = some v := fun j v hj => by
        have h := (hx.cell (p := ⟨b, off + (k * 7 + j), none⟩) hb).trans (hc (k * 7 + j) v (flat_get enc 7 xs hsz k hlt j v hj))
        rw [addr_add, Nat.add_assoc]; exact h
      have HC1 := Lib.hid hc1; clear hc1
      have hl1 : (enc xs[k]).length = 7 := hsz _ (by simp)
      have HL1 := Lib.hid hl1; clear hl1
      have hcall := hC xs[k] (by simp) wr hx
      clear hc hC
      have H := Lib.hid hcall; clear hcall
      go_wp2_with (refine wpList_load_agg 68 _ rfl rfl _ rfl _ HC1.out _ Tryz.underlying68 rfl (by rw [HL1.out]; kernel_rfl) ?_)
      refine H.out.mono ?_
      rintro e w2 ⟨rfl, hx2⟩
      clear H HC1 HL1
      cases hp : p xs[k] with
      | true =>
        have hfin := idxOf_at p xs k hlt hp (fun j hj => hno j (by omega) hj)
        have HF := Lib.hid hfin; clear hfin hno
        have hx3 := hx.trans hx2
        clear hp
        go_wp2
        go_ret
        exact ⟨by rw [HF.out]; rfl, hx3⟩
      | false =>
        have hno' : ∀ j (hj : j < xs.length), j < k + 1 → p xs[j] = false := fun j hj hj' => by
          by_cases e : j = k
          · subst e; exact hp
          · exact hno j hj (by omega)
        have HN := Lib.hid hno'; clear hno' hno
        have hx3 := hx.trans hx2
        clear hp
        go_wp2
        go_roundw
        case rel => exact ⟨k + 1, by omega, by go_num, hx3, HN.out⟩
        case measure => simp [intOf]; omega
    · have hfin := idxOf_none p xs (fun j hj => hno j hj (by omega))
      have HF := Lib.hid hfin; clear hfin hno
      go_wp2
      go_ret
      exact ⟨by rw [HF.out]; rfl, hx⟩

theorem ContainsFunc_Det {α : Type} (enc : α → List Value) (w : World) (sv : Value) (xs : List α) (hs : RowIn w sv xs.length (xs.flatMap enc)) (hsz : ∀ x ∈ xs, (enc x).length = 7) (hlen : xs.length ≤ 4611686018427387904) (f : FuncId) (caps : Array Value) (hE : Enters f) (p : α → Bool)
    (hC : ∀ x ∈ xs, ∀ w1, Ext w w1 → Calls Tryz.prog f (#[.agg (enc x).toArray] ++ caps) w1 (Ret w1 (.bool (p x)))) :
    Calls Tryz.prog 116 #[sv, .func (.func f) #[] caps] w (Ret w (.bool (xs.any p))) := by
  have hc := IndexFunc_Det enc w sv xs hs hsz hlen f caps hE p hC
  rw [← idxOf_any]
  clear hs hC hE hlen
  have H := Lib.hid hc; clear hc
  go_enter Tryz.func116, Tryz.ntmps116
  go_wp2_with fail
  refine H.out.mono ?_
  rintro e w1 ⟨rfl, hx⟩
  clear H
  go_wp2
  go_ret
  exact ⟨rfl, hx⟩

theorem every1_Det {α : Type} (enc : α → List Value) (w : World) (x : α) (hsz : (enc x).length = 7) (B : Nat) (f : FuncId) (caps : Array Value) (hE : Enters f) (b : Bool) (hb : w.cell? ⟨B, 0, none⟩ = some (.func (.func f) #[] caps))
    (hC : ∀ w1, Ext w w1 → Calls Tryz.prog f (#[.agg (enc x).toArray] ++ caps) w1 (Ret w1 (.bool b))) :
    Calls Tryz.prog 117 #[.agg (enc x).toArray, .pointer (some ⟨B, 0, none⟩)] w (Ret w (.bool !b)) := by
  have hB : B < w.heap.size := World.block_lt_of_cell? w ⟨B, 0, none⟩ hb
  unfold Enters at hE
  have hc := hC (w.alloc (.cells (enc x).toArray 68)) ((Ext.refl w).alloc _)
  clear hC
  have H := Lib.hid hc; clear hc
  have hc1 : ∀ j v, (enc x)[j]? = some v → (w.alloc (.cells (enc x).toArray 68)).cell? ((⟨w.heap.size, 0, none⟩ : Addr).add j) = some v := fun j v hj => by
    rw [addr_add, Nat.zero_add, World.cell?_alloc_at _ _ _ _ rfl]; simpa using hj
  have HC1 := Lib.hid hc1; clear hc1
  have HL1 := Lib.hid hsz; clear hsz
  go_enter Tryz.func117, Tryz.ntmps117
  go_wp2_with (refine wpList_load_agg 68 _ rfl rfl _ rfl _ HC1.out _ Tryz.underlying68 rfl (by rw [HL1.out]; kernel_rfl) ?_)
  refine H.out.mono ?_
  rintro e w1 ⟨rfl, hx⟩
  clear H HC1 HL1
  have hx1 := ((Ext.refl w).alloc (.cells (enc x).toArray 68)).trans hx
  go_wp2
  go_ret
  exact ⟨rfl, hx1⟩

theorem every_Det {α : Type} (enc : α → List Value) (w : World) (sv : Value) (xs : List α) (hs : RowIn w sv xs.length (xs.flatMap enc)) (hsz : ∀ x ∈ xs, (enc x).length = 7) (hlen : xs.length ≤ 4611686018427387904) (most : Int) (f : FuncId) (caps : Array Value) (hE : Enters f) (p : α → Bool)
    (hC : ∀ x ∈ xs, ∀ w1, Ext w w1 → Calls Tryz.prog f (#[.agg (enc x).toArray] ++ caps) w1 (Ret w1 (.bool (p x)))) :
    Calls Tryz.prog 76 #[sv, .int .i64 most, .func (.func f) #[] caps] w (Ret w (.bool (decide ((xs.length : Int) ≤ most) && xs.all p))) := by
  have he : Enters 117 := fun args w => by kernel_rfl
  have hx1 := (Ext.refl w).alloc (.cells #[.func (.func f) #[] caps] 115)
  have hc := ContainsFunc_Det enc (w.alloc (.cells #[.func (.func f) #[] caps] 115)) sv xs (hs.ext hx1) hsz hlen 117 #[.pointer (some ⟨w.heap.size, 0, none⟩)] he (fun x => !p x)
    (fun x hx w1 h1 => every1_Det enc w1 x (hsz x hx) w.heap.size f caps hE (p x) ((h1.cell (p := ⟨w.heap.size, 0, none⟩) (by simp)).trans (World.cell?_alloc_at _ _ _ _ rfl)) (fun w2 h2 => hC x hx w2 ((hx1.trans h1).trans h2)))
  have hl : ∃ (a : Option Addr) (cp : Nat), sv = .slice a xs.length cp := by obtain ⟨a, cp, h, _⟩ := hs; exact ⟨a, cp, h⟩
  obtain ⟨a, cp, rfl⟩ := hl
  have hfin := any_not_all p xs
  clear hs hC hE hsz he
  have H := Lib.hid hc; clear hc
  have HF := Lib.hid hfin; clear hfin
  have HX := Lib.hid hx1; clear hx1
  by_cases hm : (xs.length : Int) ≤ most
  · go_enter Tryz.func76, Tryz.ntmps76
    go_wp2_with fail
    refine H.out.mono ?_
    rintro e w1 ⟨rfl, hx⟩
    clear H
    go_wp2
    go_ret
    exact ⟨by rw [decide_eq_true (by omega), Bool.true_and, ← HF.out]; rfl, HX.out.trans hx⟩
  · go_enter Tryz.func76, Tryz.ntmps76
    go_wp2
    go_ret
    exact ⟨by rw [decide_eq_false (by omega)]; rfl, HX.out⟩

/-! ### at Rail -/
set_option maxHeartbeats 400000 in
theorem IndexFunc_Rail {α : Type} (enc : α → List Value) (w : World) (sv : Value) (xs : List α) (hs : RowIn w sv xs.length (xs.flatMap enc)) (hsz : ∀ x ∈ xs, (enc x).length = 11) (hlen : xs.length ≤ 4611686018427387904) (f : FuncId) (caps : Array Value) (hE : Enters f) (p : α → Bool)
    (hC : ∀ x ∈ xs, ∀ w1, Ext w w1 → Calls Tryz.prog f (#[.agg (enc x).toArray] ++ caps) w1 (Ret w1 (.bool (p x)))) :
    Calls Tryz.prog 142 #[sv, .func (.func f) #[] caps] w (Ret w (.int .i64 (idxOf p xs))) := by
  obtain ⟨a, cp, rfl, hrow⟩ := hs
  unfold Enters at hE
  go_enter Tryz.func142, Tryz.ntmps142
  go_wp2
  go_loopw [8] (fun i wr => ∃ k : Nat, k ≤ xs.length ∧ i = .int .i64 k ∧ Ext w wr ∧ ∀ j (hj : j < xs.length), j < k → p xs[j] = false) (fun i _ => xs.length - (intOf i).toNat)
  case atStart => exact ⟨0, Nat.zero_le _, rfl, Ext.refl _, fun _ _ h => by omega⟩
  case round =>
    obtain ⟨k, hk, rfl, hx, hno⟩ := hrel
    by_cases hlt : k < xs.length
    · rcases hrow with ⟨h0, _⟩ | ⟨b, off, rfl, hb, hc⟩
      · omega
      have hc1 : ∀ j v, (enc xs[k])[j]? = some v → wr.cell? ((⟨b, off + k * 11, none⟩ : Addr).add j) = some v := fun j v hj => by
        have h := (hx.cell (p := ⟨b, off + (k * 11 + j), none⟩) hb).trans (hc (k * 11 + j) v (flat_get enc 11 xs hsz k hlt j v hj))
        rw [addr_add, Nat.add_assoc]; exact h
      have HC1 := Lib.hid hc1; clear hc1
      have hl1 : (enc xs[k]).length = 11 := hsz _ (by simp)
      have HL1 := Lib.hid hl1; clear hl1
      have hcall := hC xs[k] (by simp) wr hx
      clear hc hC
      have H := Lib.hid hcall; clear hcall
      go_wp2_with (refine wpList_load_agg 72 _ rfl rfl _ rfl _ HC1.out _ Tryz.underlying72 rfl (by rw [HL1.out]; kernel_rfl) ?_)
      refine H.out.mono ?_
      rintro e w2 ⟨rfl, hx2⟩
      clear H HC1 HL1
      cases hp : p xs[k] with
      | true =>
        have hfin := idxOf_at p xs k hlt hp (fun j hj => hno j (by omega) hj)
        have HF := Lib.hid hfin; clear hfin hno
        have hx3 := hx.trans hx2
        clear hp
        go_wp2
        go_ret
        exact ⟨by rw [HF.out]; rfl, hx3⟩
      | false =>
        have hno' : ∀ j (hj : j < xs.length), j < k + 1 → p xs[j] = false := fun j hj hj' => by
          by_cases e : j = k
          · subst e; exact hp
          · exact hno j hj (by omega)
        have HN := Lib.hid hno'; clear hno' hno
        have hx3 := hx.trans hx2
        clear hp
        go_wp2
        go_roundw
        case rel => exact ⟨k + 1, by omega, by go_num, hx3, HN.out⟩
        case measure => simp [intOf]; omega
    · have hfin := idxOf_none p xs (fun j hj => hno j hj (by omega))
      have HF := Lib.hid hfin; clear hfin hno
      go_wp2
      go_ret
      exact ⟨by rw [HF.out]; rfl, hx⟩

theorem ContainsFunc_Rail {α : Type} (enc : α → List Value) (w : World) (sv : Value) (xs : List α) (hs : RowIn w sv xs.length (xs.flatMap enc)) (hsz : ∀ x ∈ xs, (enc x).length = 11) (hlen : xs.length ≤ 4611686018427387904) (f : FuncId) (caps : Array Value) (hE : Enters f) (p : α → Bool)
    (hC : ∀ x ∈ xs, ∀ w1, Ext w w1 → Calls Tryz.prog f (#[.agg (enc x).toArray] ++ caps) w1 (Ret w1 (.bool (p x)))) :
    Calls Tryz.prog 120 #[sv, .func (.func f) #[] caps] w (Ret w (.bool (xs.any p))) := by
  have hc := IndexFunc_Rail enc w sv xs hs hsz hlen f caps hE p hC
  rw [← idxOf_any]
  clear hs hC hE hlen
  have H := Lib.hid hc; clear hc
  go_enter Tryz.func120, Tryz.ntmps120
  go_wp2_with fail
  refine H.out.mono ?_
  rintro e w1 ⟨rfl, hx⟩
  clear H
  go_wp2
  go_ret
  exact ⟨rfl, hx⟩

theorem every1_Rail {α : Type} (enc : α → List Value) (w : World) (x : α) (hsz : (enc x).length = 11) (B : Nat) (f : FuncId) (caps : Array Value) (hE : Enters f) (b : Bool) (hb : w.cell? ⟨B, 0, none⟩ = some (.func (.func f) #[] caps))
    (hC : ∀ w1, Ext w w1 → Calls Tryz.prog f (#[.agg (enc x).toArray] ++ caps) w1 (Ret w1 (.bool b))) :
    Calls Tryz.prog 121 #[.agg (enc x).toArray, .pointer (some ⟨B, 0, none⟩)] w (Ret w (.bool !b)) := by
  have hB : B < w.heap.size := World.block_lt_of_cell? w ⟨B, 0, none⟩ hb
  unfold Enters at hE
  have hc := hC (w.alloc (.cells (enc x).toArray 72)) ((Ext.refl w).alloc _)
  clear hC
  have H := Lib.hid hc; clear hc
  have hc1 : ∀ j v, (enc x)[j]? = some v → (w.alloc (.cells (enc x).toArray 72)).cell? ((⟨w.heap.size, 0, none⟩ : Addr).add j) = some v := fun j v hj => by
    rw [addr_add, Nat.zero_add, World.cell?_alloc_at _ _ _ _ rfl]; simpa using hj
  have HC1 := Lib.hid hc1; clear hc1
  have HL1 := Lib.hid hsz; clear hsz
  go_enter Tryz.func121, Tryz.ntmps121
  go_wp2_with (refine wpList_load_agg 72 _ rfl rfl _ rfl _ HC1.out _ Tryz.underlying72 rfl (by rw [HL1.out]; kernel_rfl) ?_)
  refine H.out.mono ?_
  rintro e w1 ⟨rfl, hx⟩
  clear H HC1 HL1
  have hx1 := ((Ext.refl w).alloc (.cells (enc x).toArray 72)).trans hx
  go_wp2
  go_ret
  exact ⟨rfl, hx1⟩

theorem every_Rail {α : Type} (enc : α → List Value) (w : World) (sv : Value) (xs : List α) (hs : RowIn w sv xs.length (xs.flatMap enc)) (hsz : ∀ x ∈ xs, (enc x).length = 11) (hlen : xs.length ≤ 4611686018427387904) (most : Int) (f : FuncId) (caps : Array Value) (hE : Enters f) (p : α → Bool)
    (hC : ∀ x ∈ xs, ∀ w1, Ext w w1 → Calls Tryz.prog f (#[.agg (enc x).toArray] ++ caps) w1 (Ret w1 (.bool (p x)))) :
    Calls Tryz.prog 78 #[sv, .int .i64 most, .func (.func f) #[] caps] w (Ret w (.bool (decide ((xs.length : Int) ≤ most) && xs.all p))) := by
  have he : Enters 121 := fun args w => by kernel_rfl
  have hx1 := (Ext.refl w).alloc (.cells #[.func (.func f) #[] caps] 117)
  have hc := ContainsFunc_Rail enc (w.alloc (.cells #[.func (.func f) #[] caps] 117)) sv xs (hs.ext hx1) hsz hlen 121 #[.pointer (some ⟨w.heap.size, 0, none⟩)] he (fun x => !p x)
    (fun x hx w1 h1 => every1_Rail enc w1 x (hsz x hx) w.heap.size f caps hE (p x) ((h1.cell (p := ⟨w.heap.size, 0, none⟩) (by simp)).trans (World.cell?_alloc_at _ _ _ _ rfl)) (fun w2 h2 => hC x hx w2 ((hx1.trans h1).trans h2)))
  have hl : ∃ (a : Option Addr) (cp : Nat), sv = .slice a xs.length cp := by obtain ⟨a, cp, h, _⟩ := hs; exact ⟨a, cp, h⟩
  obtain ⟨a, cp, rfl⟩ := hl
  have hfin := any_not_all p xs
  clear hs hC hE hsz he
  have H := Lib.hid hc; clear hc
  have HF := Lib.hid hfin; clear hfin
  have HX := Lib.hid hx1; clear hx1
  by_cases hm : (xs.length : Int) ≤ most
  · go_enter Tryz.func78, Tryz.ntmps78
    go_wp2_with fail
    refine H.out.mono ?_
    rintro e w1 ⟨rfl, hx⟩
    clear H
    go_wp2
    go_ret
    exact ⟨by rw [decide_eq_true (by omega), Bool.true_and, ← HF.out]; rfl, HX.out.trans hx⟩
  · go_enter Tryz.func78, Tryz.ntmps78
    go_wp2
    go_ret
    exact ⟨by rw [decide_eq_false (by omega)]; rfl, HX.out⟩

/-! ### at Bus -/
set_option maxHeartbeats 400000 in
theorem IndexFunc_Bus {α : Type} (enc : α → List Value) (w : World) (sv : Value) (xs : List α) (hs : RowIn w sv xs.length (xs.flatMap enc)) (hsz : ∀ x ∈ xs, (enc x).length = 2) (hlen : xs.length ≤ 4611686018427387904) (f : FuncId) (caps : Array Value) (hE : Enters f) (p : α → Bool)
    (hC : ∀ x ∈ xs, ∀ w1, Ext w w1 → Calls Tryz.prog f (#[.agg (enc x).toArray] ++ caps) w1 (Ret w1 (.bool (p x)))) :
    Calls Tryz.prog 143 #[sv, .func (.func f) #[] caps] w (Ret w (.int .i64 (idxOf p xs))) := by
  obtain ⟨a, cp, rfl, hrow⟩ := hs
  unfold Enters at hE
  go_enter Tryz.func143, Tryz.ntmps143
  go_wp2
  go_loopw [8] (fun i wr => ∃ k : Nat, k ≤ xs.length ∧ i = .int .i64 k ∧ Ext w wr ∧ ∀ j (hj : j < xs.length), j < k → p xs[j] = false) (fun i _ => xs.length - (intOf i).toNat)
  case atStart => exact ⟨0, Nat.zero_le _, rfl, Ext.refl _, fun _ _ h => by omega⟩
  case round =>
    obtain ⟨k, hk, rfl, hx, hno⟩ := hrel
    by_cases hlt : k < xs.length
    · rcases hrow with ⟨h0, _⟩ | ⟨b, off, rfl, hb, hc⟩
      · omega
      have hc1 : ∀ j v, (enc xs[k])[j]? = some v → wr.cell? ((⟨b, off + k * 2, none⟩ : Addr).add j) = some v := fun j v hj => by
        have h := (hx.cell (p := ⟨b, off + (k * 2 + j), none⟩) hb).trans (hc (k * 2 + j) v (flat_get enc 2 xs hsz k hlt j v hj))
        rw [addr_add, Nat.add_assoc]; exact h
      have HC1 := Lib.hid hc1; clear hc1
      have hl1 : (enc xs[k]).length = 2 := hsz _ (by simp)
      have HL1 := Lib.hid hl1; clear hl1
      have hcall := hC xs[k] (by simp) wr hx
      clear hc hC
      have H := Lib.hid hcall; clear hcall
      go_wp2_with (refine wpList_load_agg 74 _ rfl rfl _ rfl _ HC1.out _ Tryz.underlying74 rfl (by rw [HL1.out]; kernel_rfl) ?_)
      refine H.out.mono ?_
      rintro e w2 ⟨rfl, hx2⟩
      clear H HC1 HL1
      cases hp : p xs[k] with
      | true =>
        have hfin := idxOf_at p xs k hlt hp (fun j hj => hno j (by omega) hj)
        have HF := Lib.hid hfin; clear hfin hno
        have hx3 := hx.trans hx2
        clear hp
        go_wp2
        go_ret
        exact ⟨by rw [HF.out]; rfl, hx3⟩
      | false =>
        have hno' : ∀ j (hj : j < xs.length), j < k + 1 → p xs[j] = false := fun j hj hj' => by
          by_cases e : j = k
          · subst e; exact hp
          · exact hno j hj (by omega)
        have HN := Lib.hid hno'; clear hno' hno
        have hx3 := hx.trans hx2
        clear hp
        go_wp2
        go_roundw
        case rel => exact ⟨k + 1, by omega, by go_num, hx3, HN.out⟩
        case measure => simp [intOf]; omega
    · have hfin := idxOf_none p xs (fun j hj => hno j hj (by omega))
      have HF := Lib.hid hfin; clear hfin hno
      go_wp2
      go_ret
      exact ⟨by rw [HF.out]; rfl, hx⟩

theorem ContainsFunc_Bus {α : Type} (enc : α → List Value) (w : World) (sv : Value) (xs : List α) (hs : RowIn w sv xs.length (xs.flatMap enc)) (hsz : ∀ x ∈ xs, (enc x).length = 2) (hlen : xs.length ≤ 4611686018427387904) (f : FuncId) (caps : Array Value) (hE : Enters f) (p : α → Bool)
    (hC : ∀ x ∈ xs, ∀ w1, Ext w w1 → Calls Tryz.prog f (#[.agg (enc x).toArray] ++ caps) w1 (Ret w1 (.bool (p x)))) :
    Calls Tryz.prog 122 #[sv, .func (.func f) #[] caps] w (Ret w (.bool (xs.any p))) := by
  have hc := IndexFunc_Bus enc w sv xs hs hsz hlen f caps hE p hC
  rw [← idxOf_any]
  clear hs hC hE hlen
  have H := Lib.hid hc; clear hc
  go_enter Tryz.func122, Tryz.ntmps122
  go_wp2_with fail
  refine H.out.mono ?_
  rintro e w1 ⟨rfl, hx⟩
  clear H
  go_wp2
  go_ret
  exact ⟨rfl, hx⟩

theorem every1_Bus {α : Type} (enc : α → List Value) (w : World) (x : α) (hsz : (enc x).length = 2) (B : Nat) (f : FuncId) (caps : Array Value) (hE : Enters f) (b : Bool) (hb : w.cell? ⟨B, 0, none⟩ = some (.func (.func f) #[] caps))
    (hC : ∀ w1, Ext w w1 → Calls Tryz.prog f (#[.agg (enc x).toArray] ++ caps) w1 (Ret w1 (.bool b))) :
    Calls Tryz.prog 123 #[.agg (enc x).toArray, .pointer (some ⟨B, 0, none⟩)] w (Ret w (.bool !b)) := by
  have hB : B < w.heap.size := World.block_lt_of_cell? w ⟨B, 0, none⟩ hb
  unfold Enters at hE
  have hc := hC (w.alloc (.cells (enc x).toArray 74)) ((Ext.refl w).alloc _)
  clear hC
  have H := Lib.hid hc; clear hc
  have hc1 : ∀ j v, (enc x)[j]? = some v → (w.alloc (.cells (enc x).toArray 74)).cell? ((⟨w.heap.size, 0, none⟩ : Addr).add j) = some v := fun j v hj => by
    rw [addr_add, Nat.zero_add, World.cell?_alloc_at _ _ _ _ rfl]; simpa using hj
  have HC1 := Lib.hid hc1; clear hc1
  have HL1 := Lib.hid hsz; clear hsz
  go_enter Tryz.func123, Tryz.ntmps123
  go_wp2_with (refine wpList_load_agg 74 _ rfl rfl _ rfl _ HC1.out _ Tryz.underlying74 rfl (by rw [HL1.out]; kernel_rfl) ?_)
  refine H.out.mono ?_
  rintro e w1 ⟨rfl, hx⟩
  clear H HC1 HL1
  have hx1 := ((Ext.refl w).alloc (.cells (enc x).toArray 74)).trans hx
  go_wp2
  go_ret
  exact ⟨rfl, hx1⟩

theorem every_Bus {α : Type} (enc : α → List Value) (w : World) (sv : Value) (xs : List α) (hs : RowIn w sv xs.length (xs.flatMap enc)) (hsz : ∀ x ∈ xs, (enc x).length = 2) (hlen : xs.length ≤ 4611686018427387904) (most : Int) (f : FuncId) (caps : Array Value) (hE : Enters f) (p : α → Bool)
    (hC : ∀ x ∈ xs, ∀ w1, Ext w w1 → Calls Tryz.prog f (#[.agg (enc x).toArray] ++ caps) w1 (Ret w1 (.bool (p x)))) :
    Calls Tryz.prog 80 #[sv, .int .i64 most, .func (.func f) #[] caps] w (Ret w (.bool (decide ((xs.length : Int) ≤ most) && xs.all p))) := by
  have he : Enters 123 := fun args w => by kernel_rfl
  have hx1 := (Ext.refl w).alloc (.cells #[.func (.func f) #[] caps] 119)
  have hc := ContainsFunc_Bus enc (w.alloc (.cells #[.func (.func f) #[] caps] 119)) sv xs (hs.ext hx1) hsz hlen 123 #[.pointer (some ⟨w.heap.size, 0, none⟩)] he (fun x => !p x)
    (fun x hx w1 h1 => every1_Bus enc w1 x (hsz x hx) w.heap.size f caps hE (p x) ((h1.cell (p := ⟨w.heap.size, 0, none⟩) (by simp)).trans (World.cell?_alloc_at _ _ _ _ rfl)) (fun w2 h2 => hC x hx w2 ((hx1.trans h1).trans h2)))
  have hl : ∃ (a : Option Addr) (cp : Nat), sv = .slice a xs.length cp := by obtain ⟨a, cp, h, _⟩ := hs; exact ⟨a, cp, h⟩
  obtain ⟨a, cp, rfl⟩ := hl
  have hfin := any_not_all p xs
  clear hs hC hE hsz he
  have H := Lib.hid hc; clear hc
  have HF := Lib.hid hfin; clear hfin
  have HX := Lib.hid hx1; clear hx1
  by_cases hm : (xs.length : Int) ≤ most
  · go_enter Tryz.func80, Tryz.ntmps80
    go_wp2_with fail
    refine H.out.mono ?_
    rintro e w1 ⟨rfl, hx⟩
    clear H
    go_wp2
    go_ret
    exact ⟨by rw [decide_eq_true (by omega), Bool.true_and, ← HF.out]; rfl, HX.out.trans hx⟩
  · go_enter Tryz.func80, Tryz.ntmps80
    go_wp2
    go_ret
    exact ⟨by rw [decide_eq_false (by omega)]; rfl, HX.out⟩


/-! ### within, times -/
def inUpto (most n : Int) : Bool := decide (0 ≤ n) && decide (n ≤ most)

theorem within1_c (n most : Int) (B : Nat) (w : World) (hb : w.cell? ⟨B, 0, none⟩ = some (.int .i64 most)) :
    Calls Tryz.prog 115 #[.int .i64 n, .pointer (some ⟨B, 0, none⟩)] w (Ret w (.bool (inUpto most n))) := by
  by_cases h : 0 ≤ n
  · have h' : decide (0 ≤ n) = true := decide_eq_true h
    go_enter Tryz.func115, Tryz.ntmps115
    go_wp2
    go_ret
    exact ⟨by simp [inUpto, h], Ext.refl _⟩
  · go_enter Tryz.func115, Tryz.ntmps115
    go_wp2
    go_ret
    exact ⟨by simp [inUpto]; omega, Ext.refl _⟩

theorem within_c (w : World) (sv : Value) (xs : List Int) (hs : RowIn w sv xs.length (ints xs)) (hlen : xs.length ≤ 4611686018427387904) (most : Int) :
    Calls Tryz.prog 75 #[.int .i64 most, sv] w (Ret w (.bool (xs.all (inUpto most)))) := by
  have he : Enters 115 := fun args w => by kernel_rfl
  have hx1 := (Ext.refl w).alloc (.cells #[.int .i64 most] 3)
  have hc := every_int (w.alloc (.cells #[.int .i64 most] 3)) sv xs (hs.ext hx1) hlen xs.length 115 #[.pointer (some ⟨w.heap.size, 0, none⟩)] he (inUpto most)
    (fun x _ w1 h1 => within1_c x most w.heap.size w1 ((h1.cell (p := ⟨w.heap.size, 0, none⟩) (by simp)).trans (World.cell?_alloc_at _ _ _ _ rfl)))
  have hl : ∃ (a : Option Addr) (cp : Nat), sv = .slice a xs.length cp := by obtain ⟨a, cp, h, _⟩ := hs; exact ⟨a, cp, h⟩
  obtain ⟨a, cp, rfl⟩ := hl
  clear hs he
  have H := Lib.hid hc; clear hc
  have HX := Lib.hid hx1; clear hx1
  go_enter Tryz.func75, Tryz.ntmps75
  go_wp2_with fail
  refine H.out.mono ?_
  rintro e w1 ⟨rfl, hx⟩
  clear H
  go_wp2
  go_ret
  exact ⟨rfl, HX.out.trans hx⟩

theorem times_c (w : World) (sv : Value) (xs : List Int) (hs : RowIn w sv xs.length (ints xs)) (hlen : xs.length ≤ 4611686018427387904) :
    Calls Tryz.prog 82 #[sv] w (Ret w (.bool (xs.all (inUpto 9999)))) := by
  have hc := within_c w sv xs hs hlen 9999
  clear hs
  have H := Lib.hid hc; clear hc
  go_enter Tryz.func82, Tryz.ntmps82
  go_wp2_with fail
  refine H.out.mono ?_
  rintro e w1 ⟨rfl, hx⟩
  clear H
  go_wp2
  go_ret
  exact ⟨rfl, hx⟩

end Go.Proofs.YtpopnmelcplbbaaGreat
