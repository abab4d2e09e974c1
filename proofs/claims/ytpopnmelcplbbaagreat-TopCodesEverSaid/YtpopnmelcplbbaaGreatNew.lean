/-
  wire.New: a reader of its own.
-/
import Derived.Deep.AppendLies
import Derived.Test.YtpopnmelcplbbaaGreatGRead
set_option linter.unusedVariables false
set_option linter.unusedSimpArgs false
namespace Go.Proofs.YtpopnmelcplbbaaGreat
open Go.RowKit

set_option maxRecDepth 100000 in
theorem Clone_c (w : World) (v : Value) (l : List UInt8) (hv : RowIn w v l.length (bytes8 l)) (hl : l.length ≤ 1000000000) :
    Calls Tryz.prog 60 #[v] w fun e w' => ∃ p r, e = .returned (.slice p l.length r) ∧ RowIn w' (.slice p l.length r) l.length (bytes8 l) ∧ l.length ≤ r ∧ (∀ a, p = some a → w.heap.size ≤ a.block ∧ a.block < w'.heap.size) ∧ Ext w w' := by
  obtain ⟨a, cp, rfl, hrow⟩ := hv
  have hne : ∀ (a : Option Addr) (n c : Nat) (w : World), (binOp .eql 22 (.slice a n c) (.slice none 0 0)).run Tryz.prog w = .ok (.bool a.isNone) w := fun a n c w => by
    unfold binOp
    simp [Sem.run_bind, run_equal_slice_nil w 22 5 a n c Tryz.underlying22]
  cases a with
  | none =>
    rcases hrow with ⟨h0, h1⟩ | ⟨b, off, h, _⟩
    · go_enter Tryz.func60, Tryz.ntmps60
      clear hl
      have hl0 : l = [] := List.length_eq_zero_iff.1 h0
      subst hl0
      clear h0 h1
      go_wp2
      go_ret
      exact ⟨none, 0, rfl, ⟨none, 0, rfl, .inl ⟨rfl, rfl⟩⟩, Nat.le_refl _, by simp, Ext.refl _⟩
    · cases h
  | some A =>
    have hsrc : ∀ j u, (bytes8 l)[j]? = some u → w.cell? (A.add j) = some u := by
      rcases hrow with ⟨h0, h1⟩ | ⟨b, off, h, _, hc⟩
      · intro j u hj; rw [h1] at hj; cases hj
      · cases h
        intro j u hj
        rw [addr_add]
        exact hc j u hj
    have hii := Tryz.infoByte
    cases hi : Tryz.prog.info? 5 with
    | none => rw [hi] at hii; cases hii
    | some i0 =>
    rw [hi] at hii
    simp only [Option.map_some, Option.some.injEq, Prod.mk.injEq] at hii
    obtain ⟨hz1, hz2, hz3⟩ := hii
    have HI := Lib.hid hi; clear hi
    have HZ1 := Lib.hid hz1; clear hz1
    have HS := Lib.hid hsrc; clear hsrc hrow
    have hown : (w.alloc (.cells #[] 5)).ownsRow w.heap.size 5 1 (.slice (some ⟨w.heap.size, 0, none⟩) 0 0) 0 [] :=
      ⟨by simp, .inr ⟨w.heap.size, 0, #[], rfl, Nat.le_refl _, heap_alloc_last _ _, Nat.le_refl _, by simp [maxLen], by simp, by simp⟩⟩
    have hnews : ∀ j u, (bytes8 l)[j]? = some u → (w.alloc (.cells #[] 5)).cell? (A.add j) = some u := fun j u hj => by
      have h1 := HS.out j u hj
      rw [World.cell?_alloc_lt _ _ _ (World.block_lt_of_cell? w _ h1)]
      exact h1
    have HOWN := Lib.hid hown; clear hown
    have HNEWS := Lib.hid hnews; clear hnews
    go_enter Tryz.func60, Tryz.ntmps60
    go_wp2_with (at_builtin; refine wpList_append_own _ rfl _ _ 22 rfl w.heap.size 5 i0 (.int .u8 0) 1 1 Tryz.underlying22 HI.out HZ1.out hz2 hz3 rfl (by omega) _ 0 [] rfl HOWN.out A l.length cp (bytes8 l) rfl (by rw [bytes8_length]; omega) HNEWS.out (by intro u hu; simp only [bytes8, List.mem_map] at hu; obtain ⟨x, _, rfl⟩ := hu; rfl) (by simp [maxLen]; omega) (by omega) (by simp) ?_; intro v2 w2 hown2 hg2 hnil; clear hnil)
    have hx := ((Ext.refl w).alloc (.cells #[] 5)).grown hg2 (fun k e => by cases e; exact Nat.le_refl _)
    rw [Nat.zero_add, List.nil_append] at hown2
    have hrow := rowIn_own hown2
    have HX := Lib.hid hx; clear hx hg2
    have HROW := Lib.hid hrow; clear hrow
    obtain ⟨hlen0, hcase⟩ := hown2
    clear hlen0
    rcases hcase with ⟨rfl, h0⟩ | ⟨g, cap, cur, rfl, hbg, hg, hcap, hrest⟩
    rotate_left
    · have HG := Lib.hid (Array.getElem?_eq_some_iff.1 hg).1
      have HB := Lib.hid hbg
      have HC := Lib.hid hcap
      clear hg hbg hcap HNEWS HS HOWN hrest
      go_wp2
      go_ret
      exact ⟨_, cap, rfl, HROW.out, HC.out, fun a e => by cases e; exact ⟨HB.out, HG.out⟩, HX.out⟩
    · have hl0 : l = [] := List.length_eq_zero_iff.1 h0
      subst hl0
      clear h0 HNEWS HS
      go_wp2
      go_ret
      have hr := HROW.out
      exact ⟨none, 0, rfl, hr, Nat.le_refl _, by simp, HX.out⟩

/-- New: the reader at the beginning of what it reads -/
theorem New_c (w : World) (v : Value) (l : List UInt8) (hv : RowIn w v l.length (bytes8 l)) (hl : l.length ≤ 1000000000) :
    Calls Tryz.prog 16 #[v] w fun e w' => ∃ B, e = .returned (.pointer (some ⟨B, 0, none⟩)) ∧ w.heap.size ≤ B ∧ RdAt w' B l 0 0 0 ∧ Ext w w' := by
  have hc := Clone_c w v l hv hl
  obtain ⟨a, cp, rfl, _⟩ := hv
  have H := Lib.hid hc; clear hc
  go_enter Tryz.func16, Tryz.ntmps16
  go_wp2_with fail
  refine H.out.mono ?_
  rintro e w1 ⟨p, r, rfl, hrow, hr, hb, hx⟩
  have hxx := hx.alloc (.cells #[.slice p l.length r, .int .i64 0, .int .i64 0, .int .i64 0] 102)
  have hrd : RdAt (w1.alloc (.cells #[.slice p l.length r, .int .i64 0, .int .i64 0, .int .i64 0] 102)) w1.heap.size l 0 0 0 :=
    ⟨Nat.zero_le _, p, l.length, r, heap_alloc_last _ _, hrow.ext ((Ext.refl w1).alloc _), hr, fun a e => (hb a e).2⟩
  have HRD := Lib.hid hrd; clear hrd hrow
  have HX := Lib.hid hxx; clear hxx
  have hs := hx.size
  clear hx hb H
  go_wp2
  go_ret
  exact ⟨_, rfl, hs, HRD.out, HX.out⟩
end Go.Proofs.YtpopnmelcplbbaaGreat
