/-
  check: flash.
-/
import Derived.Test.YtpopnmelcplbbaaGreatWhere
import Derived.Test.YtpopnmelcplbbaaGreatEach
set_option linter.unusedVariables false
set_option linter.unusedSimpArgs false
namespace Go.Proofs.YtpopnmelcplbbaaGreat
open Go.RowKit Go.Shelf

attribute [local go_sem] Oper.semAt_some

def flashOne (t : Tab) (p q : Nat) : Bool := ((q : Int) != (p : Int)) && (t.flash p == 2) && (t.flash q == 2)
def flashS (t : Tab) (on : Int) (p : Nat) : Bool := (t.flash p == 0) || (eachL (bits .and .i64 (t.conflict p) on)).any fun q => flashOne t p q.val

set_option maxRecDepth 100000 in
set_option maxHeartbeats 4000000 in
theorem flash_c (w : World) (gv dv rv bv : Value) (t : Tab) (on : Int) (p : Nat) (hp : p < 8) :
    Calls Tryz.prog 57 #[tabV t gv dv rv bv, .int .i64 on, .int .i64 p] w (Ret w (.bool (flashS t on p))) := by
  refine (callsIn_wide (n := 10)).1 ?_
  have hx0 := (Ext.refl w).alloc (.cells (t.cells gv dv rv bv).toArray 34)
  have hTB := TB.new w t gv dv rv bv 34
  have e1 := (Ext.refl (w.alloc (.cells (t.cells gv dv rv bv).toArray 34))).alloc (.cells #[.int .i64 p] 3)
  have e2 := e1.alloc (.cells #[.bool false] 4)
  have hT2 := hTB.ext e2
  have hs2 : (((w.alloc (.cells (t.cells gv dv rv bv).toArray 34)).alloc (.cells #[.int .i64 p] 3)).alloc (.cells #[.bool false] 4)).cell? ⟨w.heap.size + 1, 0, none⟩ = some (.int .i64 p) := by
    refine (((Ext.refl _).alloc (.cells #[.bool false] 4)).cell (p := ⟨w.heap.size + 1, 0, none⟩) (by simp)).trans ?_
    rw [World.cell?_alloc_at _ _ _ _ (by simp)]; rfl
  have hr2 : (((w.alloc (.cells (t.cells gv dv rv bv).toArray 34)).alloc (.cells #[.int .i64 p] 3)).alloc (.cells #[.bool false] 4)).heap[w.heap.size + 1 + 1]? = some (.cells #[.bool false] 4 (0, 0)) := by
    have := World.alloc_heap_new ((w.alloc (.cells (t.cells gv dv rv bv).toArray 34)).alloc (.cells #[.int .i64 p] 3)) (.cells #[.bool false] 4); simpa using this
  have hX2 := hx0.trans e2
  have hsz2 : (((w.alloc (.cells (t.cells gv dv rv bv).toArray 34)).alloc (.cells #[.int .i64 p] 3)).alloc (.cells #[.bool false] 4)).heap.size = w.heap.size + 3 := by simp
  have p0 : (0 : Int) ≤ (p : Int) := by omega
  have p1 : (p : Int) < 8 := by omega
  obtain ⟨r, hr⟩ : ∃ r, flashS t on p = r := ⟨_, rfl⟩
  rw [hr]
  unfold flashS at hr
  have hcf := hT2.cell (t.flash_at gv dv rv bv p hp)
  have hcc := hT2.cell (t.conf_at gv dv rv bv p hp)
  unfold tabV
  obtain ⟨C, hC⟩ : ∃ C, C = t.cells gv dv rv bv := ⟨_, rfl⟩
  rw [← hC] at hx0 e1 e2 hT2 hs2 hr2 hX2 hsz2 hcf hcc ⊢
  have HCC := Lib.hid hC; clear hC
  clear hTB e1 e2 hx0
  refine callsIn_of_wp_marks Tryz.func57 rfl trivial ?_ rfl
  simp only [Tryz.ntmps57, List.size_toArray, List.length_cons, List.length_nil, Nat.reduceAdd, Nat.reduceSub, Array.replicate_succ, Array.replicate_zero, List.push_toArray, List.append_toArray, List.nil_append, List.cons_append]
  cases hpp : (t.flash p == 0) with
  | true =>
    rw [hpp] at hr
    simp only [Bool.true_or] at hr
    have HR := Lib.hid hr; clear hr
    have hcr := cell_box hr2
    have hfr := free_box hr2
    gi_wp2
    rw [← HR.out]
    refine end_bool0 (R := w.heap.size + 1 + 1) (T := 4) rfl rfl ?_ ((((Ext.refl w).alloc _).alloc _).alloc _)
    have := World.alloc_heap_new ((w.alloc (.cells C.toArray 34)).alloc (.cells #[.int .i64 p] 3)) (.cells #[.bool true] 4)
    simpa using this
  | false =>
    rw [hpp] at hr
    simp only [Bool.false_or] at hr
    generalize hse : bits .and .i64 (t.conflict p) on = se at hr
    have HQ := Lib.hid hr; clear hr
    have hE := fun W => callsIn_wide (n := 9) |>.2 (Each_c se W)
    rw [← hse] at hE
    have HE := Lib.hid hE; clear hE
    have HSE := Lib.hid hse; clear hse
    gi_wp2_with (refine ⟨trivial, ?_⟩; gi_at_call 30; refine (HE.out _).mono ?_; rintro e w' ⟨rfl, rfl⟩)
    rw [HSE.out]
    generalize hW1 : ((w.alloc (.cells C.toArray 34)).alloc (.cells #[.int .i64 p] 3)).alloc (.cells #[.bool false] 4) = W1 at hT2 hs2 hr2 hX2 hsz2 ⊢
    clear hW1 hcf hcc
    have hx3 := (Ext.refl W1).alloc (.cells #[.int .i64 se] 3)
    have hT3 := hT2.ext hx3
    have hs3 := (hx3.cell (p := ⟨w.heap.size + 1, 0, none⟩) (by simp; omega)).trans hs2
    have hr3 := (hx3.below.block (w.heap.size + 1 + 1) (by omega)).trans hr2
    have hX3 := hX2.trans hx3
    have hb3 : (W1.alloc (.cells #[.int .i64 se] 3)).cell? ⟨W1.heap.size, 0, none⟩ = some (.int .i64 se) := by rw [World.cell?_alloc_at _ _ _ _ rfl]; rfl
    have hsz3 : (W1.alloc (.cells #[.int .i64 se] 3)).heap.size = w.heap.size + 4 := by simp [hsz2]
    rw [hsz2] at hb3
    generalize W1.alloc (.cells #[.int .i64 se] 3) = W2 at hT3 hs3 hr3 hX3 hb3 hsz3 ⊢
    clear hx3 hT2 hs2 hr2 hX2 HE hsz2
    refine each_loop se (w.heap.size + 3) rfl hb3 (by omega) [w.heap.size + 1 + 1] (fun k hk => by simp at hk; omega) (by simp)
      (fun pre W => W.heap[w.heap.size + 1 + 1]? = some (.cells #[.bool false] 4 (0, 0)) ∧ pre.any (fun q => flashOne t p q.val) = false)
      (fun pre W => W.heap[w.heap.size + 1 + 1]? = some (.cells #[.bool true] 4 (0, 0)) ∧ pre.any (fun q => flashOne t p q.val) = true)
      (fun pre W W' h hj => ⟨(h _ (by simp)).trans hj.1, hj.2⟩) (fun pre W W' h hj => ⟨(h _ (by simp)).trans hj.1, hj.2⟩) ⟨hr3, rfl⟩
      (fun x => { tmps := #[.agg C.toArray, .int .i64 on, .int .i64 p, .pointer (some ⟨w.heap.size, 0, none⟩), undef, .pointer (some ⟨w.heap.size + 1, 0, none⟩), .pointer (some ⟨w.heap.size + 1 + 1, 0, none⟩), .int .i64 (x.val : Int), .int .i64 p,
        .pointer (some ⟨w.heap.size, 121, none⟩), .pointer (some ⟨w.heap.size, 121 + p, none⟩), .int .i64 (t.flash p), .bool false, .int .i64 p, .pointer (some ⟨w.heap.size, 105, none⟩), .pointer (some ⟨w.heap.size, 105 + p, none⟩), .int .i64 (t.conflict p),
        .int .i64 on, .int .i64 se, .func (.func 85) #[] #[.pointer (some ⟨w.heap.size + 3, 0, none⟩)], .int .i64 (x.val : Int),
        undef, undef, undef, undef, undef, undef, undef, undef, undef, undef, undef, undef, undef, undef, undef, undef, undef], defers := [] }) ?assign ?body ?done ?stop
    case assign =>
      intro l x W K hK
      gi_wp2
      exact hK
    case body =>
      rintro l pre x W hL ⟨hres, hpre⟩
      have hT4 := hT3.kept (hL.block w.heap.size (by omega) (by simp; omega))
      have hs4 := (hL.cell (b := w.heap.size + 1) (o := 0) (by omega) (by simp)).trans hs3
      have hcp := hT4.cell (t.flash_at gv dv rv bv p hp)
      have hcx := hT4.cell (t.flash_at gv dv rv bv x.val x.isLt)
      have x0 : (0 : Int) ≤ (x.val : Int) := by omega
      have x1 : (x.val : Int) < 8 := by omega
      have hany : (pre ++ [x]).any (fun q => flashOne t p q.val) = (((x.val : Int) != (p : Int)) && (t.flash p == 2) && (t.flash x.val == 2)) := by rw [List.any_append, hpre]; simp [flashOne]
      have hcr := cell_box hres
      have hfr := free_box hres
      have HANY := Lib.hid hany; clear hany hpre
      have HRES := Lib.hid hres; clear hres hr3 hs3 hb3 hT3 hT4 HQ HSE
      have hL5 := LoopAt.refl W [w.heap.size + 1 + 1]
      cases h1 : ((x.val : Int) != (p : Int)) with
      | false =>
        have hn := HANY.out
        rw [h1] at hn
        have HN := Lib.hid hn; clear hn HANY
        gi_wp2
        exact ⟨hL5, HRES.out, HN.out⟩
      | true =>
        cases h2 : (t.flash p == 2) with
        | false =>
          have hn := HANY.out
          rw [h1, h2] at hn
          have HN := Lib.hid hn; clear hn HANY
          gi_wp2
          exact ⟨hL5, HRES.out, HN.out⟩
        | true =>
          cases h3 : (t.flash x.val == 2) with
          | false =>
            have hn := HANY.out
            rw [h1, h2, h3] at hn
            have HN := Lib.hid hn; clear hn HANY
            gi_wp2
            exact ⟨hL5, HRES.out, HN.out⟩
          | true =>
            have hn := HANY.out
            rw [h1, h2, h3] at hn
            have HN := Lib.hid hn; clear hn HANY
            gi_wp2
            exact ⟨hL5.set (by simp) _ _, heap_set1 HRES.out, HN.out⟩
    case done =>
      rintro D W hD hL ⟨hres, hpre⟩ hK
      have hcr := cell_box hres
      have hfr := free_box hres
      have hne : D ≠ w.heap.size + 1 + 1 := by rintro rfl; rw [hres] at hK; cases hK
      have hr := HQ.out
      rw [hpre] at hr
      have HR := Lib.hid hr
      clear hpre hr
      gi_wp2
      rw [← HR.out]
      refine end_bool (R := w.heap.size + 1 + 1) (T := 4) rfl rfl (heap_set1 hres) ((hL.toExt hX3 (fun k hk => by simp at hk; omega)).set (by simp; omega) _) (by omega) ?_
      rw [Below.heap_setCell _ _ _ _ hne]; exact hK
    case stop =>
      rintro D pre W hD hp hL ⟨hres, hpre⟩ hK
      have hr := HQ.out
      rw [show (eachL se).any (fun q => flashOne t p q.val) = true by
        rw [List.any_eq_true] at hpre ⊢
        obtain ⟨q, hq, h⟩ := hpre
        exact ⟨q, hp.subset hq, h⟩] at hr
      have HR := Lib.hid hr
      clear hpre hr
      gi_wp2
      rw [← HR.out]
      exact end_bool (R := w.heap.size + 1 + 1) (T := 4) rfl rfl hres (hL.toExt hX3 (fun k hk => by simp at hk; omega)) (by omega) hK
end Go.Proofs.YtpopnmelcplbbaaGreat
