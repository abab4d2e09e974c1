/-
  check: conflict.
-/
import Derived.Sort.QuietIn
import Derived.Test.YtpopnmelcplbbaaGreatWhere
import Derived.Test.YtpopnmelcplbbaaGreatEach
import Derived.Test.YtpopnmelcplbbaaGreatGHand
set_option linter.unusedVariables false
set_option linter.unusedSimpArgs false
namespace Go.Proofs.YtpopnmelcplbbaaGreat
open Go.RowKit Go.Shelf

attribute [local go_sem] Oper.semAt_some

def confOne (t : Tab) (p q : Nat) : Bool := (has (t.conflict p) (q : Int) != has (t.conflict q) (p : Int)) || (has (t.conflict p) (q : Int) && besideS t (p : Int) (q : Int))
def conflictS (t : Tab) (on : Int) (p : Nat) : Bool := has (t.conflict p) (p : Int) || (eachL on).any fun q => confOne t p q.val

set_option maxRecDepth 100000 in
set_option maxHeartbeats 4000000 in
theorem conflict_c (w : World) (gv dv rv bv : Value) (t : Tab) (hTA : TabAt w gv dv rv bv t) (on : Int) (p : Nat) (hp : p < 8) :
    Calls Tryz.prog 47 #[tabV t gv dv rv bv, .int .i64 on, .int .i64 p] w (Ret w (.bool (conflictS t on p))) := by
  refine (callsIn_wide (n := 10)).1 ?_
  have hx0 := (Ext.refl w).alloc (.cells (t.cells gv dv rv bv).toArray 34)
  have hTB := TB.new w t gv dv rv bv 34
  have e1 := (Ext.refl (w.alloc (.cells (t.cells gv dv rv bv).toArray 34))).alloc (.cells #[.int .i64 p] 3)
  have e2 := e1.alloc (.cells #[.bool false] 4)
  have hT1 := hTB.ext e2
  have hs1 : (((w.alloc (.cells (t.cells gv dv rv bv).toArray 34)).alloc (.cells #[.int .i64 p] 3)).alloc (.cells #[.bool false] 4)).cell? ⟨w.heap.size + 1, 0, none⟩ = some (.int .i64 p) := by
    refine (((Ext.refl _).alloc (.cells #[.bool false] 4)).cell (p := ⟨w.heap.size + 1, 0, none⟩) (by simp)).trans ?_
    rw [World.cell?_alloc_at _ _ _ _ (by simp)]; rfl
  have hr1 : (((w.alloc (.cells (t.cells gv dv rv bv).toArray 34)).alloc (.cells #[.int .i64 p] 3)).alloc (.cells #[.bool false] 4)).heap[w.heap.size + 1 + 1]? = some (.cells #[.bool false] 4 (0, 0)) := by
    have := World.alloc_heap_new ((w.alloc (.cells (t.cells gv dv rv bv).toArray 34)).alloc (.cells #[.int .i64 p] 3)) (.cells #[.bool false] 4); simpa using this
  have hX := hx0.trans e2
  have hsz : (((w.alloc (.cells (t.cells gv dv rv bv).toArray 34)).alloc (.cells #[.int .i64 p] 3)).alloc (.cells #[.bool false] 4)).heap.size = w.heap.size + 3 := by simp
  have hcp := hT1.cell (t.conf_at gv dv rv bv p hp)
  have p0 : (0 : Int) ≤ (p : Int) := by omega
  have p1 : (p : Int) < 8 := by omega
  have hh := fun W => (Has_c (t.conflict p) (p : Int) W).mono (R' := fun e w' => e = .returned (.bool (has (t.conflict p) (p : Int))) ∧ w' = W) (fun e w' h => ⟨h.1, h.2.symm⟩)
  have HH := Lib.hid hh; clear hh
  obtain ⟨r, hr⟩ : ∃ r, conflictS t on p = r := ⟨_, rfl⟩
  rw [hr]
  unfold conflictS at hr
  have HQ := Lib.hid hr; clear hr
  unfold tabV
  obtain ⟨C, hC⟩ : ∃ C, C = t.cells gv dv rv bv := ⟨_, rfl⟩
  rw [← hC] at hx0 e1 e2 hT1 hs1 hr1 hX hsz hcp ⊢
  have HCC := Lib.hid hC; clear hC
  clear hTB e1 e2 hx0
  refine callsIn_of_wp_marks Tryz.func47 rfl trivial ?_ rfl
  simp only [Tryz.ntmps47, List.size_toArray, List.length_cons, List.length_nil, Nat.reduceAdd, Nat.reduceSub, Array.replicate_succ, Array.replicate_zero, List.push_toArray, List.append_toArray, List.nil_append, List.cons_append]
  gi_wp2
  refine wpIn_wide.2 ?_
  go_quiet ((go_at_call 39; exact Calls.quiet_of_same (HH.out _)))
  have hxd := (Ext.refl (((w.alloc (.cells C.toArray 34)).alloc (.cells #[.int .i64 p] 3)).alloc (.cells #[.bool false] 4))).drewN nq
  have hT2 := hT1.ext hxd
  have hs2 := (hxd.cell (p := ⟨w.heap.size + 1, 0, none⟩) (by simp)).trans hs1
  have hr2 := (hxd.below.block (w.heap.size + 1 + 1) (by simp)).trans hr1
  have hX2 := hX.trans hxd
  have hsz2 : ((((w.alloc (.cells C.toArray 34)).alloc (.cells #[.int .i64 p] 3)).alloc (.cells #[.bool false] 4)).drewN nq).heap.size = w.heap.size + 3 := by rw [heap_drewN]; exact hsz
  generalize (((w.alloc (.cells C.toArray 34)).alloc (.cells #[.int .i64 p] 3)).alloc (.cells #[.bool false] 4)).drewN nq = W1 at hT2 hs2 hr2 hX2 hsz2 ⊢
  clear hT1 hs1 hr1 hX hsz hcp hxd HH
  have hcr := cell_box hr2
  have hfr := free_box hr2
  have hr := HQ.out
  clear HQ
  cases hpp : has (t.conflict p) (p : Int) with
  | true =>
    rw [hpp] at hr
    simp only [Bool.true_or] at hr
    have HR := Lib.hid hr; clear hr hpp
    gi_wp2
    rw [← HR.out]
    exact end_bool0 (R := w.heap.size + 1 + 1) (T := 4) rfl rfl (heap_set1 hr2) (hX2.set (by simp; omega) _)
  | false =>
    rw [hpp] at hr
    simp only [Bool.false_or] at hr
    have HQ := Lib.hid hr; clear hr hpp hcr hfr
    have hE := fun W => callsIn_wide (n := 9) |>.2 (Each_c on W)
    have HE := Lib.hid hE; clear hE
    gi_wp2_with ((first | refine ⟨trivial, ?_⟩ | skip); gi_at_call 30; refine (HE.out _).mono ?_; rintro e w' ⟨rfl, rfl⟩)
    have hx3 := (Ext.refl W1).alloc (.cells #[.int .i64 on] 3)
    have hT3 := hT2.ext hx3
    have hs3 := (hx3.cell (p := ⟨w.heap.size + 1, 0, none⟩) (by simp; omega)).trans hs2
    have hr3 := (hx3.below.block (w.heap.size + 1 + 1) (by omega)).trans hr2
    have hX3 := hX2.trans hx3
    have hb3 : (W1.alloc (.cells #[.int .i64 on] 3)).cell? ⟨W1.heap.size, 0, none⟩ = some (.int .i64 on) := by rw [World.cell?_alloc_at _ _ _ _ rfl]; rfl
    have hsz3 : (W1.alloc (.cells #[.int .i64 on] 3)).heap.size = w.heap.size + 4 := by simp [hsz2]
    rw [hsz2] at hb3
    generalize W1.alloc (.cells #[.int .i64 on] 3) = W2 at hT3 hs3 hr3 hX3 hb3 hsz3 ⊢
    clear hx3 hT2 hs2 hr2 hX2 HE hsz2
    refine each_loop on (w.heap.size + 3) rfl hb3 (by omega) [w.heap.size + 1 + 1] (fun k hk => by simp at hk; omega) (by simp)
      (fun pre W => W.heap[w.heap.size + 1 + 1]? = some (.cells #[.bool false] 4 (0, 0)) ∧ pre.any (fun q => confOne t p q.val) = false)
      (fun pre W => W.heap[w.heap.size + 1 + 1]? = some (.cells #[.bool true] 4 (0, 0)) ∧ pre.any (fun q => confOne t p q.val) = true)
      (fun pre W W' h hj => ⟨(h _ (by simp)).trans hj.1, hj.2⟩) (fun pre W W' h hj => ⟨(h _ (by simp)).trans hj.1, hj.2⟩) ⟨hr3, rfl⟩
      (fun x => { tmps := #[.agg C.toArray, .int .i64 on, .int .i64 p, .pointer (some ⟨w.heap.size, 0, none⟩), undef, .pointer (some ⟨w.heap.size + 1, 0, none⟩), .pointer (some ⟨w.heap.size + 1 + 1, 0, none⟩), .int .i64 (x.val : Int), undef, .int .i64 p,
        .pointer (some ⟨w.heap.size, 105, none⟩), .pointer (some ⟨w.heap.size, 105 + p, none⟩), .int .i64 (t.conflict p), .int .i64 p, .bool false, .int .i64 on, .func (.func 85) #[] #[.pointer (some ⟨w.heap.size + 3, 0, none⟩)], .int .i64 (x.val : Int),
        undef, undef, undef, undef, undef, undef, undef, undef, undef, undef, undef, undef, undef, undef, undef, undef, undef, undef, undef, undef, undef, undef, undef], defers := [] }) ?assign ?body ?done ?stop
    case assign =>
      intro l x W K hK
      gi_wp2
      exact hK
    case body =>
      rintro l pre x W hL ⟨hres, hpre⟩
      have hT4 := hT3.kept (hL.block w.heap.size (by omega) (by simp; omega))
      have hs4 := (hL.cell (b := w.heap.size + 1) (o := 0) (by omega) (by simp)).trans hs3
      have hcp := hT4.cell (t.conf_at gv dv rv bv p hp)
      have hcx := hT4.cell (t.conf_at gv dv rv bv x.val x.isLt)
      have x0 : (0 : Int) ≤ (x.val : Int) := by omega
      have x1 : (x.val : Int) < 8 := by omega
      have hh1 := (callsIn_wide (n := 7) |>.2 (Has_c (t.conflict p) (x.val : Int) W)).inRound l
      have hh2 := fun W' => Has_c (t.conflict x.val) (p : Int) W'
      have hxw := hL.toExt hX3 (fun k hk => by simp at hk; omega)
      have hbs := fun W' (h : Ext w W') => Beside_c W' gv dv rv bv t (hTA.ext h) (p : Int) (x.val : Int)
      have hany : (pre ++ [x]).any (fun q => confOne t p q.val) = confOne t p x.val := by rw [List.any_append, hpre]; simp
      have hcr := cell_box hres
      have hfr := free_box hres
      have hszW := hL.size
      have hmx : Tryz.prog.follows .mixedOrders = true := by kernel_rfl
      unfold tabV at hbs
      have hrg := hT4.range
      have hsc : (Tryz.prog.info? 34).map (·.size) = some (t.cells gv dv rv bv).length := by rw [t.cells_len]; kernel_rfl
      rw [← HCC.out] at hbs hrg hsc
      have HRG := Lib.hid hrg
      have HSC2 := Lib.hid hsc
      have hcc := t.conf_at gv dv rv bv x.val x.isLt
      rw [← HCC.out] at hcc
      have HCX := Lib.hid hcc; clear hcc
      unfold confOne at hany
      generalize has (t.conflict p) (x.val : Int) = b1 at hh1 hany
      generalize has (t.conflict x.val) (p : Int) = b2 at hh2 hany
      generalize besideS t (p : Int) (x.val : Int) = b3 at hbs hany
      have H1 := Lib.hid hh1; clear hh1
      have H2 := Lib.hid hh2; clear hh2
      have H3 := Lib.hid hbs; clear hbs
      have HANY := Lib.hid hany; clear hany hpre
      have HRES := Lib.hid hres; clear hres
      have HXW := Lib.hid hxw; clear hxw hrg hsc
      clear hr3 hs3 hb3 hT3 hT4
      gi_wp2_with ((first | refine ⟨trivial, ?_⟩ | skip); gi_at_call 39; refine H1.out.mono ?_; rintro e w' ⟨rfl, rfl⟩)
      -- REGION 6
      have hfa : ∀ w' : World, w'.rangeAt w.heap.size 0 C ∧ w'.cell? ⟨w.heap.size + 1, 0, none⟩ = some (.int .i64 p) → (Instr.fieldAt 34 (.pointer (some ⟨w.heap.size, 0, none⟩)) 2).run Tryz.prog w' = .ok (.pointer (some ⟨w.heap.size, 105, none⟩)) w' := fun w' _ => by go_simp
      have hia : ∀ w' : World, w'.rangeAt w.heap.size 0 C ∧ w'.cell? ⟨w.heap.size + 1, 0, none⟩ = some (.int .i64 p) → (Instr.indexAt 29 (.pointer (some ⟨w.heap.size, 105, none⟩)) (.int .i64 (x.val : Int))).run Tryz.prog w' = .ok (.pointer (some ⟨w.heap.size, 105 + x.val, none⟩)) w' := fun w' _ => by go_simp
      have hl1 : ∀ (W : World) (A : Addr) (v : Int), W.cell? A = some (.int .i64 v) → (Instr.loadAt 3 (.pointer (some A))).run Tryz.prog W = .ok (.int .i64 v) W := fun W A v h => by go_simp
      cases b1 <;> cases b2
      · refine region_round (S := fun w' => w'.rangeAt w.heap.size 0 C ∧ w'.cell? ⟨w.heap.size + 1, 0, none⟩ = some (.int .i64 p)) (by kernel_rfl) (by kernel_rfl) (fun ⟨a, w, h⟩ => h) ⟨by simpa using HRG.out, by simpa using hs4⟩ (fun hS => ?_)
        refine wpAnyH_take (i := 0) (oi := _) (v := .bool false) rfl (by kernel_rfl) (by kernel_rfl) (by kernel_rfl) (fun _ _ _ h => h) (Or.inl ⟨by kernel_rfl, fun _ _ => by kernel_rfl⟩) hS ?_
        refine wpAnyH_take (i := 1) (oi := _) (v := .int .i64 (x.val : Int)) rfl (by kernel_rfl) (by kernel_rfl) (by kernel_rfl) (fun _ _ _ h => h) (Or.inl ⟨by kernel_rfl, fun _ _ => by kernel_rfl⟩) hS ?_
        refine wpAnyH_take (i := 2) (oi := _) (v := .pointer (some ⟨w.heap.size, 105, none⟩)) rfl (by kernel_rfl) (by kernel_rfl) (by kernel_rfl) (fun _ _ _ h => h) (yields_v (Instr.fieldAt 34 (.pointer (some ⟨w.heap.size, 0, none⟩)) 2) (by kernel_rfl) (by kernel_rfl) hfa) hS ?_
        refine wpAnyH_take (i := 3) (oi := _) (v := .pointer (some ⟨w.heap.size, 105 + x.val, none⟩)) rfl (by kernel_rfl) (by kernel_rfl) (by kernel_rfl) (fun _ _ _ h => h) (yields_v (Instr.indexAt 29 (.pointer (some ⟨w.heap.size, 105, none⟩)) (.int .i64 (x.val : Int))) (by kernel_rfl) (by kernel_rfl) hia) hS ?_
        refine wpAnyH_take (i := 4) (oi := _) (v := .int .i64 (t.conflict x.val)) rfl (by kernel_rfl) (by kernel_rfl) (by kernel_rfl) (fun _ _ _ h => h) (yields_v (Instr.loadAt 3 (.pointer (some ⟨w.heap.size, 105 + x.val, none⟩))) (by kernel_rfl) (by kernel_rfl) (fun W h => hl1 W _ _ (by simpa using h.1 _ _ HCX.out))) hS ?_
        refine wpAnyH_take (i := 5) (oi := _) (v := .int .i64 p) rfl (by kernel_rfl) (by kernel_rfl) (by kernel_rfl) (fun _ _ _ h => h) (yields_v (Instr.loadAt 3 (.pointer (some ⟨w.heap.size + 1, 0, none⟩))) (by kernel_rfl) (by kernel_rfl) (fun W h => hl1 W _ _ h.2)) hS ?_
        refine wpAnyH_call (i := 6) (f := 39) (args := #[.int .i64 (t.conflict x.val), .int .i64 p]) (v := .bool false) (by kernel_rfl) rfl (by kernel_rfl) (by kernel_rfl) (H2.out _) ?_
        rintro e w' ⟨rfl, rfl⟩
        refine ⟨rfl, hS, ?_⟩
        refine wpAnyH_take (i := 7) (oi := _) (v := .bool false) rfl (by kernel_rfl) (by kernel_rfl) (by kernel_rfl) (fun _ _ _ h => h) (Or.inl ⟨by kernel_rfl, fun _ _ => by kernel_rfl⟩) hS ?_
        refine wpAnyH_take (i := 8) (oi := _) (v := .bool false) rfl (by kernel_rfl) (by kernel_rfl) (by kernel_rfl) (fun _ _ _ h => h) (Or.inl ⟨by kernel_rfl, fun _ _ => by kernel_rfl⟩) hS ?_
        refine wpAnyH_take (i := 9) (oi := _) (v := .bool false) rfl (by kernel_rfl) (by kernel_rfl) (by kernel_rfl) (fun _ _ _ h => h) (Or.inl ⟨by kernel_rfl, fun _ _ => by kernel_rfl⟩) hS ?_
        refine wpAnyH_take (i := 10) (oi := _) (v := .bool false) rfl (by kernel_rfl) (by kernel_rfl) (by kernel_rfl) (fun _ _ _ h => h) (Or.inl ⟨by kernel_rfl, fun _ _ => by kernel_rfl⟩) hS ?_
        refine wpAnyH_take (i := 11) (oi := _) (v := undef) rfl (by kernel_rfl) (by kernel_rfl) (by kernel_rfl) (fun _ _ _ h => h) (yields_no (by kernel_rfl)) hS ?_
        refine wpAnyH_take (i := 12) (oi := _) (v := undef) rfl (by kernel_rfl) (by kernel_rfl) (by kernel_rfl) (fun _ _ _ h => h) (yields_no (by kernel_rfl)) hS ?_
        refine wpAnyH_take (i := 13) (oi := _) (v := undef) rfl (by kernel_rfl) (by kernel_rfl) (by kernel_rfl) (fun _ _ _ h => h) (yields_no (by kernel_rfl)) hS ?_
        refine wpAnyH_take (i := 14) (oi := _) (v := undef) rfl (by kernel_rfl) (by kernel_rfl) (by kernel_rfl) (fun _ _ _ h => h) (yields_no (by kernel_rfl)) hS ?_
        refine wpAnyH_take (i := 15) (oi := _) (v := .bool false) rfl (by kernel_rfl) (by kernel_rfl) (by kernel_rfl) (fun _ _ _ h => h) (Or.inl ⟨by kernel_rfl, fun _ _ => by kernel_rfl⟩) hS ?_
        refine wpAnyH_take (i := 16) (oi := _) (v := .bool false) rfl (by kernel_rfl) (by kernel_rfl) (by kernel_rfl) (fun _ _ _ h => h) (Or.inl ⟨by kernel_rfl, fun _ _ => by kernel_rfl⟩) hS ?_
        refine wpAnyH_done (by kernel_rfl) ?_ _
        go_simp
        have HN := Lib.hid (HANY.out)
        clear HANY
        gi_wp2
        exact ⟨.ofExt (Ext.refl W).drew _, HRES.out, HN.out⟩
      · refine region_round (S := fun w' => w'.rangeAt w.heap.size 0 C ∧ w'.cell? ⟨w.heap.size + 1, 0, none⟩ = some (.int .i64 p)) (by kernel_rfl) (by kernel_rfl) (fun ⟨a, w, h⟩ => h) ⟨by simpa using HRG.out, by simpa using hs4⟩ (fun hS => ?_)
        refine wpAnyH_take (i := 0) (oi := _) (v := .bool false) rfl (by kernel_rfl) (by kernel_rfl) (by kernel_rfl) (fun _ _ _ h => h) (Or.inl ⟨by kernel_rfl, fun _ _ => by kernel_rfl⟩) hS ?_
        refine wpAnyH_take (i := 1) (oi := _) (v := .int .i64 (x.val : Int)) rfl (by kernel_rfl) (by kernel_rfl) (by kernel_rfl) (fun _ _ _ h => h) (Or.inl ⟨by kernel_rfl, fun _ _ => by kernel_rfl⟩) hS ?_
        refine wpAnyH_take (i := 2) (oi := _) (v := .pointer (some ⟨w.heap.size, 105, none⟩)) rfl (by kernel_rfl) (by kernel_rfl) (by kernel_rfl) (fun _ _ _ h => h) (yields_v (Instr.fieldAt 34 (.pointer (some ⟨w.heap.size, 0, none⟩)) 2) (by kernel_rfl) (by kernel_rfl) hfa) hS ?_
        refine wpAnyH_take (i := 3) (oi := _) (v := .pointer (some ⟨w.heap.size, 105 + x.val, none⟩)) rfl (by kernel_rfl) (by kernel_rfl) (by kernel_rfl) (fun _ _ _ h => h) (yields_v (Instr.indexAt 29 (.pointer (some ⟨w.heap.size, 105, none⟩)) (.int .i64 (x.val : Int))) (by kernel_rfl) (by kernel_rfl) hia) hS ?_
        refine wpAnyH_take (i := 4) (oi := _) (v := .int .i64 (t.conflict x.val)) rfl (by kernel_rfl) (by kernel_rfl) (by kernel_rfl) (fun _ _ _ h => h) (yields_v (Instr.loadAt 3 (.pointer (some ⟨w.heap.size, 105 + x.val, none⟩))) (by kernel_rfl) (by kernel_rfl) (fun W h => hl1 W _ _ (by simpa using h.1 _ _ HCX.out))) hS ?_
        refine wpAnyH_take (i := 5) (oi := _) (v := .int .i64 p) rfl (by kernel_rfl) (by kernel_rfl) (by kernel_rfl) (fun _ _ _ h => h) (yields_v (Instr.loadAt 3 (.pointer (some ⟨w.heap.size + 1, 0, none⟩))) (by kernel_rfl) (by kernel_rfl) (fun W h => hl1 W _ _ h.2)) hS ?_
        refine wpAnyH_call (i := 6) (f := 39) (args := #[.int .i64 (t.conflict x.val), .int .i64 p]) (v := .bool true) (by kernel_rfl) rfl (by kernel_rfl) (by kernel_rfl) (H2.out _) ?_
        rintro e w' ⟨rfl, rfl⟩
        refine ⟨rfl, hS, ?_⟩
        refine wpAnyH_take (i := 7) (oi := _) (v := .bool true) rfl (by kernel_rfl) (by kernel_rfl) (by kernel_rfl) (fun _ _ _ h => h) (Or.inl ⟨by kernel_rfl, fun _ _ => by kernel_rfl⟩) hS ?_
        refine wpAnyH_take (i := 8) (oi := _) (v := .bool true) rfl (by kernel_rfl) (by kernel_rfl) (by kernel_rfl) (fun _ _ _ h => h) (Or.inl ⟨by kernel_rfl, fun _ _ => by kernel_rfl⟩) hS ?_
        refine wpAnyH_take (i := 9) (oi := _) (v := undef) rfl (by kernel_rfl) (by kernel_rfl) (by kernel_rfl) (fun _ _ _ h => h) (yields_no (by kernel_rfl)) hS ?_
        refine wpAnyH_take (i := 10) (oi := _) (v := undef) rfl (by kernel_rfl) (by kernel_rfl) (by kernel_rfl) (fun _ _ _ h => h) (yields_no (by kernel_rfl)) hS ?_
        refine wpAnyH_take (i := 11) (oi := _) (v := undef) rfl (by kernel_rfl) (by kernel_rfl) (by kernel_rfl) (fun _ _ _ h => h) (yields_no (by kernel_rfl)) hS ?_
        refine wpAnyH_take (i := 12) (oi := _) (v := undef) rfl (by kernel_rfl) (by kernel_rfl) (by kernel_rfl) (fun _ _ _ h => h) (yields_no (by kernel_rfl)) hS ?_
        refine wpAnyH_take (i := 13) (oi := _) (v := undef) rfl (by kernel_rfl) (by kernel_rfl) (by kernel_rfl) (fun _ _ _ h => h) (yields_no (by kernel_rfl)) hS ?_
        refine wpAnyH_take (i := 14) (oi := _) (v := undef) rfl (by kernel_rfl) (by kernel_rfl) (by kernel_rfl) (fun _ _ _ h => h) (yields_no (by kernel_rfl)) hS ?_
        refine wpAnyH_take (i := 15) (oi := _) (v := undef) rfl (by kernel_rfl) (by kernel_rfl) (by kernel_rfl) (fun _ _ _ h => h) (yields_no (by kernel_rfl)) hS ?_
        refine wpAnyH_take (i := 16) (oi := _) (v := .bool true) rfl (by kernel_rfl) (by kernel_rfl) (by kernel_rfl) (fun _ _ _ h => h) (Or.inl ⟨by kernel_rfl, fun _ _ => by kernel_rfl⟩) hS ?_
        refine wpAnyH_done (by kernel_rfl) ?_ _
        go_simp
        have HN := Lib.hid (HANY.out)
        clear HANY
        have hcr5 : W.drew.cell? ⟨w.heap.size + 1 + 1, 0, none⟩ = some (.bool false) := by simpa using hcr
        gi_wp2
        exact ⟨(LoopAt.ofExt (Ext.refl W).drew _).set (by simp) _ _, heap_set1 (W := W.drew) HRES.out, HN.out⟩
      · refine region_round (S := fun w' => w'.rangeAt w.heap.size 0 C ∧ w'.cell? ⟨w.heap.size + 1, 0, none⟩ = some (.int .i64 p)) (by kernel_rfl) (by kernel_rfl) (fun ⟨a, w, h⟩ => h) ⟨by simpa using HRG.out, by simpa using hs4⟩ (fun hS => ?_)
        refine wpAnyH_take (i := 0) (oi := _) (v := .bool true) rfl (by kernel_rfl) (by kernel_rfl) (by kernel_rfl) (fun _ _ _ h => h) (Or.inl ⟨by kernel_rfl, fun _ _ => by kernel_rfl⟩) hS ?_
        refine wpAnyH_take (i := 1) (oi := _) (v := .int .i64 (x.val : Int)) rfl (by kernel_rfl) (by kernel_rfl) (by kernel_rfl) (fun _ _ _ h => h) (Or.inl ⟨by kernel_rfl, fun _ _ => by kernel_rfl⟩) hS ?_
        refine wpAnyH_take (i := 2) (oi := _) (v := .pointer (some ⟨w.heap.size, 105, none⟩)) rfl (by kernel_rfl) (by kernel_rfl) (by kernel_rfl) (fun _ _ _ h => h) (yields_v (Instr.fieldAt 34 (.pointer (some ⟨w.heap.size, 0, none⟩)) 2) (by kernel_rfl) (by kernel_rfl) hfa) hS ?_
        refine wpAnyH_take (i := 3) (oi := _) (v := .pointer (some ⟨w.heap.size, 105 + x.val, none⟩)) rfl (by kernel_rfl) (by kernel_rfl) (by kernel_rfl) (fun _ _ _ h => h) (yields_v (Instr.indexAt 29 (.pointer (some ⟨w.heap.size, 105, none⟩)) (.int .i64 (x.val : Int))) (by kernel_rfl) (by kernel_rfl) hia) hS ?_
        refine wpAnyH_take (i := 4) (oi := _) (v := .int .i64 (t.conflict x.val)) rfl (by kernel_rfl) (by kernel_rfl) (by kernel_rfl) (fun _ _ _ h => h) (yields_v (Instr.loadAt 3 (.pointer (some ⟨w.heap.size, 105 + x.val, none⟩))) (by kernel_rfl) (by kernel_rfl) (fun W h => hl1 W _ _ (by simpa using h.1 _ _ HCX.out))) hS ?_
        refine wpAnyH_take (i := 5) (oi := _) (v := .int .i64 p) rfl (by kernel_rfl) (by kernel_rfl) (by kernel_rfl) (fun _ _ _ h => h) (yields_v (Instr.loadAt 3 (.pointer (some ⟨w.heap.size + 1, 0, none⟩))) (by kernel_rfl) (by kernel_rfl) (fun W h => hl1 W _ _ h.2)) hS ?_
        refine wpAnyH_call (i := 6) (f := 39) (args := #[.int .i64 (t.conflict x.val), .int .i64 p]) (v := .bool false) (by kernel_rfl) rfl (by kernel_rfl) (by kernel_rfl) (H2.out _) ?_
        rintro e w' ⟨rfl, rfl⟩
        refine ⟨rfl, hS, ?_⟩
        refine wpAnyH_take (i := 7) (oi := _) (v := .bool true) rfl (by kernel_rfl) (by kernel_rfl) (by kernel_rfl) (fun _ _ _ h => h) (Or.inl ⟨by kernel_rfl, fun _ _ => by kernel_rfl⟩) hS ?_
        refine wpAnyH_take (i := 8) (oi := _) (v := .bool true) rfl (by kernel_rfl) (by kernel_rfl) (by kernel_rfl) (fun _ _ _ h => h) (Or.inl ⟨by kernel_rfl, fun _ _ => by kernel_rfl⟩) hS ?_
        refine wpAnyH_take (i := 9) (oi := _) (v := undef) rfl (by kernel_rfl) (by kernel_rfl) (by kernel_rfl) (fun _ _ _ h => h) (yields_no (by kernel_rfl)) hS ?_
        refine wpAnyH_take (i := 10) (oi := _) (v := undef) rfl (by kernel_rfl) (by kernel_rfl) (by kernel_rfl) (fun _ _ _ h => h) (yields_no (by kernel_rfl)) hS ?_
        refine wpAnyH_take (i := 11) (oi := _) (v := undef) rfl (by kernel_rfl) (by kernel_rfl) (by kernel_rfl) (fun _ _ _ h => h) (yields_no (by kernel_rfl)) hS ?_
        refine wpAnyH_take (i := 12) (oi := _) (v := undef) rfl (by kernel_rfl) (by kernel_rfl) (by kernel_rfl) (fun _ _ _ h => h) (yields_no (by kernel_rfl)) hS ?_
        refine wpAnyH_take (i := 13) (oi := _) (v := undef) rfl (by kernel_rfl) (by kernel_rfl) (by kernel_rfl) (fun _ _ _ h => h) (yields_no (by kernel_rfl)) hS ?_
        refine wpAnyH_take (i := 14) (oi := _) (v := undef) rfl (by kernel_rfl) (by kernel_rfl) (by kernel_rfl) (fun _ _ _ h => h) (yields_no (by kernel_rfl)) hS ?_
        refine wpAnyH_take (i := 15) (oi := _) (v := undef) rfl (by kernel_rfl) (by kernel_rfl) (by kernel_rfl) (fun _ _ _ h => h) (yields_no (by kernel_rfl)) hS ?_
        refine wpAnyH_take (i := 16) (oi := _) (v := .bool true) rfl (by kernel_rfl) (by kernel_rfl) (by kernel_rfl) (fun _ _ _ h => h) (Or.inl ⟨by kernel_rfl, fun _ _ => by kernel_rfl⟩) hS ?_
        refine wpAnyH_done (by kernel_rfl) ?_ _
        go_simp
        have HN := Lib.hid (HANY.out)
        clear HANY
        have hcr5 : W.drew.cell? ⟨w.heap.size + 1 + 1, 0, none⟩ = some (.bool false) := by simpa using hcr
        gi_wp2
        exact ⟨(LoopAt.ofExt (Ext.refl W).drew _).set (by simp) _ _, heap_set1 (W := W.drew) HRES.out, HN.out⟩
      · refine region_round (S := fun w' => w'.rangeAt w.heap.size 0 C ∧ w'.cell? ⟨w.heap.size + 1, 0, none⟩ = some (.int .i64 p)) (by kernel_rfl) (by kernel_rfl) (fun ⟨a, w, h⟩ => h) ⟨by simpa using HRG.out, by simpa using hs4⟩ (fun hS => ?_)
        refine wpAnyH_take (i := 0) (oi := _) (v := .bool true) rfl (by kernel_rfl) (by kernel_rfl) (by kernel_rfl) (fun _ _ _ h => h) (Or.inl ⟨by kernel_rfl, fun _ _ => by kernel_rfl⟩) hS ?_
        refine wpAnyH_take (i := 1) (oi := _) (v := .int .i64 (x.val : Int)) rfl (by kernel_rfl) (by kernel_rfl) (by kernel_rfl) (fun _ _ _ h => h) (Or.inl ⟨by kernel_rfl, fun _ _ => by kernel_rfl⟩) hS ?_
        refine wpAnyH_take (i := 2) (oi := _) (v := .pointer (some ⟨w.heap.size, 105, none⟩)) rfl (by kernel_rfl) (by kernel_rfl) (by kernel_rfl) (fun _ _ _ h => h) (yields_v (Instr.fieldAt 34 (.pointer (some ⟨w.heap.size, 0, none⟩)) 2) (by kernel_rfl) (by kernel_rfl) hfa) hS ?_
        refine wpAnyH_take (i := 3) (oi := _) (v := .pointer (some ⟨w.heap.size, 105 + x.val, none⟩)) rfl (by kernel_rfl) (by kernel_rfl) (by kernel_rfl) (fun _ _ _ h => h) (yields_v (Instr.indexAt 29 (.pointer (some ⟨w.heap.size, 105, none⟩)) (.int .i64 (x.val : Int))) (by kernel_rfl) (by kernel_rfl) hia) hS ?_
        refine wpAnyH_take (i := 4) (oi := _) (v := .int .i64 (t.conflict x.val)) rfl (by kernel_rfl) (by kernel_rfl) (by kernel_rfl) (fun _ _ _ h => h) (yields_v (Instr.loadAt 3 (.pointer (some ⟨w.heap.size, 105 + x.val, none⟩))) (by kernel_rfl) (by kernel_rfl) (fun W h => hl1 W _ _ (by simpa using h.1 _ _ HCX.out))) hS ?_
        refine wpAnyH_take (i := 5) (oi := _) (v := .int .i64 p) rfl (by kernel_rfl) (by kernel_rfl) (by kernel_rfl) (fun _ _ _ h => h) (yields_v (Instr.loadAt 3 (.pointer (some ⟨w.heap.size + 1, 0, none⟩))) (by kernel_rfl) (by kernel_rfl) (fun W h => hl1 W _ _ h.2)) hS ?_
        refine wpAnyH_call (i := 6) (f := 39) (args := #[.int .i64 (t.conflict x.val), .int .i64 p]) (v := .bool true) (by kernel_rfl) rfl (by kernel_rfl) (by kernel_rfl) (H2.out _) ?_
        rintro e w' ⟨rfl, rfl⟩
        refine ⟨rfl, hS, ?_⟩
        refine wpAnyH_take (i := 7) (oi := _) (v := .bool false) rfl (by kernel_rfl) (by kernel_rfl) (by kernel_rfl) (fun _ _ _ h => h) (Or.inl ⟨by kernel_rfl, fun _ _ => by kernel_rfl⟩) hS ?_
        refine wpAnyH_take (i := 8) (oi := _) (v := .bool false) rfl (by kernel_rfl) (by kernel_rfl) (by kernel_rfl) (fun _ _ _ h => h) (Or.inl ⟨by kernel_rfl, fun _ _ => by kernel_rfl⟩) hS ?_
        refine wpAnyH_take (i := 9) (oi := _) (v := .bool true) rfl (by kernel_rfl) (by kernel_rfl) (by kernel_rfl) (fun _ _ _ h => h) (Or.inl ⟨by kernel_rfl, fun _ _ => by kernel_rfl⟩) hS ?_
        refine wpAnyH_take (i := 10) (oi := _) (v := .bool true) rfl (by kernel_rfl) (by kernel_rfl) (by kernel_rfl) (fun _ _ _ h => h) (Or.inl ⟨by kernel_rfl, fun _ _ => by kernel_rfl⟩) hS ?_
        refine wpAnyH_take (i := 11) (oi := _) (v := .agg C.toArray) rfl (by kernel_rfl) (by kernel_rfl) (by kernel_rfl) (fun _ _ _ h => h) (yieldsIf_load_mid (by kernel_rfl) 34 (.tmp 3) rfl w.heap.size 0 (by kernel_rfl) C _ (fun _ h => h.1) Tryz.underlying34 rfl HSC2.out) hS ?_
        refine wpAnyH_take (i := 12) (oi := _) (v := .int .i64 p) rfl (by kernel_rfl) (by kernel_rfl) (by kernel_rfl) (fun _ _ _ h => h) (yields_v (Instr.loadAt 3 (.pointer (some ⟨w.heap.size + 1, 0, none⟩))) (by kernel_rfl) (by kernel_rfl) (fun W h => hl1 W _ _ h.2)) hS ?_
        refine wpAnyH_take (i := 13) (oi := _) (v := .int .i64 (x.val : Int)) rfl (by kernel_rfl) (by kernel_rfl) (by kernel_rfl) (fun _ _ _ h => h) (Or.inl ⟨by kernel_rfl, fun _ _ => by kernel_rfl⟩) hS ?_
        refine wpAnyH_call (i := 14) (f := 94) (args := #[.agg C.toArray, .int .i64 p, .int .i64 (x.val : Int)]) (v := .bool b3) (by kernel_rfl) rfl (by kernel_rfl) (by kernel_rfl) (H3.out _ (HXW.out.trans (Ext.refl _).drew)) ?_
        rintro e w5 ⟨rfl, hx5⟩
        have hlW : w.heap.size + 4 ≤ W.drew.heap.size := by show _ ≤ W.heap.size; omega
        have hS5 : w5.rangeAt w.heap.size 0 C ∧ w5.cell? ⟨w.heap.size + 1, 0, none⟩ = some (.int .i64 p) := ⟨rangeAt_ext hS.1 hx5 (show w.heap.size < W.drew.heap.size by omega), (hx5.cell (p := ⟨w.heap.size + 1, 0, none⟩) (show w.heap.size + 1 < W.drew.heap.size by omega)).trans hS.2⟩
        refine ⟨rfl, hS5, ?_⟩
        refine wpAnyH_take (i := 15) (oi := _) (v := .bool b3) rfl (by kernel_rfl) (by kernel_rfl) (by kernel_rfl) (fun _ _ _ h => h) (Or.inl ⟨by kernel_rfl, fun _ _ => by kernel_rfl⟩) hS5 ?_
        refine wpAnyH_take (i := 16) (oi := _) (v := .bool b3) rfl (by kernel_rfl) (by kernel_rfl) (by kernel_rfl) (fun _ _ _ h => h) (Or.inl ⟨by kernel_rfl, fun _ _ => by kernel_rfl⟩) hS5 ?_
        refine wpAnyH_done (by kernel_rfl) ?_ _
        go_simp
        have hr5 := (hx5.below.block (w.heap.size + 1 + 1) (show _ < W.drew.heap.size by omega)).trans (show W.drew.heap[w.heap.size + 1 + 1]? = _ from HRES.out)
        have hl5 := LoopAt.ofExt (((Ext.refl W).drew).trans hx5) [w.heap.size + 1 + 1]
        clear H3
        cases b3 with
        | false =>
          have HN := Lib.hid (HANY.out)
          clear HANY
          gi_wp2
          exact ⟨hl5, hr5, HN.out⟩
        | true =>
          have HN := Lib.hid (HANY.out)
          clear HANY
          have hcr5 := cell_box hr5
          have hfr5 := free_box hr5
          gi_wp2
          exact ⟨hl5.set (by simp) _ _, heap_set1 hr5, HN.out⟩
    case done =>
      rintro D W hD hL ⟨hres, hpre⟩ hK
      have hcr := cell_box hres
      have hfr := free_box hres
      have hne : D ≠ w.heap.size + 1 + 1 := by rintro rfl; rw [hres] at hK; cases hK
      have hr := HQ.out
      rw [hpre] at hr
      have HR := Lib.hid hr
      clear hpre hr
      gi_wp2
      rw [← HR.out]
      refine end_bool (R := w.heap.size + 1 + 1) (T := 4) rfl rfl (heap_set1 hres) ((hL.toExt hX3 (fun k hk => by simp at hk; omega)).set (by simp; omega) _) (by omega) ?_
      rw [Below.heap_setCell _ _ _ _ hne]; exact hK
    case stop =>
      rintro D pre W hD hp hL ⟨hres, hpre⟩ hK
      have hr := HQ.out
      rw [show (eachL on).any (fun q => confOne t p q.val) = true by
        rw [List.any_eq_true] at hpre ⊢
        obtain ⟨q, hq, h⟩ := hpre
        exact ⟨q, hp.subset hq, h⟩] at hr
      have HR := Lib.hid hr
      clear hpre hr
      gi_wp2
      rw [← HR.out]
      exact end_bool (R := w.heap.size + 1 + 1) (T := 4) rfl rfl hres (hL.toExt hX3 (fun k hk => by simp at hk; omega)) (by omega) hK
end Go.Proofs.YtpopnmelcplbbaaGreat
