/-
  bound: greatest. bound: clearance, Entry.
-/
import Derived.Laws.EntriesVeiled
import Derived.Test.YtpopnmelcplbbaaGreatGBoundA
import Derived.Test.YtpopnmelcplbbaaGreatEach
set_option linter.unusedVariables false
set_option linter.unusedSimpArgs false
namespace Go.Proofs.YtpopnmelcplbbaaGreat
open Go.RowKit Go.Shelf

attribute [local go_sem] Oper.semAt_some

def gUpto (t : Tab) (of_ : Ph → Int) (ps : List (Fin 8)) : Int := ps.foldl (fun n p => max n (cap (of_ (t.ph p.val)))) 0
def greatestS (t : Tab) (of_ : Ph → Int) : Int := gUpto t of_ (eachL (onS t))

set_option maxRecDepth 100000 in
set_option maxHeartbeats 4000000 in
theorem greatest_c (w : World) (gv dv rv bv : Value) (t : Tab) (f : FuncId) (hE : Enters f) (of_ : Ph → Int) (hC : ∀ x W, Calls Tryz.prog f #[.agg (Ph.cells x).toArray] W (Ret W (.int .i64 (of_ x)))) :
    Calls Tryz.prog 127 #[tabV t gv dv rv bv, .func (.func f) #[] #[]] w (Ret w (.int .i64 (greatestS t of_))) := by
  refine (callsIn_wide (n := 10)).1 ?_
  have hTB := (TB.new w t gv dv rv bv 34)
  have e1 := (Ext.refl (w.alloc (.cells (t.cells gv dv rv bv).toArray 34))).alloc (.cells #[.func (.func f) #[] #[]] 147)
  have e2 := e1.alloc (.cells #[.int .i64 0] 3)
  have hX := ((Ext.refl w).alloc (.cells (t.cells gv dv rv bv).toArray 34)).trans e2
  have hT1 := hTB.ext e2
  have hcf : (((w.alloc (.cells (t.cells gv dv rv bv).toArray 34)).alloc (.cells #[.func (.func f) #[] #[]] 147)).alloc (.cells #[.int .i64 0] 3)).cell? ⟨w.heap.size + 1, 0, none⟩ = some (.func (.func f) #[] #[]) := by
    refine (((Ext.refl _).alloc (.cells #[.int .i64 0] 3)).cell (p := ⟨w.heap.size + 1, 0, none⟩) (by simp)).trans ?_
    rw [World.cell?_alloc_at _ _ _ _ (by simp)]; rfl
  have hn1 : (((w.alloc (.cells (t.cells gv dv rv bv).toArray 34)).alloc (.cells #[.func (.func f) #[] #[]] 147)).alloc (.cells #[.int .i64 0] 3)).heap[w.heap.size + 1 + 1]? = some (.cells #[.int .i64 0] 3 (0, 0)) := by
    have := World.alloc_heap_new ((w.alloc (.cells (t.cells gv dv rv bv).toArray 34)).alloc (.cells #[.func (.func f) #[] #[]] 147)) (.cells #[.int .i64 0] 3); simpa using this
  have hsz : (((w.alloc (.cells (t.cells gv dv rv bv).toArray 34)).alloc (.cells #[.func (.func f) #[] #[]] 147)).alloc (.cells #[.int .i64 0] 3)).heap.size = w.heap.size + 3 := by simp
  have hon := On_c (((w.alloc (.cells (t.cells gv dv rv bv).toArray 34)).alloc (.cells #[.func (.func f) #[] #[]] 147)).alloc (.cells #[.int .i64 0] 3)) gv dv rv bv t
  have hs := table_sz t gv dv rv bv
  have hph := fun (q : Nat) (hq : q < 8) (j : Nat) (v : Value) (hj : (t.ph q).cells[j]? = some v) => t.cells_phs gv dv rv bv q hq j v hj
  unfold greatestS
  unfold tabV at hon ⊢
  have hrg := hT1.range
  generalize t.cells gv dv rv bv = C at hX hcf hn1 hsz hon hs hrg hph ⊢
  clear hTB hT1 e1 e2
  generalize onS t = on at hon ⊢
  have HON := Lib.hid (callsIn_wide (n := 9) |>.2 hon); clear hon
  have HS := Lib.hid hs; clear hs
  have HRG := Lib.hid hrg; clear hrg
  have HPH := Lib.hid hph; clear hph
  have hEa := fun W => callsIn_wide (n := 9) |>.2 (Each_c on W)
  have HE := Lib.hid hEa; clear hEa
  unfold Enters at hE
  have HC := Lib.hid hC; clear hC
  refine callsIn_of_wp_marks Tryz.func127 rfl trivial ?_ rfl
  simp only [Tryz.ntmps127, List.size_toArray, List.length_cons, List.length_nil, Nat.reduceAdd, Nat.reduceSub, Array.replicate_succ, Array.replicate_zero, List.push_toArray, List.append_toArray, List.nil_append, List.cons_append]
  gi_wp2_with (first
    | ((with_reducible refine atLoadIn 34 rfl ?_); refine wpListIn_loadG 34 _ rfl (by rfl) w.heap.size 0 rfl _ _ HRG.out Tryz.underlying34 rfl HS.out ?_)
    | (refine ⟨trivial, ?_⟩; gi_at_call 31; refine HON.out.mono ?_; rintro e w3 ⟨rfl, hx3⟩)
    | (refine ⟨trivial, ?_⟩; gi_at_call 30; refine (HE.out _).mono ?_; rintro e w4 ⟨rfl, rfl⟩))
  have hxe := (Ext.refl w3).alloc (.cells #[.int .i64 on] 3)
  have hlt3 : w.heap.size + 3 ≤ w3.heap.size := by have := hx3.size; omega
  have hb0 : (w3.alloc (.cells #[.int .i64 on] 3)).cell? ⟨w3.heap.size, 0, none⟩ = some (.int .i64 on) := by rw [World.cell?_alloc_at _ _ _ _ rfl]; rfl
  have hrg0 := rangeAt_ext (rangeAt_ext HRG.out hx3 (by omega)) hxe (by omega)
  have hcf0 := (hxe.cell (p := ⟨w.heap.size + 1, 0, none⟩) (show w.heap.size + 1 < w3.heap.size by omega)).trans ((hx3.cell (p := ⟨w.heap.size + 1, 0, none⟩) (by simp)).trans hcf)
  have hn0 := (hxe.below.block (w.heap.size + 1 + 1) (by omega)).trans ((hx3.below.block (w.heap.size + 1 + 1) (by simp)).trans hn1)
  have hX0 := (hX.trans hx3).trans hxe
  have hsz0 : (w3.alloc (.cells #[.int .i64 on] 3)).heap.size = w3.heap.size + 1 := by simp
  obtain ⟨bB, hbB⟩ : ∃ bB, w3.heap.size = bB := ⟨_, rfl⟩
  rw [hbB] at hb0 hsz0 hlt3 ⊢
  generalize w3.alloc (.cells #[.int .i64 on] 3) = W0 at hb0 hrg0 hcf0 hn0 hX0 hsz0 ⊢
  clear hxe hbB hx3 hX hcf hn1 hsz HRG HON HE
  refine each_loop on bB rfl hb0 (by omega) [w.heap.size + 1 + 1] (fun k hk => by simp at hk; omega) (by simp; omega)
    (fun pre W => W.heap[w.heap.size + 1 + 1]? = some (.cells #[.int .i64 (gUpto t of_ pre)] 3 (0, 0))) (fun _ _ => False)
    (fun pre W W' h hj => (h _ (by simp)).trans hj) (fun _ _ _ _ hj => hj) hn0
    (fun x => { tmps := #[.agg C.toArray, .func (.func f) #[] #[], .pointer (some ⟨w.heap.size, 0, none⟩), .pointer (some ⟨w.heap.size + 1, 0, none⟩), .int .i64 0, .pointer (some ⟨w.heap.size + 1 + 1, 0, none⟩), .int .i64 (x.val : Int), .agg C.toArray, .int .i64 on,
      .func (.func 85) #[] #[.pointer (some ⟨bB, 0, none⟩)], .int .i64 (x.val : Int), undef, undef, undef, undef, undef, undef, undef, undef, undef, undef], defers := [] }) ?assign ?body ?done ?stop
  case assign =>
    intro l x W K hK
    gi_wp2
    exact hK
  case body =>
    rintro l pre x W hL hn
    have hr4 : W.rangeAt w.heap.size 0 C := fun j v hj => (hL.cell (by omega) (by simp; omega)).trans (hrg0 j v hj)
    have hc4 := (hL.cell (b := w.heap.size + 1) (o := 0) (by omega) (by simp)).trans hcf0
    have hszW := hL.size
    have HGS := Lib.hid (show gUpto t of_ (pre ++ [x]) = max (gUpto t of_ pre) (cap (of_ (t.ph x.val))) by unfold gUpto; rw [List.foldl_append]; rfl)
    have hph := HPH.out x.val x.isLt
    have hcx := HC.out (t.ph x.val)
    have hxs : (Tryz.prog.info? 26).map (·.size) = some (t.ph x.val).cells.length := by rw [(t.ph x.val).len]; kernel_rfl
    generalize gUpto t of_ pre = g at HGS hn
    generalize hcap : cap (of_ (t.ph x.val)) = c at HGS
    generalize of_ (t.ph x.val) = v at hcx hcap
    generalize (t.ph x.val).cells = cs at hph hcx hxs
    have HCAP := Lib.hid hcap; clear hcap
    have HN := Lib.hid hn; clear hn
    have HCX := Lib.hid hcx; clear hcx
    have HXS := Lib.hid hxs; clear hxs
    have HPH2 := Lib.hid hph; clear hph
    have x0 : (0 : Int) ≤ (x.val : Int) := by omega
    have x1 : (x.val : Int) < 8 := by omega
    clear hrg0 hcf0 hn0 hb0 HPH HC HS
    gi_wp2
    refine region_round (S := fun w' : World => w'.rangeAt w.heap.size 0 C ∧ w'.cell? ⟨w.heap.size + 1, 0, none⟩ = some (.func (.func f) #[] #[])) (by kernel_rfl) (by kernel_rfl) (fun ⟨a, w, h⟩ => h) ⟨by simpa using hr4, by simpa using hc4⟩ (fun hS => ?_)
    refine wpAnyH_take (i := 1) (oi := _) (v := .func (.func f) #[] #[]) rfl (by kernel_rfl) (by kernel_rfl) (by kernel_rfl) (fun _ _ _ h => h) (yields_v (Instr.loadAt 147 (.pointer (some ⟨w.heap.size + 1, 0, none⟩))) (by kernel_rfl) (by kernel_rfl) (fun W h => by have h2 := h.2; clear h; go_simp)) hS ?_
    refine wpAnyH_take (i := 2) (oi := _) (v := .int .i64 (x.val : Int)) rfl (by kernel_rfl) (by kernel_rfl) (by kernel_rfl) (fun _ _ _ h => h) (Or.inl ⟨by kernel_rfl, fun _ _ => by kernel_rfl⟩) hS ?_
    refine wpAnyH_take (i := 3) (oi := _) (v := .pointer (some ⟨w.heap.size, 0, none⟩)) rfl (by kernel_rfl) (by kernel_rfl) (by kernel_rfl) (fun _ _ _ h => h) (yields_v (Instr.fieldAt 34 (.pointer (some ⟨w.heap.size, 0, none⟩)) 0) (by kernel_rfl) (by kernel_rfl) (fun w' _ => by go_simp)) hS ?_
    refine wpAnyH_take (i := 4) (oi := _) (v := .pointer (some ⟨w.heap.size, x.val * 13, none⟩)) rfl (by kernel_rfl) (by kernel_rfl) (by kernel_rfl) (fun _ _ _ h => h) (yields_v (Instr.indexAt 27 (.pointer (some ⟨w.heap.size, 0, none⟩)) (.int .i64 (x.val : Int))) (by kernel_rfl) (by kernel_rfl) (fun w' _ => by go_simp)) hS ?_
    refine wpAnyH_take (i := 5) (oi := _) (v := .agg (cs).toArray) rfl (by kernel_rfl) (by kernel_rfl) (by kernel_rfl) (fun _ _ _ h => h) (yieldsIf_load_mid (by kernel_rfl) 26 (.tmp 15) rfl w.heap.size (x.val * 13) (by kernel_rfl) (cs) _ (fun _ h => (fun j v hj => range_cell h.1 (HPH2.out j v hj))) Tryz.underlying26 rfl HXS.out) hS ?_
    refine wpAnyH_two (i := 0) (k := 6) (by kernel_rfl) ?_ ?_
    · refine wpOp_val (.int .i64 g) (W.drew) rfl (by kernel_rfl) (Instr.loadAt 3 (.pointer (some ⟨w.heap.size + 1 + 1, 0, none⟩))) (by kernel_rfl) (load_int (cell_box (show W.drew.heap[w.heap.size + 1 + 1]? = _ from HN.out))) ⟨hS, ?_⟩
      refine wpAnyH_one (i := 6) (by kernel_rfl) ?_
      refine wpOp_call (f := f) (args := #[.agg cs.toArray]) (v := .int .i64 v) rfl (by kernel_rfl) (Eq.trans (b := (callFunc f #[.agg cs.toArray]).run Tryz.prog _) (by kernel_rfl) (hE _ _)) (HCX.out _) ?_
      rintro e w5 ⟨rfl, hx5⟩
      have hlW : w.heap.size + 3 ≤ W.drew.heap.size := show w.heap.size + 3 ≤ W.heap.size by omega
      have HXX := Lib.hid ((Ext.refl W).drew.trans hx5)
      have hb5 := (hx5.below.block (w.heap.size + 1 + 1) (show _ < W.drew.heap.size by omega)).trans (show W.drew.heap[w.heap.size + 1 + 1]? = _ from HN.out)
      have hS5 : (fun w' : World => w'.rangeAt w.heap.size 0 C ∧ w'.cell? ⟨w.heap.size + 1, 0, none⟩ = some (.func (.func f) #[] #[])) w5 := ⟨rangeAt_ext hS.1 hx5 (show w.heap.size < W.drew.heap.size by omega), (hx5.cell (p := ⟨w.heap.size + 1, 0, none⟩) (show w.heap.size + 1 < W.drew.heap.size by omega)).trans hS.2⟩
      refine ⟨rfl, hS5, ?_⟩
      refine wpAnyH_one (i := 7) (by kernel_rfl) ?_
      refine wpOp_call (f := 126) (args := #[.int .i64 v]) (v := .int .i64 c) rfl (by kernel_rfl) (by kernel_rfl) (Cap_c _ _) ?_
      rw [HCAP.out]
      rintro e w6 ⟨rfl, rfl⟩
      refine ⟨rfl, hS5, ?_⟩
      refine wpAnyH_take (i := 8) (oi := _) (v := .int .i64 (max g c)) rfl (by kernel_rfl) (by kernel_rfl) (by kernel_rfl) (fun _ _ _ h => h) (Or.inl ⟨by kernel_rfl, fun W _ => by go_simp⟩) hS5 ?_
      refine wpAnyH_one (i := 9) (by kernel_rfl) ?_
      have hbx : (w5).heap[w.heap.size + 1 + 1]? = some (.cells #[.int .i64 g] 3 (0, 0)) := hb5
      have hS9 : (fun w' : World => w'.rangeAt w.heap.size 0 C ∧ w'.cell? ⟨w.heap.size + 1, 0, none⟩ = some (.func (.func f) #[] #[])) ((w5).setCell ⟨w.heap.size + 1 + 1, 0, none⟩ (.int .i64 (max g c))) := ⟨rangeAt_far hS5.1 (by omega) _, cell_far hS5.2 (by omega) _⟩
      refine wpOp_unit ((w5).setCell ⟨w.heap.size + 1 + 1, 0, none⟩ (.int .i64 (max g c))) rfl (by kernel_rfl) (Instr.storeAt 3 (.pointer (some ⟨w.heap.size + 1 + 1, 0, none⟩)) (.int .i64 (max g c))) (by kernel_rfl) (store_int _ (cell_box hbx) (free_box hbx)) ⟨hS9, ?_⟩
      refine wpAnyH_done (by kernel_rfl) ?_ _
      go_simp
      gi_wp2
      exact ⟨(LoopAt.ofExt HXX.out _).set (by simp) _ _, by dsimp only; rw [HGS.out]; exact heap_set1 hbx⟩
    · refine wpOp_call (f := f) (args := #[.agg cs.toArray]) (v := .int .i64 v) rfl (by kernel_rfl) (Eq.trans (b := (callFunc f #[.agg cs.toArray]).run Tryz.prog _) (by kernel_rfl) (hE _ _)) (HCX.out _) ?_
      rintro e w5 ⟨rfl, hx5⟩
      have hlW : w.heap.size + 3 ≤ W.drew.heap.size := show w.heap.size + 3 ≤ W.heap.size by omega
      have HXX := Lib.hid ((Ext.refl W).drew.trans hx5)
      have hb5 := (hx5.below.block (w.heap.size + 1 + 1) (show _ < W.drew.heap.size by omega)).trans (show W.drew.heap[w.heap.size + 1 + 1]? = _ from HN.out)
      have hS5 : (fun w' : World => w'.rangeAt w.heap.size 0 C ∧ w'.cell? ⟨w.heap.size + 1, 0, none⟩ = some (.func (.func f) #[] #[])) w5 := ⟨rangeAt_ext hS.1 hx5 (show w.heap.size < W.drew.heap.size by omega), (hx5.cell (p := ⟨w.heap.size + 1, 0, none⟩) (show w.heap.size + 1 < W.drew.heap.size by omega)).trans hS.2⟩
      refine ⟨rfl, hS5, ?_⟩
      refine wpAnyH_two (i := 0) (k := 7) (by kernel_rfl) ?_ ?_
      · refine wpOp_val (.int .i64 g) (w5) rfl (by kernel_rfl) (Instr.loadAt 3 (.pointer (some ⟨w.heap.size + 1 + 1, 0, none⟩))) (by kernel_rfl) (load_int (cell_box hb5)) ⟨hS5, ?_⟩
        refine wpAnyH_one (i := 7) (by kernel_rfl) ?_
        refine wpOp_call (f := 126) (args := #[.int .i64 v]) (v := .int .i64 c) rfl (by kernel_rfl) (by kernel_rfl) (Cap_c _ _) ?_
        rw [HCAP.out]
        rintro e w6 ⟨rfl, rfl⟩
        refine ⟨rfl, hS5, ?_⟩
        refine wpAnyH_take (i := 8) (oi := _) (v := .int .i64 (max g c)) rfl (by kernel_rfl) (by kernel_rfl) (by kernel_rfl) (fun _ _ _ h => h) (Or.inl ⟨by kernel_rfl, fun W _ => by go_simp⟩) hS5 ?_
        refine wpAnyH_one (i := 9) (by kernel_rfl) ?_
        have hbx : (w5).heap[w.heap.size + 1 + 1]? = some (.cells #[.int .i64 g] 3 (0, 0)) := hb5
        have hS9 : (fun w' : World => w'.rangeAt w.heap.size 0 C ∧ w'.cell? ⟨w.heap.size + 1, 0, none⟩ = some (.func (.func f) #[] #[])) ((w5).setCell ⟨w.heap.size + 1 + 1, 0, none⟩ (.int .i64 (max g c))) := ⟨rangeAt_far hS5.1 (by omega) _, cell_far hS5.2 (by omega) _⟩
        refine wpOp_unit ((w5).setCell ⟨w.heap.size + 1 + 1, 0, none⟩ (.int .i64 (max g c))) rfl (by kernel_rfl) (Instr.storeAt 3 (.pointer (some ⟨w.heap.size + 1 + 1, 0, none⟩)) (.int .i64 (max g c))) (by kernel_rfl) (store_int _ (cell_box hbx) (free_box hbx)) ⟨hS9, ?_⟩
        refine wpAnyH_done (by kernel_rfl) ?_ _
        go_simp
        gi_wp2
        exact ⟨(LoopAt.ofExt HXX.out _).set (by simp) _ _, by dsimp only; rw [HGS.out]; exact heap_set1 hbx⟩
      · refine wpOp_call (f := 126) (args := #[.int .i64 v]) (v := .int .i64 c) rfl (by kernel_rfl) (by kernel_rfl) (Cap_c _ _) ?_
        rw [HCAP.out]
        rintro e w6 ⟨rfl, rfl⟩
        refine ⟨rfl, hS5, ?_⟩
        refine wpAnyH_one (i := 0) (by kernel_rfl) ?_
        refine wpOp_val (.int .i64 g) (w5) rfl (by kernel_rfl) (Instr.loadAt 3 (.pointer (some ⟨w.heap.size + 1 + 1, 0, none⟩))) (by kernel_rfl) (load_int (cell_box hb5)) ⟨hS5, ?_⟩
        refine wpAnyH_take (i := 8) (oi := _) (v := .int .i64 (max g c)) rfl (by kernel_rfl) (by kernel_rfl) (by kernel_rfl) (fun _ _ _ h => h) (Or.inl ⟨by kernel_rfl, fun W _ => by go_simp⟩) hS5 ?_
        refine wpAnyH_one (i := 9) (by kernel_rfl) ?_
        have hbx : (w5).heap[w.heap.size + 1 + 1]? = some (.cells #[.int .i64 g] 3 (0, 0)) := hb5
        have hS9 : (fun w' : World => w'.rangeAt w.heap.size 0 C ∧ w'.cell? ⟨w.heap.size + 1, 0, none⟩ = some (.func (.func f) #[] #[])) ((w5).setCell ⟨w.heap.size + 1 + 1, 0, none⟩ (.int .i64 (max g c))) := ⟨rangeAt_far hS5.1 (by omega) _, cell_far hS5.2 (by omega) _⟩
        refine wpOp_unit ((w5).setCell ⟨w.heap.size + 1 + 1, 0, none⟩ (.int .i64 (max g c))) rfl (by kernel_rfl) (Instr.storeAt 3 (.pointer (some ⟨w.heap.size + 1 + 1, 0, none⟩)) (.int .i64 (max g c))) (by kernel_rfl) (store_int _ (cell_box hbx) (free_box hbx)) ⟨hS9, ?_⟩
        refine wpAnyH_done (by kernel_rfl) ?_ _
        go_simp
        gi_wp2
        exact ⟨(LoopAt.ofExt HXX.out _).set (by simp) _ _, by dsimp only; rw [HGS.out]; exact heap_set1 hbx⟩
  case done =>
    rintro D W hD hL hn hK
    have hcn := cell_box hn
    have hXW := hL.toExt hX0 (fun k hk => by simp at hk; omega)
    gi_wp2
    exact end_int rfl rfl hXW (by omega) hK
  case stop =>
    rintro D pre W hD hp hL hf hK
    exact hf.elim
end Go.Proofs.YtpopnmelcplbbaaGreat
namespace Go.Proofs.YtpopnmelcplbbaaGreat
open Go.RowKit

def clearS (t : Tab) : Int := greatestS t clearOne
def leastS (t : Tab) : Int := greatestS t leastOne
def entryR (t : Tab) (r : Ra) : Int := sumL [r.delay, r.hold, satMul 2 r.green, satMul 3 r.foot, satMul 5 (clearS t), satMul 3 t.revert, 60]
def entryS (t : Tab) (k : Nat) : Int := entryR t (t.rails.getD k default)

theorem clearance_c (w : World) (gv dv rv bv : Value) (t : Tab) : Calls Tryz.prog 92 #[tabV t gv dv rv bv] w (Ret w (.int .i64 (clearS t))) := by
  have hx0 := (Ext.refl w).alloc (.cells (t.cells gv dv rv bv).toArray 34)
  have hrg := (TB.new w t gv dv rv bv 34).range
  have hs := table_sz t gv dv rv bv
  have he : Enters 130 := fun args w => by kernel_rfl
  have hc := greatest_c (w.alloc (.cells (t.cells gv dv rv bv).toArray 34)) gv dv rv bv t 130 he clearOne (fun x W => clear1_c x W)
  unfold clearS
  unfold tabV at hc ⊢
  generalize t.cells gv dv rv bv = C at hx0 hrg hs hc ⊢
  generalize greatestS t clearOne = g at hc ⊢
  have H := Lib.hid hc; clear hc he
  have HS := Lib.hid hs; clear hs
  have HRG := Lib.hid hrg; clear hrg
  have HX := Lib.hid hx0; clear hx0
  go_enter Tryz.func92, Tryz.ntmps92
  go_wp2_with ((with_reducible refine atLoad 34 rfl ?_); refine wpList_load_mid rfl 34 _ rfl _ _ rfl _ _ HRG.out Tryz.underlying34 rfl HS.out ?_)
  refine H.out.mono ?_
  rintro e w1 ⟨rfl, hx1⟩
  go_wp2
  go_ret
  exact ⟨rfl, HX.out.trans hx1⟩

set_option maxRecDepth 100000 in
set_option maxHeartbeats 4000000 in
theorem Entry_c (w : World) (gv dv rv bv : Value) (t : Tab) (hT : TabAt w gv dv rv bv t) (k : Nat) (hk : k < t.rails.length) : Calls Tryz.prog 34 #[tabV t gv dv rv bv, .int .i64 k] w (Ret w (.int .i64 (entryS t k))) := by
  have hx0 := (Ext.refl w).alloc (.cells (t.cells gv dv rv bv).toArray 34)
  have hTB := TB.new w t gv dv rv bv 34
  have hrl := hT.rl
  have hc114 := hTB.cell (t.c114 gv dv rv bv)
  have hrg := hTB.range
  have hs := table_sz t gv dv rv bv
  have c119 := t.c119 gv dv rv bv
  have hcl := fun W => clearance_c W gv dv rv bv t
  obtain ⟨a, cp, rfl, hrow⟩ := hT.r
  rcases hrow with ⟨h0, _⟩ | ⟨b, off, rfl, hb, hrc⟩
  · omega
  have hrr : (w.alloc (.cells (t.cells gv dv (.slice (some ⟨b, off, none⟩) t.rails.length cp) bv).toArray 34)).rangeAt b (off + k * 11) (t.rails[k]).cells := fun j v hj => by
    rw [Nat.add_assoc]
    exact (hx0.cell (p := ⟨b, off + (k * 11 + j), none⟩) hb).trans (hrc (k * 11 + j) v (flat_get Ra.cells 11 t.rails (fun _ _ => rfl) k hk j v hj))
  clear hrc
  have hent : entryS t k = entryR t t.rails[k] := by unfold entryS; rw [List.getD_eq_getElem?_getD, List.getElem?_eq_getElem hk]; rfl
  rw [hent]
  clear hent
  have k0 : (0 : Int) ≤ (k : Int) := by omega
  have k1 : (k : Int) < (t.rails.length : Int) := by omega
  have k2 : decide ((t.rails.length : Int) ≤ (k : Int)) = false := by simp; omega
  have k3 : decide ((k : Int) < 0) = false := by simp
  unfold entryR
  unfold tabV at hcl ⊢
  generalize t.cells gv dv (.slice (some ⟨b, off, none⟩) t.rails.length cp) bv = C at hx0 hc114 hrg hs c119 hcl hrr ⊢
  clear hTB
  have x4 : (t.rails[k]).cells[4]? = some (.int .i64 (t.rails[k]).delay) := rfl
  have x5 : (t.rails[k]).cells[5]? = some (.int .i64 (t.rails[k]).green) := rfl
  have x6 : (t.rails[k]).cells[6]? = some (.int .i64 (t.rails[k]).foot) := rfl
  have x7 : (t.rails[k]).cells[7]? = some (.int .i64 (t.rails[k]).hold) := rfl
  have hxs : (Tryz.prog.info? 72).map (·.size) = some (t.rails[k]).cells.length := by rw [(t.rails[k]).len]; kernel_rfl
  have hxs2 : (Tryz.prog.info? 72).map (·.size) = some (t.rails[k]).cells.toArray.size := by rw [List.size_toArray, (t.rails[k]).len]; kernel_rfl
  have hone : (t.rails[k]).cells.toArray.all (·.oneCell') = true := all_oneCell_toArray (by simp [Ra.cells, Value.oneCell'])
  have hl11 : (t.rails[k]).cells.toArray.size = 11 := rfl
  generalize (t.rails[k]).delay = fdel at x4 ⊢
  generalize (t.rails[k]).green = fgre at x5 ⊢
  generalize (t.rails[k]).foot = ffoo at x6 ⊢
  generalize (t.rails[k]).hold = fhol at x7 ⊢
  generalize (t.rails[k]).cells = cs at x4 x5 x6 x7 hxs hxs2 hone hrr hl11
  generalize t.revert = frev at c119 ⊢
  generalize clearS t = fcl at hcl ⊢
  have HCL := Lib.hid hcl; clear hcl
  have HS := Lib.hid hs; clear hs
  have HRG := Lib.hid hrg; clear hrg
  have HRR := Lib.hid hrr; clear hrr
  have HX := Lib.hid hx0; clear hx0
  have HXS := Lib.hid hxs; clear hxs
  have HXS2 := Lib.hid hxs2; clear hxs2
  have HONE := Lib.hid hone; clear hone
  have HL11 := Lib.hid hl11; clear hl11
  go_enter Tryz.func34, Tryz.ntmps34
  go_wp2_with (first
    | ((with_reducible refine atLoad 72 rfl ?_); refine wpList_load_mid rfl 72 _ rfl _ _ rfl _ _ HRR.out Tryz.underlying72 rfl HXS.out ?_)
    | ((with_reducible refine atStore 72 rfl ?_); refine wpList_store_new 72 _ _ rfl rfl (w.alloc (.cells C.toArray 34)) _ cs.toArray rfl (w.heap.size + 1) rfl (by simp) rfl HXS2.out HL11.out.symm HONE.out (halt ?_)))
  unfold Halt
  have hr5 : ((w.alloc (.cells C.toArray 34)).alloc (.cells cs.toArray 72)).rangeAt (w.heap.size + 1) 0 cs := by
    have := rangeAt_new (w.alloc (.cells C.toArray 34)) cs 72
    rwa [World.size_alloc] at this
  have hrt : ((w.alloc (.cells C.toArray 34)).alloc (.cells cs.toArray 72)).rangeAt w.heap.size 0 C := rangeAt_ext HRG.out ((Ext.refl _).alloc _) (by simp)
  have hX5 := HX.out.alloc (.cells cs.toArray 72)
  have hsz5 : ((w.alloc (.cells C.toArray 34)).alloc (.cells cs.toArray 72)).heap.size = w.heap.size + 2 := by simp
  try rw [World.size_alloc]
  generalize (w.alloc (.cells C.toArray 34)).alloc (.cells cs.toArray 72) = W at hr5 hrt hX5 hsz5 ⊢
  clear HRG HRR HXS2 HONE HXS HL11 hc114
  go_wp2
  refine wp_region_held_drew (S := fun w' => w'.rangeAt w.heap.size 0 C ∧ w'.rangeAt (w.heap.size + 1) 0 cs) (by kernel_rfl) ⟨by simpa using hrt, by simpa using hr5⟩ (fun hS => ?_)
  refine wpAnyH_take (i := 0) (oi := _) (v := .pointer (some ⟨w.heap.size + 1, 4, none⟩)) rfl (by kernel_rfl) (by kernel_rfl) (by kernel_rfl) (fun _ _ _ h => h) (yields_v (Instr.fieldAt 72 (.pointer (some ⟨w.heap.size + 1, 0, none⟩)) 4) (by kernel_rfl) (by kernel_rfl) (fun w' _ => by go_simp)) hS ?_
  refine wpAnyH_take (i := 1) (oi := _) (v := .int .i64 fdel) rfl (by kernel_rfl) (by kernel_rfl) (by kernel_rfl) (fun _ _ _ h => h) (yields_v (Instr.loadAt 3 (.pointer (some ⟨w.heap.size + 1, 4, none⟩))) (by kernel_rfl) (by kernel_rfl) (fun W h => load_int (range_cell h.2 x4))) hS ?_
  refine wpAnyH_take (i := 2) (oi := _) (v := .pointer (some ⟨w.heap.size + 1, 7, none⟩)) rfl (by kernel_rfl) (by kernel_rfl) (by kernel_rfl) (fun _ _ _ h => h) (yields_v (Instr.fieldAt 72 (.pointer (some ⟨w.heap.size + 1, 0, none⟩)) 7) (by kernel_rfl) (by kernel_rfl) (fun w' _ => by go_simp)) hS ?_
  refine wpAnyH_take (i := 3) (oi := _) (v := .int .i64 fhol) rfl (by kernel_rfl) (by kernel_rfl) (by kernel_rfl) (fun _ _ _ h => h) (yields_v (Instr.loadAt 3 (.pointer (some ⟨w.heap.size + 1, 7, none⟩))) (by kernel_rfl) (by kernel_rfl) (fun W h => load_int (range_cell h.2 x7))) hS ?_
  refine wpAnyH_take (i := 4) (oi := _) (v := .pointer (some ⟨w.heap.size + 1, 5, none⟩)) rfl (by kernel_rfl) (by kernel_rfl) (by kernel_rfl) (fun _ _ _ h => h) (yields_v (Instr.fieldAt 72 (.pointer (some ⟨w.heap.size + 1, 0, none⟩)) 5) (by kernel_rfl) (by kernel_rfl) (fun w' _ => by go_simp)) hS ?_
  refine wpAnyH_take (i := 5) (oi := _) (v := .int .i64 fgre) rfl (by kernel_rfl) (by kernel_rfl) (by kernel_rfl) (fun _ _ _ h => h) (yields_v (Instr.loadAt 3 (.pointer (some ⟨w.heap.size + 1, 5, none⟩))) (by kernel_rfl) (by kernel_rfl) (fun W h => load_int (range_cell h.2 x5))) hS ?_
  refine wpAnyH_take (i := 7) (oi := _) (v := .pointer (some ⟨w.heap.size + 1, 6, none⟩)) rfl (by kernel_rfl) (by kernel_rfl) (by kernel_rfl) (fun _ _ _ h => h) (yields_v (Instr.fieldAt 72 (.pointer (some ⟨w.heap.size + 1, 0, none⟩)) 6) (by kernel_rfl) (by kernel_rfl) (fun w' _ => by go_simp)) hS ?_
  refine wpAnyH_take (i := 8) (oi := _) (v := .int .i64 ffoo) rfl (by kernel_rfl) (by kernel_rfl) (by kernel_rfl) (fun _ _ _ h => h) (yields_v (Instr.loadAt 3 (.pointer (some ⟨w.heap.size + 1, 6, none⟩))) (by kernel_rfl) (by kernel_rfl) (fun W h => load_int (range_cell h.2 x6))) hS ?_
  refine wpAnyH_take (i := 10) (oi := _) (v := .agg (C).toArray) rfl (by kernel_rfl) (by kernel_rfl) (by kernel_rfl) (fun _ _ _ h => h) (yieldsIf_load_mid (by kernel_rfl) 34 (.tmp 2) rfl w.heap.size (0) (by kernel_rfl) (C) _ (fun _ h => h.1) Tryz.underlying34 rfl HS.out) hS ?_
  refine wpAnyH_take (i := 13) (oi := _) (v := .pointer (some ⟨w.heap.size, 119, none⟩)) rfl (by kernel_rfl) (by kernel_rfl) (by kernel_rfl) (fun _ _ _ h => h) (yields_v (Instr.fieldAt 34 (.pointer (some ⟨w.heap.size, 0, none⟩)) 9) (by kernel_rfl) (by kernel_rfl) (fun w' _ => by go_simp)) hS ?_
  refine wpAnyH_take (i := 14) (oi := _) (v := .int .i64 frev) rfl (by kernel_rfl) (by kernel_rfl) (by kernel_rfl) (fun _ _ _ h => h) (yields_v (Instr.loadAt 3 (.pointer (some ⟨w.heap.size, 119, none⟩))) (by kernel_rfl) (by kernel_rfl) (fun W h => load_int (range_cell h.1 c119))) hS ?_
  refine wpAnyH_call (i := 6) (f := 89) (args := #[.int .i64 2, .int .i64 fgre]) (v := .int .i64 (satMul 2 fgre)) (by kernel_rfl) rfl (by kernel_rfl) (by kernel_rfl) (Mul_c _ _ _) ?_
  rintro e w5 ⟨rfl, rfl⟩
  refine ⟨rfl, hS, ?_⟩
  refine wpAnyH_call (i := 9) (f := 89) (args := #[.int .i64 3, .int .i64 ffoo]) (v := .int .i64 (satMul 3 ffoo)) (by kernel_rfl) rfl (by kernel_rfl) (by kernel_rfl) (Mul_c _ _ _) ?_
  rintro e w5 ⟨rfl, rfl⟩
  refine ⟨rfl, hS, ?_⟩
  refine wpAnyH_call (i := 11) (f := 92) (args := #[.agg C.toArray]) (v := .int .i64 fcl) (by kernel_rfl) rfl (by kernel_rfl) (by kernel_rfl) (HCL.out _) ?_
  rintro e w5 ⟨rfl, hx5⟩
  have hlW : w.heap.size + 2 ≤ W.drew.heap.size := show w.heap.size + 2 ≤ W.heap.size by omega
  have hS5 : (fun w' : World => w'.rangeAt w.heap.size 0 C ∧ w'.rangeAt (w.heap.size + 1) 0 cs) w5 := ⟨rangeAt_ext hS.1 hx5 (by omega), rangeAt_ext hS.2 hx5 (by omega)⟩
  refine ⟨rfl, hS5, ?_⟩
  refine wpAnyH_call (i := 12) (f := 89) (args := #[.int .i64 5, .int .i64 fcl]) (v := .int .i64 (satMul 5 fcl)) (by kernel_rfl) rfl (by kernel_rfl) (by kernel_rfl) (Mul_c _ _ _) ?_
  rintro e w6 ⟨rfl, rfl⟩
  refine ⟨rfl, hS5, ?_⟩
  refine wpAnyH_call (i := 15) (f := 89) (args := #[.int .i64 3, .int .i64 frev]) (v := .int .i64 (satMul 3 frev)) (by kernel_rfl) rfl (by kernel_rfl) (by kernel_rfl) (Mul_c _ _ _) ?_
  rintro e w6 ⟨rfl, rfl⟩
  refine ⟨rfl, hS5, ?_⟩
  have hl5 : w.heap.size + 2 ≤ w5.heap.size := Nat.le_trans hlW hx5.size
  have hS6 : (fun w' : World => w'.rangeAt w.heap.size 0 C ∧ w'.rangeAt (w.heap.size + 1) 0 cs) (w5.alloc (.cells #[.int .i64 fdel, .int .i64 fhol, .int .i64 (satMul 2 fgre), .int .i64 (satMul 3 ffoo), .int .i64 (satMul 5 fcl), .int .i64 (satMul 3 frev), .int .i64 60] 3)) := ⟨rangeAt_ext hS5.1 ((Ext.refl w5).alloc _) (by omega), rangeAt_ext hS5.2 ((Ext.refl w5).alloc _) (by omega)⟩
  refine wpAnyH_step (i := 16) (.slice (some ⟨w5.heap.size, 0, none⟩) 7 7) (w5.alloc (.cells #[.int .i64 fdel, .int .i64 fhol, .int .i64 (satMul 2 fgre), .int .i64 (satMul 3 ffoo), .int .i64 (satMul 5 fcl), .int .i64 (satMul 3 frev), .int .i64 60] 3)) (by kernel_rfl) rfl (by kernel_rfl) (Instr.buildSlice 64 7 #[(0, .int .i64 fdel), (1, .int .i64 fhol), (2, .int .i64 (satMul 2 fgre)), (3, .int .i64 (satMul 3 ffoo)), (4, .int .i64 (satMul 5 fcl)), (5, .int .i64 (satMul 3 frev)), (6, .int .i64 60)]) (by kernel_rfl) (by go_simp) hS6 ?_
  have hsm := Sum_c (w5.alloc (.cells #[.int .i64 fdel, .int .i64 fhol, .int .i64 (satMul 2 fgre), .int .i64 (satMul 3 ffoo), .int .i64 (satMul 5 fcl), .int .i64 (satMul 3 frev), .int .i64 60] 3)) (.slice (some ⟨w5.heap.size, 0, none⟩) 7 7) [fdel, fhol, satMul 2 fgre, satMul 3 ffoo, satMul 5 fcl, satMul 3 frev, 60] (by exact rowIn_at _ _ _ _ _ (by first | rfl | simp)) (by simp)
  refine wpAnyH_call (i := 17) (f := 90) (args := #[.slice (some ⟨w5.heap.size, 0, none⟩) 7 7]) (v := .int .i64 (sumL [fdel, fhol, satMul 2 fgre, satMul 3 ffoo, satMul 5 fcl, satMul 3 frev, 60])) (by kernel_rfl) rfl (by kernel_rfl) (by kernel_rfl) (hsm) ?_
  rintro e w7 ⟨rfl, hx7⟩
  have hS7 : (fun w' : World => w'.rangeAt w.heap.size 0 C ∧ w'.rangeAt (w.heap.size + 1) 0 cs) w7 := ⟨rangeAt_ext hS6.1 hx7 (by simp; omega), rangeAt_ext hS6.2 hx7 (by simp; omega)⟩
  refine ⟨rfl, hS7, ?_⟩
  refine wpAnyH_take (i := 18) (oi := _) (v := .int .i64 (sumL [fdel, fhol, satMul 2 fgre, satMul 3 ffoo, satMul 5 fcl, satMul 3 frev, 60])) rfl (by kernel_rfl) (by kernel_rfl) (by kernel_rfl) (fun _ _ _ h => h) (Or.inl ⟨by kernel_rfl, fun _ _ => by kernel_rfl⟩) hS7 ?_
  clear hsm
  refine wpAnyH_done (by kernel_rfl) ?_ _
  go_simp
  go_wp2
  go_ret
  exact ⟨rfl, (hX5.drew.trans hx5).trans (((Ext.refl w5).alloc _).trans hx7)⟩
end Go.Proofs.YtpopnmelcplbbaaGreat
