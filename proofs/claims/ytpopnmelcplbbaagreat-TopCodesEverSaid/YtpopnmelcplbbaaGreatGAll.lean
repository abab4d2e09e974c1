/-
  bound: bad; the ends of All. bound: All.
-/
import Derived.Test.YtpopnmelcplbbaaGreatGBoundD
import Derived.Test.YtpopnmelcplbbaaGreatCheck
import Derived.Test.YtpopnmelcplbbaaGreatGDecode
set_option linter.unusedVariables false
set_option linter.unusedSimpArgs false
namespace Go.Proofs.YtpopnmelcplbbaaGreat
open Go.RowKit

def zeros12 : List Int := List.replicate 12 0
def boundsA (l : List Int) : Value := .agg (ints l).toArray

theorem list_round {P : Program} {ops : Array Oper} {Q : Exit → Act → World → Prop} {l n : Nat} (hno : ¬ LetsOut Q) : ∀ (rest : List Oper) (a : Act) (w : World), (∀ o ∈ rest, ∀ c, o.op ≠ .defer c) → wpList P ops Q rest a w → wpListIn (Fence.wide.inRound l) n P ops Q rest a w
  | [], _, _, _, h => h
  | o :: rest, a, w, hd, h => by
    unfold wpList at h
    unfold wpListIn
    split
    · rename_i hw
      rw [if_pos hw] at h
      rcases h with h | ⟨_, h⟩
      · exact oper_round (hd o (by simp)) (fun a' w' h' => list_round hno rest a' w' (fun o' ho' => hd o' (by simp [ho'])) h') h
      · exact absurd h hno
    · rename_i hw
      rw [if_neg hw] at h
      exact ⟨fun _ _ => trivial, list_round hno rest _ _ (fun o' ho' => hd o' (by simp [ho'])) h⟩

theorem region_list {P : Program} {id : Nat} {ops : List Oper} {Q : Exit → Act → World → Prop} {l n : Nat} {a : Act} {w : World} (hd : noDefer ops.toArray = true) (hno : ¬ LetsOut Q) (h : wpList P ops.toArray Q ops a w) :
    (Code.region id ops.toArray false).wpIn (Fence.wide.inRound l) n P Q a w :=
  wpIn_region_lit (list_round hno ops a w (fun o ho c hc => by
    have := Array.all_eq_true_iff_forall_mem.1 hd o (by simpa using ho)
    rw [hc] at this
    cases this) h)

theorem heap_setN {W : World} {R j : Nat} {cs : List Value} {v : Value} {T : TypeId} (h : W.heap[R]? = some (.cells cs.toArray T (0, 0))) : (W.setCell ⟨R, j, none⟩ v).heap[R]? = some (.cells (cs.set j v).toArray T (0, 0)) := by
  simp [World.setCell, Array.getElem?_modify, h]

set_option maxRecDepth 100000 in
theorem bad2_c (c a : Int) (w : World) : Calls Tryz.prog 29 #[.int .i64 c, .int .i64 a] w (Ret w (.tuple #[boundsA zeros12, faultA (c, a)])) := by
  go_enter Tryz.func29, Tryz.ntmps29
  go_wp2
  have hx1 := (Ext.refl w).alloc (.cells (ints zeros12).toArray 45)
  have hx2 := hx1.alloc (.cells [.int .i64 c, .int .i64 a].toArray 37)
  exact bodyPost_ret (results_agg2 rfl _ _ w.heap.size (w.heap.size + 1) rfl rfl (ints zeros12) [.int .i64 c, .int .i64 a] _ _ (rangeAt_ext (rangeAt_new w (ints zeros12) 45) ((Ext.refl _).alloc _) (by simp))
    (by have := rangeAt_new (w.alloc (.cells (ints zeros12).toArray 45)) [.int .i64 c, .int .i64 a] 37; rw [World.size_alloc] at this; exact this) Tryz.underlying45 Tryz.underlying37 rfl rfl (by kernel_rfl) (by kernel_rfl)) rfl ⟨rfl, hx2⟩
end Go.Proofs.YtpopnmelcplbbaaGreat
namespace Go.Proofs.YtpopnmelcplbbaaGreat
open Go.RowKit Go.Shelf

attribute [local go_sem] Oper.semAt_some

def waitsF (t : Tab) (pre : List (Fin 8)) : List Int := pre.foldl (fun l x => l.set x.val (waitS t (x.val : Int))) zeros12
def longF (t : Tab) (pre : List (Fin 8)) : Int := pre.foldl (fun n x => max n (waitS t (x.val : Int))) 0
def entF (t : Tab) (l : List Int) (k : Nat) : List Int := (List.range k).foldl (fun l k => l.set (8 + k) (entryS t k)) l
def allS (t : Tab) : List Int × (Int × Int) :=
  if (checkS t).1 ≠ 0 then (zeros12, checkS t) else
  match (eachL (onS t)).find? (fun x => decide (2147483647 ≤ waitS t (x.val : Int))) with
  | some x => (zeros12, (14, (x.val : Int)))
  | none => match (List.range t.rails.length).find? (fun k => decide (2147483647 ≤ entryS t k)) with
    | some k => (zeros12, (14, (k : Int)))
    | none => if 0 < t.rails.length ∧ t.window < longF t (eachL (onS t)) then (zeros12, (15, 0)) else (entF t (waitsF t (eachL (onS t))) t.rails.length, (0, 0))

theorem waitsF_snoc (t : Tab) (pre : List (Fin 8)) (x : Fin 8) : waitsF t (pre ++ [x]) = (waitsF t pre).set x.val (waitS t (x.val : Int)) := by
  unfold waitsF; rw [List.foldl_append]; rfl
theorem waitsF_len (t : Tab) (pre : List (Fin 8)) : (waitsF t pre).length = 12 := by
  unfold waitsF
  suffices ∀ l : List Int, (pre.foldl (fun l x => l.set x.val (waitS t (x.val : Int))) l).length = l.length by rw [this]; rfl
  induction pre with
  | nil => intro l; rfl
  | cons x pre ih => intro l; rw [List.foldl_cons, ih]; simp
theorem longF_snoc (t : Tab) (pre : List (Fin 8)) (x : Fin 8) : longF t (pre ++ [x]) = max (longF t pre) (waitS t (x.val : Int)) := by
  unfold longF; rw [List.foldl_append]; rfl
theorem ints_set (l : List Int) (k : Nat) (v : Int) : (ints l).set k (.int .i64 v) = ints (l.set k v) := by
  unfold ints; rw [List.map_set]
theorem ints_len (l : List Int) : (ints l).length = l.length := by unfold ints; simp
theorem ints_all (l : List Int) : (ints l).toArray.all (·.oneCell') = true := all_oneCell_toArray (by simp [ints, Value.oneCell'])

/-- what a box of its own holds -/
def BoxAt (W : World) (g : Nat) (cs : List Value) : Prop := ∃ T, W.heap[g]? = some (.cells cs.toArray T)
variable {w w' W W' : World} {g : Nat} {cs : List Value}
theorem BoxAt.kept (h : BoxAt W g cs) (e : W'.heap[g]? = W.heap[g]?) : BoxAt W' g cs := by obtain ⟨T, h⟩ := h; exact ⟨T, e.trans h⟩
theorem BoxAt.own (h : BoxAt W g cs) (x : Ext w W) (hg : w.heap.size ≤ g) : Own0 w W g cs := ⟨x, hg, h⟩
theorem Own0.cells_at (h : Own0 w W g cs) : BoxAt W g cs := h.at_
theorem find_at (l : List (Fin 8)) (p : Fin 8 → Bool) (pre : List (Fin 8)) (x : Fin 8) (h : pre ++ [x] <+: l) (hp : ∀ y ∈ pre, p y = false) (hx : p x = true) : l.find? p = some x := by
  obtain ⟨tl, rfl⟩ := h
  rw [List.append_assoc, List.find?_append, List.find?_eq_none.2 (by simpa using hp)]
  simp [hx]

theorem entF_succ (t : Tab) (l : List Int) (k : Nat) : entF t l (k + 1) = (entF t l k).set (8 + k) (entryS t k) := by
  unfold entF; rw [List.range_succ, List.foldl_append]; rfl
theorem entF_len (t : Tab) (l : List Int) (k : Nat) : (entF t l k).length = l.length := by
  induction k with
  | zero => rfl
  | succ k ih => rw [entF_succ]; simpa using ih
theorem rfind_at (n k : Nat) (p : Nat → Bool) (hk : k < n) (h : p k = true) (hn : ∀ j, j < k → p j = false) : (List.range n).find? p = some k := by
  rw [List.find?_range_eq_some]
  exact ⟨h, by simpa using hk, fun j hj => by simp [hn j hj]⟩
theorem rfind_none (n : Nat) (p : Nat → Bool) (hn : ∀ j, j < n → p j = false) : (List.range n).find? p = none := by
  rw [List.find?_eq_none]
  intro j hj
  rw [hn j (by simpa using hj)]; simp

theorem end_two0 {fn : Func} {p q : Tmp} {R1 R2 : Nat} {l : List Int} {c a : Int} {tmps : Array Value} (hf : fn.results = #[.cell p 45, .cell q 37]) (hp : tmps.getD p undef = .pointer (some ⟨R1, 0, none⟩)) (hq : tmps.getD q undef = .pointer (some ⟨R2, 0, none⟩))
    (h1 : Own0 w W R1 (ints l)) (hl : l.length = 12) (h2 : Own0 w W R2 [.int .i64 c, .int .i64 a]) : bodyPostM Fence.wide 10 Tryz.prog fn (Ret w (.tuple #[boundsA l, faultA (c, a)])) Exit.ret { tmps := tmps, defers := [] } W := by
  refine ⟨_, results_agg2 hf tmps W R1 R2 hp hq _ _ _ _ h1.range h2.range Tryz.underlying45 Tryz.underlying37 rfl rfl ?_ (by kernel_rfl), rfl, h1.x⟩
  rw [ints_len, hl]; kernel_rfl
theorem end_two {fn : Func} {p q : Tmp} {R1 R2 D : Nat} {l : List Int} {c a : Int} {tmps : Array Value} (hf : fn.results = #[.cell p 45, .cell q 37]) (hp : tmps.getD p undef = .pointer (some ⟨R1, 0, none⟩)) (hq : tmps.getD q undef = .pointer (some ⟨R2, 0, none⟩))
    (h1 : Own0 w W R1 (ints l)) (hl : l.length = 12) (h2 : Own0 w W R2 [.int .i64 c, .int .i64 a]) (hD : w.heap.size ≤ D) (hK : W.heap[D]? = some (.deferred (some []))) :
    bodyPostM Fence.wide 10 Tryz.prog fn (Ret w (.tuple #[boundsA l, faultA (c, a)])) Exit.ret { tmps := tmps, defers := [{ target := .collected D, args := #[] }] } W := by
  refine ⟨by simp, .inl ⟨_, _, rfl, run_takeDeferred hK, ?_⟩⟩
  have hne : ∀ {R cs}, BoxAt W R cs → R ≠ D := by
    intro R cs hb hRD
    obtain ⟨T, hb⟩ := hb
    rw [hRD, hK] at hb
    cases hb
  have k1 : Own0 w (W.putObj D (.deferred none)) R1 (ints l) := ⟨h1.x.putNew _ hD, h1.new, (h1.cells_at.kept (World.putObj_heap_other (hne h1.cells_at)))⟩
  have k2 : Own0 w (W.putObj D (.deferred none)) R2 [.int .i64 c, .int .i64 a] := ⟨h1.x.putNew _ hD, h2.new, (h2.cells_at.kept (World.putObj_heap_other (hne h2.cells_at)))⟩
  refine ⟨_, results_agg2 hf tmps _ R1 R2 hp hq _ _ _ _ k1.range k2.range Tryz.underlying45 Tryz.underlying37 rfl rfl ?_ (by kernel_rfl), rfl, k1.x⟩
  rw [ints_len, hl]; kernel_rfl

theorem LoopAt.sets {own : List Nat} (h : LoopAt w own W) (hg : g ∈ own) (o : Nat) (vs : List Value) : LoopAt w own (W.setCells g o vs) := by
  induction vs generalizing W o with
  | nil => exact h
  | cons v vs ih => exact ih (h.set hg o v) (o + 1)
theorem heap_sets_other {D : Nat} {vs : List Value} {o : Nat} (h : D ≠ g) : (W.setCells g o vs).heap[D]? = W.heap[D]? := by
  induction vs generalizing W o with
  | nil => rfl
  | cons v vs ih => exact (ih (W := W.setCell ⟨g, o, none⟩ v) (o := o + 1)).trans (Below.heap_setCell _ _ _ _ h)
theorem atStoreIn {F : Fence} {n : Nat} {P : Program} {ops : Array Oper} {rest : List Oper} {op : Oper} {a : Act} {w : World} {Q : Exit → Act → World → Prop} (ty : TypeId) {x y : Operand} (_ho : op.op = .store ty x y) (h : wpListIn F n P ops Q (op :: rest) a w) : wpListIn F n P ops Q (op :: rest) a w := h
theorem wpListIn_storeM {F : Fence} {n : Nat} {P : Program} {ops : Array Oper} {rest : List Oper} {op : Oper} {a : Act} {w : World} {Q : Exit → Act → World → Prop} (hg : op.guard = none) (ty : TypeId) (x y : Operand) (ho : op.op = .store ty x y)
    (b o : Nat) (cells : Array Value) (hx : a.eval x = .pointer (some ⟨b, o, none⟩)) (hy : a.eval y = .agg cells) (ht : w.there b o cells.size) (hi : (P.info? ty).map (·.size) = some cells.size) (h1 : cells.all (·.oneCell') = true)
    (h : wpListIn F n P ops Q rest (a.put op.dst undef) (w.setCells b o cells.toList)) : wpListIn F n P ops Q (op :: rest) a w := by
  refine wpListIn_plain hg fun K hK => ?_
  unfold Oper.wpIn
  refine ⟨fun f hf => by simp [Oper.about, ho] at hf, ?_⟩
  rw [Oper.semAt_eq _ _ _ (by simp [ho])]
  unfold execOp
  simp only [ho, hx, hy, Instr.storeAt, Instr.sureAddr, Sem.run_bind, Sem.run_pure, Result.andThen_ok, run_storeVar_mid w b o ty cells ht hi h1]
  exact hK _ _ h

set_option maxRecDepth 100000 in
set_option maxHeartbeats 4000000 in
theorem All_c (w : World) (gv dv rv bv : Value) (t : Tab) (hT : TabAt w gv dv rv bv t) : Calls Tryz.prog 9 #[tabV t gv dv rv bv] w (Ret w (.tuple #[boundsA (allS t).1, faultA (allS t).2])) := by
  refine (callsIn_wide (n := 10)).1 ?_
  have hx1 := ((Ext.refl w).alloc (.cells (t.cells gv dv rv bv).toArray 34)).alloc (.cells (ints zeros12).toArray 45)
  have hx2 := hx1.alloc (.cells [.int .i64 0, .int .i64 0].toArray 37)
  have hTB := ((TB.new w t gv dv rv bv 34).ext ((Ext.refl _).alloc (.cells (ints zeros12).toArray 45))).ext ((Ext.refl _).alloc (.cells [.int .i64 0, .int .i64 0].toArray 37))
  have hO1 := (Own0.made ((Ext.refl w).alloc (.cells (t.cells gv dv rv bv).toArray 34)) (ints zeros12) 45).ext ((Ext.refl _).alloc (.cells [.int .i64 0, .int .i64 0].toArray 37))
  have hO2 := Own0.made hx1 [.int .i64 0, .int .i64 0] 37
  rw [World.size_alloc] at hO1
  rw [World.size_alloc, World.size_alloc] at hO2
  rw [show ints zeros12 = [.int .i64 0, .int .i64 0, .int .i64 0, .int .i64 0, .int .i64 0, .int .i64 0, .int .i64 0, .int .i64 0, .int .i64 0, .int .i64 0, .int .i64 0, .int .i64 0] from rfl] at hx1 hx2 hO1 hO2 hTB
  have hs := table_sz t gv dv rv bv
  have hchk := fun W (e : Ext w W) => Check_c W gv dv rv bv t (hT.ext e)
  have hon := fun W => On_c W gv dv rv bv t
  have hwait := fun W (e : Ext w W) p => Wait_c W gv dv rv bv t (hT.ext e) p
  have hentry := fun W (e : Ext w W) k hk => Entry_c W gv dv rv bv t (hT.ext e) k hk
  have hrl := hT.rl
  obtain ⟨ra, rcp, rfl, -⟩ := hT.r
  have c114 := t.c114 gv dv (.slice ra t.rails.length rcp) bv
  have c129 := t.c129 gv dv (.slice ra t.rails.length rcp) bv
  have hrg := hTB.range
  have hst := hTB.lt
  unfold faultA at hchk
  unfold tabV at hchk hon hwait hentry ⊢
  generalize t.cells gv dv (.slice ra t.rails.length rcp) bv = C at hx2 hO1 hO2 hs hchk hon hwait hentry hrg hst c114 c129 ⊢
  clear hx1 hTB
  obtain ⟨res, hres⟩ : ∃ res, allS t = res := ⟨_, rfl⟩
  rw [hres]
  unfold allS at hres
  have HRES := Lib.hid hres; clear hres
  have HS := Lib.hid hs; clear hs
  have HCHK := Lib.hid hchk; clear hchk
  have HON := Lib.hid hon; clear hon
  have HWAIT := Lib.hid hwait; clear hwait
  have HENT := Lib.hid hentry; clear hentry
  have HRG := Lib.hid hrg; clear hrg
  have HX := Lib.hid hx2; clear hx2
  have HO1 := Lib.hid hO1; clear hO1
  have HO2 := Lib.hid hO2; clear hO2
  have HINB := Lib.hid (show (Tryz.prog.info? 45).map (·.size) = some 12 by kernel_rfl)
  have HINF := Lib.hid (show (Tryz.prog.info? 37).map (·.size) = some 2 by kernel_rfl)
  refine callsIn_of_wp_marks Tryz.func9 rfl trivial ?_ rfl
  simp only [Tryz.ntmps9, List.size_toArray, List.length_cons, List.length_nil, Nat.reduceAdd, Nat.reduceSub, Array.replicate_succ, Array.replicate_zero, List.push_toArray, List.append_toArray, List.nil_append, List.cons_append]
  refine wpIn_wide.2 ?_
  go_wp2_with ((with_reducible refine atLoad 34 rfl ?_); refine wpList_load_mid rfl 34 _ rfl _ _ rfl _ _ HRG.out Tryz.underlying34 rfl HS.out ?_)
  refine (HCHK.out _ HX.out).mono ?_
  rintro e w1 ⟨rfl, hx⟩
  have HX1 := Lib.hid (HX.out.trans hx)
  have HR1 := Lib.hid (rangeAt_ext HRG.out hx hst)
  have HP1 := Lib.hid (show Own0 w w1 (w.heap.size + 1) (ints zeros12) from HO1.out.ext hx)
  have HP2 := Lib.hid (HO2.out.ext hx)
  have hlt1 : w.heap.size + 3 ≤ w1.heap.size := by have := hx.size; simp at this; omega
  clear hx HX HRG HO1 HO2 hst HCHK
  have HRX := Lib.hid (show ∀ W, Ext w1 W → W.rangeAt w.heap.size 0 C from fun W e => rangeAt_ext HR1.out e (by omega))
  have hrl4 : (checkS t).1 = 0 → t.rails.length ≤ 4 := by
    intro h
    unfold checkS at h
    split at h
    · rename_i hm
      unfold mayOk at hm
      simp only [Bool.and_eq_true, decide_eq_true_eq] at hm
      omega
    · simp at h
  generalize checkS t = ck at HRES hrl4 ⊢
  obtain ⟨ec, ea⟩ := ck
  dsimp only
  cases hcode : (ec != 0) with
  | true =>
    have hres : (zeros12, (ec, ea)) = res := by rw [← HRES.out]; rw [if_pos (by simpa using hcode)]
    subst hres
    clear HRES
    have hxF := HX1.out.alloc (.cells [.int .i64 ec, .int .i64 ea].toArray 37)
    have hQ1 := HP1.out.ext ((Ext.refl _).alloc (.cells [.int .i64 ec, .int .i64 ea].toArray 37))
    have hQ2 := HP2.out.ext ((Ext.refl _).alloc (.cells [.int .i64 ec, .int .i64 ea].toArray 37))
    have HQ1 := Lib.hid hQ1; clear hQ1
    have HQ2 := Lib.hid hQ2; clear hQ2
    have HXF := Lib.hid hxF; clear hxF
    go_wp2_with fail
    refine (bad2_c ec ea _).mono ?_
    rintro e w2 ⟨rfl, hx2⟩
    have hS1 := HQ1.out.ext hx2
    have hS2 := HQ2.out.ext hx2
    have hT1 := hS1.all (ints zeros12) (by simp)
    have hT2 := hS2.sets_other hS1.new (by omega) 0 (ints zeros12)
    have hU2 := hT2.all [.int .i64 ec, .int .i64 ea] rfl
    have hU1 := hT1.sets_other hS2.new (by omega) 0 [.int .i64 ec, .int .i64 ea]
    have HT1 := Lib.hid (hS1.there 0 12 (by simp [ints, zeros12]))
    have HT2 := Lib.hid (hT2.there 0 2 (by simp))
    have HU1 := Lib.hid hU1; clear hU1
    have HU2 := Lib.hid hU2; clear hU2
    clear hS1 hS2 hT1 hT2 hx2
    unfold boundsA faultA
    go_wp2_with (first
      | ((with_reducible refine atStore 45 rfl ?_); refine wpList_store_mid rfl 45 _ _ rfl (w.heap.size + 1) 0 _ rfl rfl HT1.out HINB.out (ints_all _) (halt ?_))
      | ((with_reducible refine atStore 37 rfl ?_); refine wpList_store_mid rfl 37 _ _ rfl (w.heap.size + 1 + 1) 0 _ rfl rfl HT2.out HINF.out (by simp [Value.oneCell']) (halt ?_)))
    unfold Halt
    go_wp2_with ((with_reducible refine atStore 37 rfl ?_); refine wpList_store_mid rfl 37 _ _ rfl (w.heap.size + 1 + 1) 0 _ rfl rfl HT2.out HINF.out (by simp [Value.oneCell']) (halt ?_))
    unfold Halt
    go_wp2
    exact end_two0 rfl rfl rfl HU1.out rfl HU2.out
  | false =>
    have hec : ec = 0 := by simpa using hcode
    subst hec
    clear hcode
    have HRL := Lib.hid (hrl4 rfl); clear hrl4
    have HRES2 := Lib.hid (show _ = res from (if_neg (show ¬ (0 : Int) ≠ 0 from fun h => h rfl)).symm.trans HRES.out); clear HRES
    have ex := (((Ext.refl w1).alloc (.cells [.int .i64 0, .int .i64 ea].toArray 37)).alloc (.cells (ints zeros12).toArray 45)).alloc (.cells [.int .i64 0].toArray 3)
    have hB := (Own0.made (HX1.out.alloc (.cells [.int .i64 0, .int .i64 ea].toArray 37)) (ints zeros12) 45).ext ((Ext.refl _).alloc (.cells [.int .i64 0].toArray 3))
    have hL := Own0.made ((HX1.out.alloc (.cells [.int .i64 0, .int .i64 ea].toArray 37)).alloc (.cells (ints zeros12).toArray 45)) [.int .i64 0] 3
    rw [World.size_alloc] at hB
    rw [World.size_alloc, World.size_alloc] at hL
    have hr3 := HRX.out _ ex
    have hsA : ((((w1.alloc (.cells [.int .i64 0, .int .i64 ea].toArray 37)).alloc (.cells (ints zeros12).toArray 45)).alloc (.cells [.int .i64 0].toArray 3))).heap.size = w1.heap.size + 3 := by simp
    rw [show ints zeros12 = [.int .i64 0, .int .i64 0, .int .i64 0, .int .i64 0, .int .i64 0, .int .i64 0, .int .i64 0, .int .i64 0, .int .i64 0, .int .i64 0, .int .i64 0, .int .i64 0] from rfl] at ex hB hL hr3 hsA
    have HR3 := Lib.hid hr3; clear hr3
    have HEX := Lib.hid ex; clear ex
    have HB := Lib.hid hB; clear hB
    have HL := Lib.hid hL; clear hL
    have hE := fun W => Each_c (onS t) W
    generalize onS t = on at HON HRES2 hE
    have HE := Lib.hid hE; clear hE
    go_wp2_with (first
      | ((with_reducible refine atLoad 34 rfl ?_); refine wpList_load_mid rfl 34 _ rfl _ _ rfl _ _ HR3.out Tryz.underlying34 rfl HS.out ?_)
      | (go_at_call 31; refine (HON.out _).mono ?_; rintro e w3 ⟨rfl, hx3⟩)
      | (go_at_call 30; refine (HE.out _).mono ?_; rintro e w4 ⟨rfl, rfl⟩))
    have hxx := (HEX.out.trans hx3).alloc (.cells #[.int .i64 on] 3)
    have hx30 := hx3.alloc (.cells #[.int .i64 on] 3)
    have hX0 := HX1.out.trans hxx
    have h1 := HP1.out.ext hxx
    have h2 := HP2.out.ext hxx
    have h3 : Own0 w (w3.alloc (.cells #[.int .i64 on] 3)) (w1.heap.size + 1) (ints zeros12) := HB.out.ext hx30
    have h4 := HL.out.ext hx30
    have hlt3 : w1.heap.size + 3 ≤ w3.heap.size := hsA ▸ hx3.size
    have hr0 := HRX.out _ hxx
    have hb0 : (w3.alloc (.cells #[.int .i64 on] 3)).cell? ⟨w3.heap.size, 0, none⟩ = some (.int .i64 on) := by rw [World.cell?_alloc_at _ _ _ _ rfl]; rfl
    have hsz0 : (w3.alloc (.cells #[.int .i64 on] 3)).heap.size = w3.heap.size + 1 := by simp
    clear hx3 hx30 hxx HB HL HEX HR3 HE hsA HP1 HP2 HRX HX1 HR1 HON
    generalize w3.heap.size = bB at hb0 hsz0 hlt3 ⊢
    generalize w1.heap.size = F at h3 h4 hlt1 hlt3 ⊢
    generalize w3.alloc (.cells #[.int .i64 on] 3) = W0 at h1 h2 h3 h4 hb0 hr0 hX0 hsz0 ⊢
    have hb1 := h1.cells_at
    have hb2 := h2.cells_at
    have hb3 := h3.cells_at
    have hb4 := h4.cells_at
    clear h1 h2 h3 h4
    refine wpIn_wide.1 (each_loop on bB rfl hb0 (by omega) [w.heap.size + 1, w.heap.size + 1 + 1, F + 1, F + 1 + 1] (fun k hk => by simp at hk; omega) (by simp; omega)
      (fun pre W => BoxAt W (w.heap.size + 1) (ints zeros12) ∧ BoxAt W (w.heap.size + 1 + 1) [.int .i64 0, .int .i64 0] ∧ BoxAt W (F + 1) (ints (waitsF t pre)) ∧ BoxAt W (F + 1 + 1) [.int .i64 (longF t pre)] ∧ ∀ y ∈ pre, decide (2147483647 ≤ waitS t (y.val : Int)) = false)
      (fun pre W => ∃ pre' x, pre = pre' ++ [x] ∧ BoxAt W (w.heap.size + 1) (ints zeros12) ∧ BoxAt W (w.heap.size + 1 + 1) [.int .i64 14, .int .i64 (x.val : Int)] ∧ (∀ y ∈ pre', decide (2147483647 ≤ waitS t (y.val : Int)) = false) ∧ decide (2147483647 ≤ waitS t (x.val : Int)) = true)
      (fun pre W W' h hj => ⟨hj.1.kept (h _ (by simp)), hj.2.1.kept (h _ (by simp)), hj.2.2.1.kept (h _ (by simp)), hj.2.2.2.1.kept (h _ (by simp)), hj.2.2.2.2⟩)
      (fun pre W W' h hj => by obtain ⟨pre', x, e, j1, j2, j3⟩ := hj; exact ⟨pre', x, e, j1.kept (h _ (by simp)), j2.kept (h _ (by simp)), j3⟩)
      ⟨hb1, hb2, hb3, hb4, by simp⟩
      (fun x => { tmps := #[.agg C.toArray, .pointer (some ⟨w.heap.size, 0, none⟩), .pointer (some ⟨w.heap.size + 1, 0, none⟩), .pointer (some ⟨w.heap.size + 1 + 1, 0, none⟩), .pointer (some ⟨F, 0, none⟩), .pointer (some ⟨F + 1, 0, none⟩), .pointer (some ⟨F + 1 + 1, 0, none⟩), .int .i64 (x.val : Int), undef, .agg C.toArray, .agg #[.int .i64 0, .int .i64 ea], .pointer (some ⟨F, 0, none⟩), .int .i64 0, .bool false, undef, undef, undef, undef, undef, undef, undef, .agg C.toArray, .int .i64 on, .func (.func 85) #[] #[.pointer (some ⟨bB, 0, none⟩)], .int .i64 (x.val : Int), undef, undef, undef, undef, undef, undef, undef, undef, undef, undef, undef, undef, undef, undef, undef, undef, undef, undef, undef, undef, undef, undef, undef, undef, undef, undef, undef, undef, undef, undef, undef, undef, undef, undef, undef, undef, undef, undef, undef, undef, undef, undef, undef, undef, undef, undef, undef, undef, undef, undef, undef, undef, undef, undef, undef, undef, undef, undef], defers := [] }) ?assign ?body ?done ?stop)
    case assign =>
      intro l x W K hK
      gi_wp2
      exact hK
    case stop =>
      rintro D pre W hD hpre hL ⟨pre', x, rfl, j1, j2, j3, j4⟩ hK
      have hXW := hL.toExt hX0 (by simp; omega)
      have hr : (zeros12, (14, (x.val : Int))) = res := by rw [← HRES2.out, find_at _ _ _ _ hpre j3 j4]
      subst hr
      exact wpIn_ret (end_two rfl rfl rfl (j1.own hXW (by omega)) rfl (j2.own hXW (by omega)) (by have := hX0.size; omega) hK)
    case body =>
      rintro l pre x W hL ⟨j1, j2, j3, j4, hpre⟩
      have hXW := hL.toExt hX0 (by simp; omega)
      have O1 := j1.own hXW (by omega)
      have O2 := j2.own hXW (by omega)
      have O3 := j3.own hXW (by omega)
      have O4 := j4.own hXW (by omega)
      have hr4 : W.rangeAt w.heap.size 0 C := fun j v hj => (hL.cell (by omega) (by simp; omega)).trans (hr0 j v hj)
      have hlv : ∃ u, (ints (waitsF t pre))[x.val]? = some (.int .i64 u) := ⟨(waitsF t pre)[x.val]'(by rw [waitsF_len]; omega), by unfold ints; rw [List.getElem?_map, List.getElem?_eq_getElem]; rfl⟩
      obtain ⟨u, hu⟩ := hlv
      have hszW := hL.size
      have hwt := HWAIT.out W hXW (x.val : Int)
      have HSF := Lib.hid (waitsF_snoc t pre x)
      have HSL := Lib.hid (longF_snoc t pre x)
      have x0 : (0 : Int) ≤ (x.val : Int) := by omega
      have x1 : (x.val : Int) < 8 := by omega
      have x2 : decide (8 ≤ (x.val : Int)) = false := by simp; omega
      generalize hv : waitS t (x.val : Int) = v at hwt HSF HSL
      have HW := Lib.hid hwt; clear hwt
      have HR4 := Lib.hid hr4; clear hr4
      have HO3 := Lib.hid O3; clear O3
      have HU := Lib.hid hu; clear hu
      refine wpIn_block ?_
      gi_wp2_with ((with_reducible refine atLoadIn 34 rfl ?_); refine wpListIn_loadG 34 _ rfl (by rfl) w.heap.size 0 rfl _ _ HR4.out Tryz.underlying34 rfl HS.out ?_)
      refine ⟨trivial, ?_⟩
      refine (calls_round HW.out).mono ?_
      rintro e w5 ⟨rfl, hx5⟩
      have HO5 := Lib.hid (HO3.out.ext hx5)
      have hc3 := HO5.out.cell HU.out
      have hf3 := HO5.out.free x.val
      have O6 := HO5.out.set x.val (.int .i64 v)
      rw [ints_set, ← HSF.out] at O6
      have hc5 := O6.cell (j := x.val) (v := .int .i64 v) (by rw [HSF.out, ← ints_set, List.getElem?_set_self]; simp [ints_len, waitsF_len]; omega)
      have hL6 := (LoopAt.ofExt hx5 [w.heap.size + 1, w.heap.size + 1 + 1, F + 1, F + 1 + 1]).set (g := F + 1) (by simp) x.val (.int .i64 v)
      have O1 := (O1.ext hx5).other (g' := F + 1) (by omega) (by omega) x.val (.int .i64 v)
      have O2 := (O2.ext hx5).other (g' := F + 1) (by omega) (by omega) x.val (.int .i64 v)
      have O4 := (O4.ext hx5).other (g' := F + 1) (by omega) (by omega) x.val (.int .i64 v)
      have HL6 := Lib.hid hL6; clear hL6
      have HO1 := Lib.hid O1; clear O1
      have HO2 := Lib.hid O2; clear O2
      have HO4 := Lib.hid O4; clear O4
      have HO6 := Lib.hid O6; clear O6
      clear hx5 HO5 HO3 HR4 HW HU
      gi_wp2_with fail
      refine ⟨trivial, ?_⟩
      refine (calls_round (Full_c v _)).mono ?_
      rintro e w6 ⟨rfl, rfl⟩
      generalize w5.setCell ⟨F + 1, x.val, none⟩ (.int .i64 v) = W6 at HO1 HO2 HO4 HO6 HL6 hc5 ⊢
      clear hc3 hf3
      cases hfull : decide (2147483647 ≤ v) with
      | true =>
        gi_wp2_with fail
        refine ⟨trivial, ?_⟩
        refine (calls_round (bad2_c 14 (x.val : Int) _)).mono ?_
        rintro e w7 ⟨rfl, hx7⟩
        have hS1 := HO1.out.ext hx7
        have hS2 := HO2.out.ext hx7
        have hT1 := hS1.all (ints zeros12) rfl
        have hT2 := hS2.sets_other hS1.new (by omega) 0 (ints zeros12)
        have hU2 := hT2.all [.int .i64 14, .int .i64 (x.val : Int)] rfl
        have hU1 := hT1.sets_other hS2.new (by omega) 0 [.int .i64 14, .int .i64 (x.val : Int)]
        have hL7 := (((HL6.out.ext hx7).sets (g := w.heap.size + 1) (by simp) 0 (ints zeros12))).sets (g := w.heap.size + 1 + 1) (by simp) 0 [.int .i64 14, .int .i64 (x.val : Int)]
        have HT1 := Lib.hid (hS1.there 0 12 (by simp [ints, zeros12]))
        have HT2 := Lib.hid (hT2.there 0 2 (by simp))
        have HU1 := Lib.hid hU1; clear hU1
        have HU2 := Lib.hid hU2; clear hU2
        have HL7 := Lib.hid hL7; clear hL7
        clear hS1 hS2 hT1 hT2 hx7
        unfold boundsA faultA
        gi_wp2_with ((with_reducible refine atStoreIn 45 rfl ?_); refine wpListIn_storeM rfl 45 _ _ rfl (w.heap.size + 1) 0 _ rfl rfl HT1.out HINB.out (ints_all _) (halt ?_))
        unfold Halt
        gi_wp2_with ((with_reducible refine atStoreIn 37 rfl ?_); refine wpListIn_storeM rfl 37 _ _ rfl (w.heap.size + 1 + 1) 0 _ rfl rfl HT2.out HINF.out (by simp [Value.oneCell']) (halt ?_))
        unfold Halt
        gi_wp2
        exact ⟨HL7.out, pre, x, rfl, HU1.out.at_, HU2.out.at_, hpre, by rw [hv]; exact hfull⟩
      | false =>
        gi_wp2
        refine region_round (S := fun w' : World => w'.cell? ⟨F + 1, x.val, none⟩ = some (.int .i64 v)) (by kernel_rfl) (by kernel_rfl) (fun ⟨a, w, h⟩ => h) (by simpa using hc5) (fun hS => ?_)
        have hdr := (Ext.refl W6).drew
        have HDR := Lib.hid hdr; clear hdr
        have HG := Lib.hid (HO4.out.ext HDR.out)
        have HG1 := HG.out.cell (j := 0) (v := .int .i64 (longF t pre)) rfl
        have HG2 := HG.out.free 0
        generalize longF t pre = g at HSL HG HG1
        refine wpAnyH_take (i := 1) (oi := _) (v := .int .i64 (x.val : Int)) rfl (by kernel_rfl) (by kernel_rfl) (by kernel_rfl) (fun _ _ _ h => h) (Or.inl ⟨by kernel_rfl, fun _ _ => by kernel_rfl⟩) hS ?_
        refine wpAnyH_take (i := 2) (oi := _) (v := .pointer (some ⟨F + 1, 0, none⟩)) rfl (by kernel_rfl) (by kernel_rfl) (by kernel_rfl) (fun _ _ _ h => h) (yields_v (Instr.fieldAt 45 (.pointer (some ⟨F + 1, 0, none⟩)) 0) (by kernel_rfl) (by kernel_rfl) (fun w' _ => by go_simp)) hS ?_
        refine wpAnyH_take (i := 3) (oi := _) (v := .pointer (some ⟨F + 1, x.val, none⟩)) rfl (by kernel_rfl) (by kernel_rfl) (by kernel_rfl) (fun _ _ _ h => h) (yields_v (Instr.indexAt 29 (.pointer (some ⟨F + 1, 0, none⟩)) (.int .i64 (x.val : Int))) (by kernel_rfl) (by kernel_rfl) (fun w' _ => by go_simp)) hS ?_
        refine wpAnyH_take (i := 4) (oi := _) (v := .int .i64 v) rfl (by kernel_rfl) (by kernel_rfl) (by kernel_rfl) (fun _ _ _ h => h) (yields_v (Instr.loadAt 3 (.pointer (some ⟨F + 1, x.val, none⟩))) (by kernel_rfl) (by kernel_rfl) (fun W h => load_int (h))) hS ?_
        refine wpAnyH_one (i := 0) (by kernel_rfl) ?_
        refine wpOp_val (.int .i64 g) (W6.drew) rfl (by kernel_rfl) (Instr.loadAt 3 (.pointer (some ⟨F + 1 + 1, 0, none⟩))) (by kernel_rfl) (load_int HG1) ⟨hS, ?_⟩
        refine wpAnyH_take (i := 5) (oi := _) (v := .int .i64 (max g v)) rfl (by kernel_rfl) (by kernel_rfl) (by kernel_rfl) (fun _ _ _ h => h) (Or.inl ⟨by kernel_rfl, fun W _ => by go_simp⟩) hS ?_
        refine wpAnyH_one (i := 6) (by kernel_rfl) ?_
        have hS9 : (fun w' : World => w'.cell? ⟨F + 1, x.val, none⟩ = some (.int .i64 v)) (W6.drew.setCell ⟨F + 1 + 1, 0, none⟩ (.int .i64 (max g v))) := cell_far hS (by omega) _
        refine wpOp_unit (W6.drew.setCell ⟨F + 1 + 1, 0, none⟩ (.int .i64 (max g v))) rfl (by kernel_rfl) (Instr.storeAt 3 (.pointer (some ⟨F + 1 + 1, 0, none⟩)) (.int .i64 (max g v))) (by kernel_rfl) (store_int _ HG1 HG2) ⟨hS9, ?_⟩
        refine wpAnyH_done (by kernel_rfl) ?_ _
        go_simp
        gi_wp2
        have K4 : Own0 w ((W6.drew).setCell ⟨F + 1 + 1, 0, none⟩ (.int .i64 (max g v))) (F + 1 + 1) [.int .i64 (longF t (pre ++ [x]))] := by
          rw [HSL.out]; exact HG.out.set 0 (.int .i64 (max g v))
        have hpre2 : ∀ y ∈ pre ++ [x], decide (2147483647 ≤ waitS t (y.val : Int)) = false := by
          intro y hy
          rcases List.mem_append.1 hy with h | h
          · exact hpre y h
          · rw [List.mem_singleton.1 h, hv]; exact hfull
        exact ⟨(HL6.out.ext HDR.out).set (by simp) 0 _, ((HO1.out.ext HDR.out).other (by omega) (by omega) 0 _).cells_at, ((HO2.out.ext HDR.out).other (by omega) (by omega) 0 _).cells_at, ((HO6.out.ext HDR.out).other (by omega) (by omega) 0 _).cells_at, K4.cells_at, fun y hy => by simpa using hpre2 y hy⟩
    case done =>
      rintro D W hD hL ⟨j1, j2, j3, j4, hpre⟩ hK
      have hXW := hL.toExt hX0 (by simp; omega)
      have O1 := j1.own hXW (by omega)
      have O2 := j2.own hXW (by omega)
      have O3 := j3.own hXW (by omega)
      have O4 := j4.own hXW (by omega)
      have hr4 : W.rangeAt w.heap.size 0 C := fun j v hj => (hL.cell (by omega) (by simp; omega)).trans (hr0 j v hj)
      have hc114 := range_cell hr4 c114
      have hD2 : D ≠ F + 1 := by omega
      go_wp2
      clear hc114
      have hDW : D < W.heap.size := (Array.getElem?_eq_some_iff.1 hK).1
      have HFN := Lib.hid (show (eachL on).find? (fun x => decide (2147483647 ≤ waitS t (x.val : Int))) = none from List.find?_eq_none.2 fun y hy => by rw [hpre y hy]; simp)
      have HRES3 := HRES2.out
      rw [HFN.out] at HRES3
      dsimp only at HRES3
      have HR3 := Lib.hid HRES3; clear HRES3 HRES2 HFN hpre
      have HWL := Lib.hid (waitsF_len t (eachL on))
      generalize waitsF t (eachL on) = ws at O3 HR3 HWL
      generalize longF t (eachL on) = lg at O4 HR3
      clear hr0 hb0 hX0 hL hb1 hb2 hb3 hb4 j1 j2 j3 j4 HWAIT
      go_loopw [49] (fun i wh => ∃ (j : Nat), j ≤ t.rails.length ∧ i = .int .i64 j ∧ Own0 w wh (w.heap.size + 1) (ints zeros12) ∧ Own0 w wh (w.heap.size + 1 + 1) [.int .i64 0, .int .i64 0] ∧ Own0 w wh (F + 1) (ints (entF t ws j)) ∧ Own0 w wh (F + 1 + 1) [.int .i64 lg] ∧ wh.rangeAt w.heap.size 0 C ∧ wh.heap[D]? = some (.deferred (some [])) ∧ Hid (∀ k, k < j → decide (2147483647 ≤ entryS t k) = false)) (fun i _ => t.rails.length - (intOf i).toNat)
      case atStart => exact ⟨0, Nat.zero_le _, rfl, O1, O2, O3, O4, hr4, hK, Lib.hid fun k hk => absurd hk (by omega)⟩
      case round =>
        clear O1 O2 O3 O4 hr4 hK hXW hDW
        obtain ⟨j, hj, rfl, o1, o2, o3, o4, hr5, hK, HEN⟩ := hrel
        have hX5 := o1.x
        by_cases hlj : j < t.rails.length
        · have hwt := HENT.out wr o1.x j hlj
          have HSF := Lib.hid (entF_succ t ws j)
          have hel := (entF_len t ws j).trans HWL.out
          have hlv : ∃ u, (ints (entF t ws j))[8 + j]? = some (.int .i64 u) := ⟨(entF t ws j)[8 + j]'(by have := HRL.out; omega), by unfold ints; rw [List.getElem?_map, List.getElem?_eq_getElem]; rfl⟩
          obtain ⟨u, hu⟩ := hlv
          have hrl5 := HRL.out
          have x0 : (0 : Int) ≤ (j : Int) := by omega
          have x1 : (j : Int) < 4 := by omega
          have x2 : decide (4 ≤ (j : Int)) = false := by simp; omega
          have hlr : (j : Int) < (t.rails.length : Int) := by omega
          generalize hv : entryS t j = v at hwt HSF
          have HW := Lib.hid hwt; clear hwt
          have HR5 := Lib.hid hr5
          have HO3 := Lib.hid o3; clear o3
          have HU := Lib.hid hu; clear hu
          go_wp2_with ((with_reducible refine atLoad 34 rfl ?_); refine wpList_load_mid rfl 34 _ rfl _ _ rfl _ _ HR5.out Tryz.underlying34 rfl HS.out ?_)
          refine HW.out.mono ?_
          rintro e w5 ⟨rfl, hx5⟩
          have HO5 := Lib.hid (HO3.out.ext hx5)
          have hc3 := HO5.out.cell HU.out
          have hf3 := HO5.out.free (8 + j)
          have O6 := HO5.out.set (8 + j) (.int .i64 v)
          rw [ints_set, ← HSF.out] at O6
          have hc5 := O6.cell (j := 8 + j) (v := .int .i64 v) (by rw [HSF.out, ← ints_set, List.getElem?_set_self]; rw [ints_len, hel]; omega)
          have O1 := (o1.ext hx5).other (g' := F + 1) (by omega) (by omega) (8 + j) (.int .i64 v)
          have O2 := (o2.ext hx5).other (g' := F + 1) (by omega) (by omega) (8 + j) (.int .i64 v)
          have O4 := (o4.ext hx5).other (g' := F + 1) (by omega) (by omega) (8 + j) (.int .i64 v)
          have hr6 : (w5.setCell ⟨F + 1, 8 + j, none⟩ (.int .i64 v)).rangeAt w.heap.size 0 C := rangeAt_far (rangeAt_ext hr5 hx5 (by have := o1.lt; omega)) (by omega) _
          have hK6 : (w5.setCell ⟨F + 1, 8 + j, none⟩ (.int .i64 v)).heap[D]? = some (.deferred (some [])) := by
            rw [Below.heap_setCell _ _ _ _ hD2, hx5.below.block D (Array.getElem?_eq_some_iff.1 hK).1]; exact hK
          have HO1 := Lib.hid O1; clear O1
          have HO2 := Lib.hid O2; clear O2
          have HO4 := Lib.hid O4; clear O4
          have HO6 := Lib.hid O6; clear O6
          have HR6 := Lib.hid hr6; clear hr6
          have HK6 := Lib.hid hK6; clear hK6
          clear hx5 HO5 HO3 HR5 HW HU hr5 hK o1 o2 o4
          go_wp2_with fail
          refine (Full_c v _).mono ?_
          rintro e w6 ⟨rfl, rfl⟩
          generalize w5.setCell ⟨F + 1, 8 + j, none⟩ (.int .i64 v) = W6 at HO1 HO2 HO4 HO6 HR6 HK6 hc5 ⊢
          clear hc3 hf3
          cases hfull : decide (2147483647 ≤ v) with
          | true =>
            go_wp2_with fail
            refine (bad2_c 14 (j : Int) _).mono ?_
            rintro e w7 ⟨rfl, hx7⟩
            have hS1 := HO1.out.ext hx7
            have hS2 := HO2.out.ext hx7
            have hT1 := hS1.all (ints zeros12) rfl
            have hT2 := hS2.sets_other hS1.new (by omega) 0 (ints zeros12)
            have hU2 := hT2.all [.int .i64 14, .int .i64 (j : Int)] rfl
            have hU1 := hT1.sets_other hS2.new (by omega) 0 [.int .i64 14, .int .i64 (j : Int)]
            have HT1 := Lib.hid (hS1.there 0 12 (by simp [ints, zeros12]))
            have HT2 := Lib.hid (hT2.there 0 2 (by simp))
            have HU1 := Lib.hid hU1; clear hU1
            have HU2 := Lib.hid hU2; clear hU2
            have hbD := hx7.below.block D (Array.getElem?_eq_some_iff.1 HK6.out).1
            have hK7 : ((w7.setCells (w.heap.size + 1) 0 (ints zeros12)).setCells (w.heap.size + 1 + 1) 0 [.int .i64 14, .int .i64 (j : Int)]).heap[D]? = some (.deferred (some [])) := by
              rw [heap_sets_other (by omega), heap_sets_other (by omega), hbD]; exact HK6.out
            have HK7 := Lib.hid hK7; clear hK7 hbD
            clear hS1 hS2 hT1 hT2 hx7
            unfold boundsA faultA
            go_wp2_with ((with_reducible refine atStore 45 rfl ?_); refine wpList_store_mid rfl 45 _ _ rfl (w.heap.size + 1) 0 _ rfl rfl HT1.out HINB.out (ints_all _) (halt ?_))
            unfold Halt
            go_wp2_with ((with_reducible refine atStore 37 rfl ?_); refine wpList_store_mid rfl 37 _ _ rfl (w.heap.size + 1 + 1) 0 _ rfl rfl HT2.out HINF.out (by simp [Value.oneCell']) (halt ?_))
            unfold Halt
            go_wp2
            have hr : (zeros12, (14, (j : Int))) = res := by rw [← HR3.out, rfind_at _ _ _ hlj (by rw [hv]; exact hfull) HEN.out]
            subst hr
            exact end_two rfl rfl rfl HU1.out rfl HU2.out (by omega) HK7.out
          | false =>
            go_wp2
            go_roundw
            case rel => exact ⟨j + 1, by omega, by go_num, HO1.out, HO2.out, HO6.out, HO4.out, HR6.out, HK6.out, Lib.hid fun k hk => by
              by_cases hkj : k = j
              · rw [hkj, hv]; exact hfull
              · exact HEN.out k (by omega)⟩
            case measure => simp [intOf]; omega
        · have hjj : j = t.rails.length := by omega
          subst hjj
          have hres3 := HR3.out
          rw [rfind_none _ _ HEN.out] at hres3
          dsimp only at hres3
          have HR7 := Lib.hid hres3; clear hres3 HR3 HEN
          have hc114 := range_cell hr5 c114
          have hc129 := range_cell hr5 c129
          by_cases hz : t.rails.length = 0
          · have hz1 : decide (0 < (t.rails.length : Int)) = false := decide_eq_false (by omega)
            have hnw : ¬ (0 < t.rails.length ∧ t.window < lg) := fun h => by omega
            have hr : (entF t ws t.rails.length, ((0 : Int), (0 : Int))) = res := by rw [← HR7.out, if_neg hnw]
            have hes : (entF t ws t.rails.length).length = 12 := (entF_len t ws _).trans HWL.out
            generalize entF t ws t.rails.length = es at o3 hes hr
            have hzl : (ints es).length = 12 := (ints_len es).trans hes
            have hT1 := o1.all (ints es) (by rw [hzl]; rfl)
            have hT2 := o2.sets_other o1.new (by omega) 0 (ints es)
            have hU2 := hT2.all [.int .i64 0, .int .i64 0] rfl
            have hU1 := hT1.sets_other o2.new (by omega) 0 [.int .i64 0, .int .i64 0]
            have HT1 := Lib.hid (show wr.there (w.heap.size + 1) 0 (ints es).toArray.size from by rw [show (ints es).toArray.size = 12 from by rw [List.size_toArray, hzl]]; exact o1.there 0 12 (by simp [ints, zeros12]))
            have HT2 := Lib.hid (hT2.there 0 2 (by simp))
            have HU1 := Lib.hid hU1; clear hU1
            have HU2 := Lib.hid hU2; clear hU2
            have HES := Lib.hid hes
            have HIB := Lib.hid (show (Tryz.prog.info? 45).map (·.size) = some (ints es).length from by rw [hzl]; exact HINB.out)
            have HIB2 := Lib.hid (show (Tryz.prog.info? 45).map (·.size) = some (ints es).toArray.size from by rw [show (ints es).toArray.size = 12 from by rw [List.size_toArray, hzl]]; exact HINB.out)
            have hK7 : ((wr.setCells (w.heap.size + 1) 0 (ints es)).setCells (w.heap.size + 1 + 1) 0 [.int .i64 0, .int .i64 0]).heap[D]? = some (.deferred (some [])) := by
              rw [heap_sets_other (by omega), heap_sets_other (by omega)]; exact hK
            have HK7 := Lib.hid hK7; clear hK7
            have HO3 := Lib.hid o3.range
            have hcl := o4.cell (j := 0) (v := .int .i64 lg) rfl
            clear hT1 hT2 o1 o2 o3 o4 hr5 hK hzl hes
            go_wp2_with ((with_reducible refine atLoad 45 rfl ?_); refine wpList_load_mid rfl 45 _ rfl _ _ rfl _ _ HO3.out Tryz.underlying45 rfl HIB.out (halt ?_))
            any_goals unfold Halt
            go_wp2_with ((with_reducible refine atStore 45 rfl ?_); refine wpList_store_mid rfl 45 _ _ rfl (w.heap.size + 1) 0 _ rfl rfl HT1.out HIB2.out (ints_all _) (halt ?_))
            unfold Halt
            go_wp2_with ((with_reducible refine atStore 37 rfl ?_); refine wpList_store_mid rfl 37 _ _ rfl (w.heap.size + 1 + 1) 0 _ rfl rfl HT2.out HINF.out (by simp [Value.oneCell']) (halt ?_))
            unfold Halt
            go_wp2
            subst hr
            exact end_two rfl rfl rfl HU1.out HES.out HU2.out (by omega) HK7.out
          · have hz1 : decide (0 < (t.rails.length : Int)) = true := decide_eq_true (by omega)
            by_cases hw : t.window < lg
            · have hw1 : decide (t.window < lg) = true := by simpa using hw
              have hcl := o4.cell (j := 0) (v := .int .i64 lg) rfl
              go_wp2_with fail
              refine (bad2_c 15 0 _).mono ?_
              rintro e w7 ⟨rfl, hx7⟩
              have hS1 := o1.ext hx7
              have hS2 := o2.ext hx7
              have hT1 := hS1.all (ints zeros12) rfl
              have hT2 := hS2.sets_other hS1.new (by omega) 0 (ints zeros12)
              have hU2 := hT2.all [.int .i64 15, .int .i64 0] rfl
              have hU1 := hT1.sets_other hS2.new (by omega) 0 [.int .i64 15, .int .i64 0]
              have HT1 := Lib.hid (hS1.there 0 12 (by simp [ints, zeros12]))
              have HT2 := Lib.hid (hT2.there 0 2 (by simp))
              have HU1 := Lib.hid hU1; clear hU1
              have HU2 := Lib.hid hU2; clear hU2
              have hbD := hx7.below.block D (Array.getElem?_eq_some_iff.1 hK).1
              have hK7 : ((w7.setCells (w.heap.size + 1) 0 (ints zeros12)).setCells (w.heap.size + 1 + 1) 0 [.int .i64 15, .int .i64 0]).heap[D]? = some (.deferred (some [])) := by
                rw [heap_sets_other (by omega), heap_sets_other (by omega), hbD]; exact hK
              have HK7 := Lib.hid hK7; clear hK7 hbD
              clear hS1 hS2 hT1 hT2 hx7
              unfold boundsA faultA
              go_wp2_with ((with_reducible refine atStore 45 rfl ?_); refine wpList_store_mid rfl 45 _ _ rfl (w.heap.size + 1) 0 _ rfl rfl HT1.out HINB.out (ints_all _) (halt ?_))
              unfold Halt
              go_wp2_with ((with_reducible refine atStore 37 rfl ?_); refine wpList_store_mid rfl 37 _ _ rfl (w.heap.size + 1 + 1) 0 _ rfl rfl HT2.out HINF.out (by simp [Value.oneCell']) (halt ?_))
              unfold Halt
              go_wp2
              have hr : (zeros12, ((15 : Int), (0 : Int))) = res := by rw [← HR7.out, if_pos ⟨Nat.pos_of_ne_zero hz, hw⟩]
              subst hr
              exact end_two rfl rfl rfl HU1.out rfl HU2.out (by omega) HK7.out
            · have hw1 : decide (t.window < lg) = false := by simpa using hw
              have hnw : ¬ (0 < t.rails.length ∧ t.window < lg) := fun h => hw h.2
              have hr : (entF t ws t.rails.length, ((0 : Int), (0 : Int))) = res := by rw [← HR7.out, if_neg hnw]
              have hes : (entF t ws t.rails.length).length = 12 := (entF_len t ws _).trans HWL.out
              generalize entF t ws t.rails.length = es at o3 hes hr
              have hzl : (ints es).length = 12 := (ints_len es).trans hes
              have hT1 := o1.all (ints es) (by rw [hzl]; rfl)
              have hT2 := o2.sets_other o1.new (by omega) 0 (ints es)
              have hU2 := hT2.all [.int .i64 0, .int .i64 0] rfl
              have hU1 := hT1.sets_other o2.new (by omega) 0 [.int .i64 0, .int .i64 0]
              have HT1 := Lib.hid (show wr.there (w.heap.size + 1) 0 (ints es).toArray.size from by rw [show (ints es).toArray.size = 12 from by rw [List.size_toArray, hzl]]; exact o1.there 0 12 (by simp [ints, zeros12]))
              have HT2 := Lib.hid (hT2.there 0 2 (by simp))
              have HU1 := Lib.hid hU1; clear hU1
              have HU2 := Lib.hid hU2; clear hU2
              have HES := Lib.hid hes
              have HIB := Lib.hid (show (Tryz.prog.info? 45).map (·.size) = some (ints es).length from by rw [hzl]; exact HINB.out)
              have HIB2 := Lib.hid (show (Tryz.prog.info? 45).map (·.size) = some (ints es).toArray.size from by rw [show (ints es).toArray.size = 12 from by rw [List.size_toArray, hzl]]; exact HINB.out)
              have hK7 : ((wr.setCells (w.heap.size + 1) 0 (ints es)).setCells (w.heap.size + 1 + 1) 0 [.int .i64 0, .int .i64 0]).heap[D]? = some (.deferred (some [])) := by
                rw [heap_sets_other (by omega), heap_sets_other (by omega)]; exact hK
              have HK7 := Lib.hid hK7; clear hK7
              have HO3 := Lib.hid o3.range
              have hcl := o4.cell (j := 0) (v := .int .i64 lg) rfl
              clear hT1 hT2 o1 o2 o3 o4 hr5 hK hzl hes
              go_wp2_with ((with_reducible refine atLoad 45 rfl ?_); refine wpList_load_mid rfl 45 _ rfl _ _ rfl _ _ HO3.out Tryz.underlying45 rfl HIB.out (halt ?_))
              any_goals unfold Halt
              go_wp2_with ((with_reducible refine atStore 45 rfl ?_); refine wpList_store_mid rfl 45 _ _ rfl (w.heap.size + 1) 0 _ rfl rfl HT1.out HIB2.out (ints_all _) (halt ?_))
              unfold Halt
              go_wp2_with ((with_reducible refine atStore 37 rfl ?_); refine wpList_store_mid rfl 37 _ _ rfl (w.heap.size + 1 + 1) 0 _ rfl rfl HT2.out HINF.out (by simp [Value.oneCell']) (halt ?_))
              unfold Halt
              go_wp2
              subst hr
              exact end_two rfl rfl rfl HU1.out HES.out HU2.out (by omega) HK7.out
end Go.Proofs.YtpopnmelcplbbaaGreat
