/-
  sheet.Sample: the table that it makes.
-/
import Derived.Test.YtpopnmelcplbbaaGreatGDecode
import Derived.Test.YtpopnmelcplbbaaGreatGHand
import Derived.Test.YtpopnmelcplbbaaGreatGBase
set_option linter.unusedVariables false
set_option linter.unusedSimpArgs false
namespace Go.Proofs.YtpopnmelcplbbaaGreat
open Go.RowKit

def smPh (p : Nat) : Ph := ⟨true, 50, 20, 200, 300, 50, 35, 10, if p % 2 = 1 then 70 else 0, if p % 2 = 1 then 80 else 0, if p % 4 = 1 then 1 else 0, true, false⟩
def smDet (p : Nat) : Det := ⟨p, 4621819117588971520, 4617315517961601024, 0, 4602678819172646912, 6000, 0⟩
def smFl (p : Nat) : Int := if p % 4 = 1 then 2 else 1
def smHas (p q : Nat) : Bool := q != p && (q / 2 % 2 != p / 2 % 2 || q / 4 == p / 4)
def shq (q : Nat) : Int := IntKind.i64.wrap (1 * 2 ^ q)
def smCn (p : Nat) : Nat → Int
  | 0 => 0
  | q + 1 => if smHas p q then bits .or .i64 (smCn p q) (shq q) else smCn p q
def smCf (p : Nat) : Int := smCn p 8
def smRa : Ra := ⟨204, 136, 34, 68, 5, 20, 30, 100, 100, 3000, 4000⟩
def smBu : Bu := ⟨34, 600⟩
def smGroups : List (List Int × List Int) := [([0, 1], [4, 5]), ([2, 3], [6, 7])]
/-- the sample -/
def smT : Tab := mkTab ((List.range 8).map smPh) smGroups ((List.range 8).map smCf) ((List.range 8).map smDet) [smRa] [smBu] [100, 200, 60, 20, 100] ((List.range 8).map smFl) 8640000 600

/-- its box when p phases are made -/
def smBox (p : Nat) (gv dv : Value) : List Value :=
  (((List.range p).map smPh).flatMap Ph.cells ++ zeroPhs (8 - p)) ++ tl gv (fill ((List.range p).map smCf) 8) dv nilS nilS (ints [100, 200, 60, 20, 100]) (fill ((List.range p).map smFl) 8) (.int .i64 8640000) (.int .i64 600)
def smOne (p : Nat) (gv dv : Value) : List Value := (smBox p gv dv).set (121 + p) (.int .i64 (smFl p))
def smTwo (p : Nat) (gv dv : Value) : List Value := ((smPh p).cells.zipIdx (p * 13)).foldl (fun c x => c.set x.2 x.1) (smOne p gv dv)
def smThr (p : Nat) (gv dv dv' : Value) (c : Int) : List Value := ((smTwo p gv dv).set 113 dv').set (105 + p) (.int .i64 c)

theorem smZ : (((((((Tryz.zeroCells34.setIfInBounds 116 (.int .i64 100)).setIfInBounds 117 (.int .i64 200)).setIfInBounds 118 (.int .i64 60)).setIfInBounds 119 (.int .i64 20)).setIfInBounds 120 (.int .i64 100)).setIfInBounds 129 (.int .i64 8640000)).setIfInBounds 130 (.int .i64 600))
    = (smBox 0 nilS nilS).toArray := by unfold smBox; kernel_rfl
theorem smBox_len (p : Nat) (hp : p ≤ 8) (gv dv : Value) : (smBox p gv dv).length = 131 := by
  unfold smBox
  refine tl_len ?_ ?_ rfl ?_
  · rw [List.length_append, phs_len_cells, zeroPhs_len]; simp; omega
  · simp [fill, ints]; omega
  · simp [fill, ints]; omega
theorem smBox_one (p : Nat) (gv dv : Value) (h1 : gv.oneCell' = true) (h2 : dv.oneCell' = true) : (smBox p gv dv).toArray.all (·.oneCell') = true := by
  refine all_oneCell_toArray ?_
  intro v hv
  unfold smBox tl zeroPhs at hv
  simp only [List.mem_append, List.mem_flatMap, List.mem_cons, List.not_mem_nil, or_false, ints, fill, List.mem_map, List.mem_replicate] at hv
  rcases hv with (⟨x, ⟨_, _, rfl⟩, h⟩ | ⟨x, ⟨_, rfl⟩, h⟩) | rfl | (⟨x, _, rfl⟩ | ⟨_, rfl⟩) | rfl | rfl | rfl | ⟨x, _, rfl⟩ | (⟨x, _, rfl⟩ | ⟨_, rfl⟩) | rfl | rfl
  · simp only [Ph.cells, List.mem_cons, List.not_mem_nil, or_false] at h
    rcases h with rfl | rfl | rfl | rfl | rfl | rfl | rfl | rfl | rfl | rfl | rfl | rfl | rfl <;> rfl
  · simp only [Ph.cells, List.mem_cons, List.not_mem_nil, or_false] at h
    rcases h with rfl | rfl | rfl | rfl | rfl | rfl | rfl | rfl | rfl | rfl | rfl | rfl | rfl <;> rfl
  all_goals first | assumption | rfl

/-! ### its cells, step by step -/
theorem smBox_fl (p : Nat) (hp : p < 8) (gv dv : Value) : (smBox p gv dv)[121 + p]? = some (.int .i64 0) := by
  unfold smBox tl zeroPhs
  obtain rfl | rfl | rfl | rfl | rfl | rfl | rfl | rfl : p = 0 ∨ p = 1 ∨ p = 2 ∨ p = 3 ∨ p = 4 ∨ p = 5 ∨ p = 6 ∨ p = 7 := by omega
  all_goals kernel_rfl
theorem smTwo_len (p : Nat) (hp : p < 8) (gv dv : Value) : (smTwo p gv dv).length = 131 := by
  unfold smTwo smOne smBox tl zeroPhs
  obtain rfl | rfl | rfl | rfl | rfl | rfl | rfl | rfl : p = 0 ∨ p = 1 ∨ p = 2 ∨ p = 3 ∨ p = 4 ∨ p = 5 ∨ p = 6 ∨ p = 7 := by omega
  all_goals kernel_rfl
theorem smTwo_dv (p : Nat) (hp : p < 8) (gv dv : Value) : (smTwo p gv dv)[113]? = some dv := by
  unfold smTwo smOne smBox tl zeroPhs
  obtain rfl | rfl | rfl | rfl | rfl | rfl | rfl | rfl : p = 0 ∨ p = 1 ∨ p = 2 ∨ p = 3 ∨ p = 4 ∨ p = 5 ∨ p = 6 ∨ p = 7 := by omega
  all_goals kernel_rfl
theorem smThr_zero (p : Nat) (hp : p < 8) (gv dv dv' : Value) : (smTwo p gv dv).set 113 dv' = smThr p gv dv dv' (smCn p 0) := by
  unfold smThr smTwo smOne smBox tl zeroPhs
  obtain rfl | rfl | rfl | rfl | rfl | rfl | rfl | rfl : p = 0 ∨ p = 1 ∨ p = 2 ∨ p = 3 ∨ p = 4 ∨ p = 5 ∨ p = 6 ∨ p = 7 := by omega
  all_goals kernel_rfl
theorem smThr_end (p : Nat) (hp : p < 8) (gv dv dv' : Value) : smThr p gv dv dv' (smCn p 8) = smBox (p + 1) gv dv' := by
  unfold smThr smTwo smOne smBox tl zeroPhs
  obtain rfl | rfl | rfl | rfl | rfl | rfl | rfl | rfl : p = 0 ∨ p = 1 ∨ p = 2 ∨ p = 3 ∨ p = 4 ∨ p = 5 ∨ p = 6 ∨ p = 7 := by omega
  all_goals kernel_rfl
theorem sm_gv (gv : Value) : (smBox 0 nilS nilS).set 104 gv = smBox 0 gv nilS := by unfold smBox tl zeroPhs; kernel_rfl
theorem sm_end1 (gv dv : Value) : (smBox 8 gv dv)[114]? = some nilS := by unfold smBox tl zeroPhs; kernel_rfl
theorem sm_end2 (gv dv rv : Value) : ((smBox 8 gv dv).set 114 rv)[115]? = some nilS := by unfold smBox tl zeroPhs; kernel_rfl
theorem sm_end (gv dv rv bv : Value) : ((smBox 8 gv dv).set 114 rv).set 115 bv = smT.cells gv dv rv bv := by unfold smBox tl zeroPhs Tab.cells; kernel_rfl
theorem smCn_yes {p q : Nat} (h : smHas p q = true) : smCn p (q + 1) = bits .or .i64 (smCn p q) (shq q) := by rw [smCn, if_pos h]
theorem smCn_no {p q : Nat} (h : smHas p q = false) : smCn p (q + 1) = smCn p q := by rw [smCn, if_neg (by rw [h]; simp)]
theorem smHas_ways (p q : Nat) : (smHas p q = false ∧ ((q : Int) != (p : Int)) = false) ∨ (smHas p q = true ∧ ((q : Int) != (p : Int)) = true ∧ ((q : Int) / 2 % 2 != (p : Int) / 2 % 2) = true) ∨
    (smHas p q = true ∧ ((q : Int) != (p : Int)) = true ∧ ((q : Int) / 2 % 2 != (p : Int) / 2 % 2) = false ∧ ((q : Int) / 4 == (p : Int) / 4) = true) ∨
    (smHas p q = false ∧ ((q : Int) != (p : Int)) = true ∧ ((q : Int) / 2 % 2 != (p : Int) / 2 % 2) = false ∧ ((q : Int) / 4 == (p : Int) / 4) = false) := by
  have e1 : ((q : Int) != (p : Int)) = (q != p) := by rw [Bool.eq_iff_iff]; simp; omega
  have e2 : ((q : Int) / 2 % 2 != (p : Int) / 2 % 2) = (q / 2 % 2 != p / 2 % 2) := by rw [Bool.eq_iff_iff]; simp; omega
  have e3 : ((q : Int) / 4 == (p : Int) / 4) = (q / 4 == p / 4) := by rw [Bool.eq_iff_iff]; simp; omega
  rw [e1, e2, e3]
  unfold smHas
  cases (q != p) <;> cases (q / 2 % 2 != p / 2 % 2) <;> cases (q / 4 == p / 4) <;> simp
attribute [irreducible] smTwo smOne smBox smCn
theorem smThr_at (p : Nat) (hp : p < 8) (gv dv dv' : Value) (c : Int) : (smThr p gv dv dv' c)[105 + p]? = some (.int .i64 c) := by
  unfold smThr
  rw [List.getElem?_set_self (by rw [List.length_set, smTwo_len p hp]; omega)]
theorem smThr_set (p : Nat) (gv dv dv' : Value) (c d : Int) : (smThr p gv dv dv' c).set (105 + p) (.int .i64 d) = smThr p gv dv dv' d := by
  unfold smThr; rw [List.set_set]

theorem ExtB.put {B g j : Nat} {a W : World} {v : Value} (h : ExtB B a W) (hg : a.heap.size ≤ g ∨ g = B) : ExtB B a (W.setCell ⟨g, j, none⟩ v) :=
  ⟨h.os, h.tape, h.output, by rw [size_set]; exact h.size, fun k hk hne => by rw [Below.heap_setCell _ _ _ _ (show k ≠ g by omega)]; exact h.block k hk hne⟩
theorem ExtB.puts {B o : Nat} {a W : World} {vs : List Value} (h : ExtB B a W) : ExtB B a (W.setCells B o vs) := by
  induction vs generalizing W o with
  | nil => exact h
  | cons v vs ih => exact ih (h.put (Or.inr rfl))
theorem Own0.grown {w W W' : World} {g : Nat} {cs : List Value} {row : Option Nat} (h : Own0 w W g cs) (hg : W.grownBy W' row) (hr : ∀ k, row = some k → g ≠ k ∧ w.heap.size ≤ k) : Own0 w W' g cs :=
  ⟨h.x.grown hg (fun k e => (hr k e).2), h.new, by obtain ⟨T, h1⟩ := h.at_; exact ⟨T, (hg.block g h.lt (fun e => (hr g e.symm).1 rfl)).trans h1⟩⟩
def RetSample (w : World) : Ending → World → Prop := fun e w' => ∃ gv dv rv bv, e = .returned (tabV smT gv dv rv bv) ∧ TabAt w' gv dv rv bv smT ∧ Ext w w'

/-- the groups' rows -/
def smW (W : World) : World := ((((W.alloc (.cells #[.int .i64 0, .int .i64 1] 3)).alloc (.cells #[.int .i64 4, .int .i64 5] 3)).alloc (.cells #[.int .i64 2, .int .i64 3] 3)).alloc (.cells #[.int .i64 6, .int .i64 7] 3)).alloc
  (.cells #[.slice (some ⟨W.heap.size, 0, none⟩) 2 2, .slice (some ⟨W.heap.size + 1, 0, none⟩) 2 2, .slice (some ⟨W.heap.size + 1 + 1, 0, none⟩) 2 2, .slice (some ⟨W.heap.size + 1 + 1 + 1, 0, none⟩) 2 2] 65)
def smGv (b : Nat) : List GV := [⟨.slice (some ⟨b, 0, none⟩) 2 2, .slice (some ⟨b + 1, 0, none⟩) 2 2, [0, 1], [4, 5]⟩, ⟨.slice (some ⟨b + 1 + 1, 0, none⟩) 2 2, .slice (some ⟨b + 1 + 1 + 1, 0, none⟩) 2 2, [2, 3], [6, 7]⟩]
theorem own_lit (w : World) (cs : Array Value) (xs : List Value) (e : TypeId) (n sz base B : Nat) (hx : cs.toList = xs) (hB : w.heap.size = B) (hb : base ≤ B) (hm : n ≤ maxLen) (hs : cs.size = n * sz) :
    (w.alloc (.cells cs e)).ownsRow base e sz (.slice (some ⟨B, 0, none⟩) n n) n xs := by
  subst hx hB
  exact ⟨by simpa using hs, .inr ⟨w.heap.size, n, cs, rfl, hb, heap_alloc_new w _, Nat.le_refl _, hm, hs, List.take_of_length_le (by rw [Array.length_toList, hs]; exact Nat.le_refl _)⟩⟩
theorem sm_made (W : World) : Made W.heap.size (smW W) (.slice (some ⟨W.heap.size + 1 + 1 + 1 + 1, 0, none⟩) 2 2) (smGv W.heap.size) nilS [] nilS [] nilS [] ∧ Ext W (smW W) := by
  unfold smW smGv
  have k2 : 2 ≤ maxLen := by unfold maxLen; omega
  refine ⟨⟨?_, ?_, ownsRow_nil _ _ _ _, ownsRow_nil _ _ _ _, ownsRow_nil _ _ _ _⟩, (((((Ext.refl W).alloc _).alloc _).alloc _).alloc _).alloc _⟩
  · exact own_lit _ _ _ _ 2 2 _ _ rfl (by simp) (by omega) k2 rfl
  · intro x hx
    simp only [List.mem_cons, List.not_mem_nil, or_false] at hx
    rcases hx with rfl | rfl
    · exact ⟨((((own_lit _ _ _ _ 2 1 _ _ rfl rfl (by omega) k2 rfl).alloc _).alloc _).alloc _).alloc _, (((own_lit _ _ _ _ 2 1 _ _ rfl (by simp) (by omega) k2 rfl).alloc _).alloc _).alloc _, by simp, by simp⟩
    · exact ⟨((own_lit _ _ _ _ 2 1 _ _ rfl (by simp) (by omega) k2 rfl).alloc _).alloc _, (own_lit _ _ _ _ 2 1 _ _ rfl (by simp) (by omega) k2 rfl).alloc _, by simp, by simp⟩

-- WALK
set_option maxRecDepth 100000 in
set_option maxHeartbeats 16000000 in
theorem Sample_c (w : World) : Calls Tryz.prog 12 #[] w (RetSample w) := by
  have hb0 := smZ
  have HB0 := Lib.hid hb0; clear hb0
  have hlen := smBox_len 0 (by omega) nilS nilS
  have hone := smBox_one 0 nilS nilS rfl rfl
  have hz : Tryz.zeroCells34.size = (smBox 0 nilS nilS).toArray.size := by
    have h1 : Tryz.zeroCells34.size = 131 := by kernel_rfl
    have h2 : (smBox 0 nilS nilS).toArray.size = 131 := by rw [List.size_toArray]; exact hlen
    exact h1.trans h2.symm
  have hi0 : (Tryz.prog.info? 34).map (·.size) = some (smBox 0 nilS nilS).toArray.size := by
    have h1 : (Tryz.prog.info? 34).map (·.size) = some 131 := by kernel_rfl
    rw [h1, List.size_toArray, hlen]
  have HL := Lib.hid hlen; clear hlen
  have HO := Lib.hid hone; clear hone
  have HI := Lib.hid hi0; clear hi0
  have HZ := Lib.hid hz; clear hz
  go_enter Tryz.func12, Tryz.ntmps12
  go_wp2_with ((with_reducible refine atStore 34 rfl ?_); refine wpList_store_new 34 _ _ rfl rfl (w.alloc (.cells Tryz.zeroCells34 34)) Tryz.zeroCells34 (smBox 0 nilS nilS).toArray rfl (w.heap.size + 1) rfl (by simp) (by exact congrArg Value.agg HB0.out) HI.out HZ.out HO.out (halt ?_))
  unfold Halt
  have hZ := (Own0.made (Ext.refl w) Tryz.zeroCells34.toList 34).ext ((Ext.refl _).alloc (.cells (smBox 0 nilS nilS).toArray 34))
  have hT := Own0.made ((Ext.refl w).alloc (.cells Tryz.zeroCells34.toList.toArray 34)) (smBox 0 nilS nilS) 34
  rw [World.size_alloc] at hT
  change Own0 w ((w.alloc (.cells Tryz.zeroCells34 34)).alloc (.cells (smBox 0 nilS nilS).toArray 34)) _ _ at hZ hT
  clear HI HZ HO HB0
  generalize (w.alloc (.cells Tryz.zeroCells34 34)).alloc (.cells (smBox 0 nilS nilS).toArray 34) = W1 at hZ hT ⊢
  have hzl : Tryz.zeroCells34.toList.length = 131 := by kernel_rfl
  generalize Tryz.zeroCells34.toList = Z at hZ hzl
  have HZL := Lib.hid hzl; clear hzl
  have hlt := hT.lt
  have h104 : (smBox 0 nilS nilS)[104]? = some nilS := by unfold smBox; kernel_rfl
  obtain ⟨hM, hx5⟩ := sm_made W1
  have hT5 := hT.ext hx5
  have hZ5 := hZ.ext hx5
  have hc := hT5.cell h104
  have hf := hT5.free 104
  have HT5 := Lib.hid (hT5.set 104 (.slice (some ⟨W1.heap.size + 1 + 1 + 1 + 1, 0, none⟩) 2 2))
  have HZ5 := Lib.hid (hZ5.other (g' := w.heap.size + 1) hT.new (by omega) 104 (.slice (some ⟨W1.heap.size + 1 + 1 + 1 + 1, 0, none⟩) 2 2))
  have HBW := Lib.hid (show W1.heap.size ≤ ((smW W1).setCell ⟨w.heap.size + 1, 104, none⟩ (.slice (some ⟨W1.heap.size + 1 + 1 + 1 + 1, 0, none⟩) 2 2)).heap.size by rw [size_set]; exact hx5.size)
  have HM5 := Lib.hid (hM.set (k := w.heap.size + 1) (o := 104) (u := .slice (some ⟨W1.heap.size + 1 + 1 + 1 + 1, 0, none⟩) 2 2) hlt)
  clear hT5 hZ5 hM hx5 hZ hT h104 HL
  have hu64 : (Instr.buildSlice 64 2 #[(0, .int .i64 0), (1, .int .i64 1)]) = (Instr.buildSlice 64 2 #[(0, .int .i64 0), (1, .int .i64 1)]) := rfl
  clear hu64
  unfold smW at hc hf HT5 HZ5 HM5 HBW
  go_wp2_with fail
  have HT := HT5; clear HT5
  have HZ := HZ5; clear HZ5
  have HM := HM5; clear HM5 hc hf
  generalize (((((W1.alloc (.cells #[.int .i64 0, .int .i64 1] 3)).alloc (.cells #[.int .i64 4, .int .i64 5] 3)).alloc (.cells #[.int .i64 2, .int .i64 3] 3)).alloc (.cells #[.int .i64 6, .int .i64 7] 3)).alloc (.cells #[.slice (some ⟨W1.heap.size, 0, none⟩) 2 2, .slice (some ⟨W1.heap.size + 1, 0, none⟩) 2 2, .slice (some ⟨W1.heap.size + 1 + 1, 0, none⟩) 2 2, .slice (some ⟨W1.heap.size + 1 + 1 + 1, 0, none⟩) 2 2] 65)).setCell ⟨w.heap.size + 1, 104, none⟩ (.slice (some ⟨W1.heap.size + 1 + 1 + 1 + 1, 0, none⟩) 2 2) = W2 at HT HZ HM HBW ⊢
  generalize hA5 : (Value.agg (((((((Tryz.zeroCells34.setIfInBounds 116 (.int .i64 100)).setIfInBounds 117 (.int .i64 200)).setIfInBounds 118 (.int .i64 60)).setIfInBounds 119 (.int .i64 20)).setIfInBounds 120 (.int .i64 100)).setIfInBounds 129 (.int .i64 8640000)).setIfInBounds 130 (.int .i64 600))) = A5
  clear hA5
  obtain ⟨gv, hgv⟩ : ∃ gv, gv = Value.slice (some ⟨W1.heap.size + 1 + 1 + 1 + 1, 0, none⟩) 2 2 := ⟨_, rfl⟩
  have hb : (smBox 0 nilS nilS).set 104 gv = smBox 0 gv nilS := sm_gv gv
  have hT0 := HT.out
  have hM0 := HM.out
  rw [← hgv] at hT0 hM0
  rw [hb] at hT0
  have hgone : gv.oneCell' = true := by rw [hgv]; rfl
  have HGO := Lib.hid hgone; clear hgone
  clear hb hgv HT HM
  have HT := Lib.hid hT0; clear hT0
  have HM := Lib.hid hM0; clear hM0
  obtain ⟨gvs, hgvs⟩ : ∃ gvs, gvs = smGv W1.heap.size := ⟨_, rfl⟩
  have HGV := Lib.hid (show gvs.map GV.g = smGroups ∧ gvs.length = 2 by rw [hgvs]; exact ⟨rfl, rfl⟩)
  have hM0 := HM.out
  rw [← hgvs] at hM0
  clear HM hgvs
  have HM := Lib.hid hM0; clear hM0
  generalize W1.heap.size = b at hlt HM HBW ⊢
  have hTb : w.heap.size + 1 < b := hlt
  go_loopw [14] (fun i wr => ∃ (p : Nat) (dv : Value), p ≤ 8 ∧ i = .int .i64 (p : Int) ∧ dv.oneCell' = true ∧ Own0 w wr w.heap.size Z ∧ Own0 w wr (w.heap.size + 1) (smBox p gv dv) ∧ Made b wr gv gvs dv ((List.range p).map smDet) nilS [] nilS [] ∧ b ≤ wr.heap.size) (fun i _ => 8 - (intOf i).toNat)
  case atStart => exact ⟨0, nilS, Nat.zero_le _, rfl, rfl, HZ.out, HT.out, HM.out, HBW.out⟩
  case round =>
    obtain ⟨p, dv, hp, rfl, hdone, hZ, hT, hM, hbw⟩ := hrel
    clear HZ HT HM HBW
    have HDO := Lib.hid hdone; clear hdone
    by_cases hlt2 : p < 8
    · have x0 : (0 : Int) ≤ (p : Int) := by omega
      have x1 : (p : Int) < 8 := by omega
      have HZ := Lib.hid hZ; clear hZ
      have HT := Lib.hid hT; clear hT
      have HM := Lib.hid hM; clear hM
      have hix : (Tryz.prog.info? 26).map (·.size) = some (#[.bool true, .int .i64 50, .int .i64 20, .int .i64 200, .int .i64 300, .int .i64 50, .int .i64 35, .int .i64 10, .int .i64 0, .int .i64 0, .int .i64 0, .bool true, .bool false] : Array Value).size := by kernel_rfl
      have HIX := Lib.hid hix; clear hix
      go_wp2_with ((with_reducible refine atStore 26 rfl ?_); (refine wpList_store_new 26 _ _ rfl rfl wr #[.bool false, .int .i64 0, .int .i64 0, .int .i64 0, .int .i64 0, .int .i64 0, .int .i64 0, .int .i64 0, .int .i64 0, .int .i64 0, .int .i64 0, .bool false, .bool false] #[.bool true, .int .i64 50, .int .i64 20, .int .i64 200, .int .i64 300, .int .i64 50, .int .i64 35, .int .i64 10, .int .i64 0, .int .i64 0, .int .i64 0, .bool true, .bool false] rfl wr.heap.size rfl rfl (by kernel_rfl) HIX.out (by kernel_rfl) (by kernel_rfl) (halt ?_)))
      unfold Halt
      have hltT := HT.out.lt
      have hx3 := (Ext.refl wr).alloc (.cells #[.bool true, .int .i64 50, .int .i64 20, .int .i64 200, .int .i64 300, .int .i64 50, .int .i64 35, .int .i64 10, .int .i64 0, .int .i64 0, .int .i64 0, .bool true, .bool false] 26)
      have hX3 : Own0 w (wr.alloc (.cells #[.bool true, .int .i64 50, .int .i64 20, .int .i64 200, .int .i64 300, .int .i64 50, .int .i64 35, .int .i64 10, .int .i64 0, .int .i64 0, .int .i64 0, .bool true, .bool false] 26)) wr.heap.size [.bool true, .int .i64 50, .int .i64 20, .int .i64 200, .int .i64 300, .int .i64 50, .int .i64 35, .int .i64 10, .int .i64 0, .int .i64 0, .int .i64 0, .bool true, .bool false] := Own0.made HT.out.x [.bool true, .int .i64 50, .int .i64 20, .int .i64 200, .int .i64 300, .int .i64 50, .int .i64 35, .int .i64 10, .int .i64 0, .int .i64 0, .int .i64 0, .bool true, .bool false] 26
      have hZ3 := HZ.out.ext hx3
      have hT3 := HT.out.ext hx3
      have hE3 := hx3.toB (w.heap.size + 1)
      clear HZ HT HIX hx3
      generalize wr.alloc (.cells #[.bool true, .int .i64 50, .int .i64 20, .int .i64 200, .int .i64 300, .int .i64 50, .int .i64 35, .int .i64 10, .int .i64 0, .int .i64 0, .int .i64 0, .bool true, .bool false] 26) = W3 at hX3 hZ3 hT3 hE3 ⊢
      obtain ⟨xb, hxb⟩ : ∃ xb, wr.heap.size = xb := ⟨_, rfl⟩
      rw [hxb] at hX3 hltT hbw ⊢
      have HXB := Lib.hid hxb; clear hxb
      have hne : ¬ xb = w.heap.size + 1 := by omega
      have hne2 : ¬ w.heap.size + 1 = xb := by omega
      have c8 : W3.cell? ⟨xb, 8, none⟩ = some (.int .i64 0) := hX3.cell rfl
      have c9 : W3.cell? ⟨xb, 9, none⟩ = some (.int .i64 0) := hX3.cell rfl
      have c10 : W3.cell? ⟨xb, 10, none⟩ = some (.int .i64 0) := hX3.cell rfl
      have f8 := hX3.free 8
      have f9 := hX3.free 9
      have f10 := hX3.free 10
      have ct := hT3.cell (smBox_fl p hlt2 gv dv)
      have ft := hT3.free (121 + p)
      have hxlt := hX3.lt
      have HX := Lib.hid hX3; clear hX3
      have HZ := Lib.hid hZ3; clear hZ3
      have HT := Lib.hid hT3; clear hT3
      have HE := Lib.hid hE3; clear hE3
      by_cases h4 : p % 4 = 1
      · have e2 : ((p : Int) % 2 == 1) = true := by simp; omega
        have e4 : ((p : Int) % 4 == 1) = true := by simp; omega
        have k2 : p % 2 = 1 := by omega
        have K2 := Lib.hid k2; clear k2
        have H4 := Lib.hid h4; clear h4
        go_wp2_with ((with_reducible refine atLoad 26 rfl ?_); refine halt ?_)
        unfold Halt
        have hX5 := (((((HX.out.set (8) (.int .i64 70)).set (9) (.int .i64 80)).other HT.out.new hne (121 + p) (.int .i64 1)).set (10) (.int .i64 1)).other HT.out.new hne (121 + p) (.int .i64 2))
        have hT5 := (((((HT.out.other HX.out.new hne2 (8) (.int .i64 70)).other HX.out.new hne2 (9) (.int .i64 80)).set (121 + p) (.int .i64 1)).other HX.out.new hne2 (10) (.int .i64 1)).set (121 + p) (.int .i64 2))
        have hZ5 := (((((HZ.out.other HX.out.new (by omega) (8) (.int .i64 70)).other HX.out.new (by omega) (9) (.int .i64 80)).other HT.out.new (by omega) (121 + p) (.int .i64 1)).other HX.out.new (by omega) (10) (.int .i64 1)).other HT.out.new (by omega) (121 + p) (.int .i64 2))
        have hE5 := (((((HE.out.put (g := xb) (j := 8) (v := (.int .i64 70)) (Or.inl (by rw [HXB.out]; exact Nat.le_refl _))).put (g := xb) (j := 9) (v := (.int .i64 80)) (Or.inl (by rw [HXB.out]; exact Nat.le_refl _))).put (g := w.heap.size + 1) (j := 121 + p) (v := (.int .i64 1)) (Or.inr rfl)).put (g := xb) (j := 10) (v := (.int .i64 1)) (Or.inl (by rw [HXB.out]; exact Nat.le_refl _))).put (g := w.heap.size + 1) (j := 121 + p) (v := (.int .i64 2)) (Or.inr rfl))
        clear HX HT HZ HE c8 c9 c10 f8 f9 f10 ct ft hxlt
        generalize (((((W3.setCell ⟨xb, 8, none⟩ (.int .i64 70)).setCell ⟨xb, 9, none⟩ (.int .i64 80)).setCell ⟨w.heap.size + 1, 121 + p, none⟩ (.int .i64 1)).setCell ⟨xb, 10, none⟩ (.int .i64 1)).setCell ⟨w.heap.size + 1, 121 + p, none⟩ (.int .i64 2)) = W5 at hX5 hT5 hZ5 hE5 ⊢
        have hpc : (((([.bool true, .int .i64 50, .int .i64 20, .int .i64 200, .int .i64 300, .int .i64 50, .int .i64 35, .int .i64 10, .int .i64 0, .int .i64 0, .int .i64 0, .bool true, .bool false] : List Value).set 8 (.int .i64 70)).set 9 (.int .i64 80)).set 10 (.int .i64 1)) = (smPh p).cells := by unfold smPh; rw [if_pos K2.out, if_pos K2.out, if_pos H4.out]; rfl
        have htc : ((smBox p gv dv).set (121 + p) (.int .i64 1)).set (121 + p) (.int .i64 2) = smOne p gv dv := by unfold smOne smFl; rw [if_pos H4.out, List.set_set]
        rw [hpc] at hX5
        rw [htc] at hT5
        clear hpc htc e2 e4 H4 K2
        have hpx : (Tryz.prog.info? 26).map (·.size) = some (smPh p).cells.length := by rw [(smPh p).len]; kernel_rfl
        have hpo : (smPh p).cells.toArray.all (·.oneCell') = true := all_oneCell_toArray (by simp [Ph.cells, Value.oneCell'])
        have hpl : (smPh p).cells.length = 13 := (smPh p).len
        have h2c : ((smPh p).cells.zipIdx (p * 13)).foldl (fun c x => c.set x.2 x.1) (smOne p gv dv) = smTwo p gv dv := by unfold smTwo; rfl
        have h1l : (smOne p gv dv).length = 131 := by unfold smOne; rw [List.length_set]; exact smBox_len p (by omega) gv dv
        generalize (smPh p).cells = px at hX5 hpx hpo hpl h2c
        have hps : (Tryz.prog.info? 26).map (·.size) = some px.toArray.size := by rw [List.size_toArray]; exact hpx
        have hth := hT5.there (p * 13) px.toArray.size (by rw [List.size_toArray, h1l, hpl]; omega)
        have HPX := Lib.hid hpx; clear hpx
        have HPO := Lib.hid hpo; clear hpo
        have HPS := Lib.hid hps; clear hps
        have HTH := Lib.hid hth; clear hth
        have H2C := Lib.hid h2c; clear h2c
        have HXR := Lib.hid hX5.range; clear hX5 hpl h1l
        have HT5 := Lib.hid hT5; clear hT5
        have HZ5 := Lib.hid hZ5; clear hZ5
        have HE5 := Lib.hid hE5; clear hE5
        go_wp2_with (first
          | ((with_reducible refine atLoad 26 rfl ?_); refine wpList_load_mid rfl 26 _ rfl xb 0 rfl px _ HXR.out Tryz.underlying26 rfl HPX.out ?_)
          | ((with_reducible refine atStore 26 rfl ?_); refine wpList_store_mid rfl 26 _ _ rfl (w.heap.size + 1) (p * 13) px.toArray rfl rfl HTH.out HPS.out HPO.out (halt ?_)))
        unfold Halt
        obtain ⟨cs', hcs', hT6⟩ := HT5.out.sets (p * 13) px
        rw [H2C.out] at hcs'
        subst hcs'
        have hZ6 := HZ5.out.sets_other (g' := (w.heap.size + 1)) HT5.out.new (by omega) (p * 13) px
        have hE6 := HE5.out.puts (o := p * 13) (vs := px)
        clear HPX HPO HPS HTH H2C HXR HT5 HZ5 HE5
        generalize W5.setCells (w.heap.size + 1) (p * 13) px = W6 at hT6 hZ6 hE6 ⊢
        have hM6 := HM.out.extB (B := (w.heap.size + 1)) hTb hE6
        have hbW6 : b ≤ W6.heap.size := by have := hE6.size; have := HXB.out; omega
        clear HM HXB hE6
        have ct := hT6.cell (smTwo_dv p hlt2 gv dv)
        have ft := hT6.free 113
        have hltT := hT6.lt
        have hdl : ((List.range p).map smDet).length = p := by simp
        have hown := hM6.d
        rw [hdl] at hown
        have hneT : some (w.heap.size + 1) ≠ dv.ownBlock := fun e => by have := (hown.lt _ e.symm).1; omega
        have HDS := Lib.hid (show (List.range p).map smDet ++ [smDet p] = (List.range (p + 1)).map smDet by rw [List.range_succ, List.map_append]; rfl)
        have HDL := Lib.hid hdl; clear hdl
        generalize (List.range p).map smDet = ds at hM6 hown HDS HDL
        have HOWN := Lib.hid hown; clear hown
        have HM6 := Lib.hid hM6; clear hM6
        have HT6 := Lib.hid hT6; clear hT6
        have HZ6 := Lib.hid hZ6; clear hZ6
        have hii := Tryz.infoDet
        cases hi : Tryz.prog.info? 68 with
        | none => rw [hi] at hii; cases hii
        | some i0 =>
        rw [hi] at hii
        simp only [Option.map_some, Option.some.injEq, Prod.mk.injEq] at hii
        obtain ⟨hz1, hz2, hz3⟩ := hii
        have HI := Lib.hid hi; clear hi
        have HZ1 := Lib.hid hz1; clear hz1
        have HZ2 := Lib.hid hz2; clear hz2
        have HZ3 := Lib.hid hz3; clear hz3
        have HDO2 := Lib.hid hneT; clear hneT
        go_wp2_with (at_builtin; (refine wpList_append_lies _ rfl _ _ 30 rfl b 68 i0 (.agg (⟨0, 0, 0, 0, 0, 0, 0⟩ : Det).cells.toArray) 7 56 Tryz.underlying30 HI.out HZ1.out HZ2.out HZ3.out rfl (by omega) dv p (ds.flatMap Det.cells) rfl (HOWN.out.alloc _) ⟨W6.heap.size, 0, none⟩ 1 1 (smDet p).cells rfl rfl (World.news_of_block (cs := (smDet p).cells.toArray) (t := 68) (fr := (0, 0)) (heap_alloc_new _ _)) (by simp [Det.cells, Value.oneCell']) (by omega) (by simp [maxLen]; omega) (by omega) (by simp; omega) (W6.heap.size + 1) (by simp) ?_; intro g cap W7 hown7 hgrow hat hlt7; have hcT7 := far_cell hgrow ct HDO2.out; have hzT7 := far_free hgrow ct ft HDO2.out))
        have hx7 := ((Ext.refl W6).alloc (.cells (smDet p).cells.toArray 68))
        have hlk := HOWN.out.lt
        have hkT : ∀ k, dv.ownBlock = some k → (w.heap.size + 1) ≠ k ∧ w.heap.size ≤ k := fun k e => by have := (hlk k e).1; omega
        have hkZ : ∀ k, dv.ownBlock = some k → w.heap.size ≠ k ∧ w.heap.size ≤ k := fun k e => by have := (hlk k e).1; omega
        have hT7 := (HT6.out.ext hx7).grown hgrow hkT
        have hT8 := hT7.set 113 (.slice (some ⟨g, 0, none⟩) (p + 1) cap)
        have hZ8 := ((HZ6.out.ext hx7).grown hgrow hkZ).other (g' := (w.heap.size + 1)) hT7.new (by omega) 113 (.slice (some ⟨g, 0, none⟩) (p + 1) cap)
        have hown' : W7.ownsRow b 68 7 (.slice (some ⟨g, 0, none⟩) (p + 1) cap) (ds.length + 1) (ds.flatMap Det.cells ++ (smDet p).cells) := by rw [HDL.out]; exact hown7
        have hM8 := ((HM6.out.extB (B := (w.heap.size + 1)) hTb (hx7.toB (w.heap.size + 1))).addD (smDet p) hgrow hown').set (k := (w.heap.size + 1)) (o := 113) (u := .slice (some ⟨g, 0, none⟩) (p + 1) cap) hTb
        have hbW8 : b ≤ (W7.setCell ⟨(w.heap.size + 1), 113, none⟩ (.slice (some ⟨g, 0, none⟩) (p + 1) cap)).heap.size := by rw [size_set]; have := hgrow.size; simp at this; omega
        rw [HDS.out] at hM8
        rw [smThr_zero p hlt2] at hT8
        have hdo : (Value.slice (some ⟨g, 0, none⟩) (p + 1) cap).oneCell' = true := rfl
        clear hown' hkZ hkT hlk hx7 hT7 HT6 HZ6 HM6 HOWN HDS HDL HDO2 hown7 hgrow hat hlt7 hcT7 hzT7 ct ft HI HZ1 HZ2 HZ3
        generalize W7.setCell ⟨(w.heap.size + 1), 113, none⟩ (.slice (some ⟨g, 0, none⟩) (p + 1) cap) = W8 at hT8 hZ8 hM8 hbW8 ⊢
        generalize (Value.slice (some ⟨g, 0, none⟩) (p + 1) cap) = dv' at hT8 hM8 hdo ⊢
        have HT := Lib.hid hT8; clear hT8
        have HZ := Lib.hid hZ8; clear hZ8
        have HM := Lib.hid hM8; clear hM8
        have HDN := Lib.hid hdo; clear hdo
        go_loopw [44] (fun i wq => ∃ q : Nat, q ≤ 8 ∧ i = .int .i64 (q : Int) ∧ Own0 w wq w.heap.size Z ∧ Own0 w wq (w.heap.size + 1) (smThr p gv dv dv' (smCn p q)) ∧ Made b wq gv gvs dv' ((List.range (p + 1)).map smDet) nilS [] nilS [] ∧ b ≤ wq.heap.size) (fun i _ => 8 - (intOf i).toNat)
        case atStart => exact ⟨0, Nat.zero_le _, rfl, HZ.out, HT.out, HM.out, hbW8⟩
        case round =>
          obtain ⟨q, hq, rfl, hZ, hT, hM, hbq⟩ := hrel
          clear HZ HT HM hbW8
          have hcT := hT.cell (smThr_at p hlt2 gv dv dv' (smCn p q))
          have hfT := hT.free (105 + p)
          have HT := Lib.hid hT; clear hT
          have HZ := Lib.hid hZ; clear hZ
          have HM := Lib.hid hM; clear hM
          by_cases hq8 : q < 8
          · have y0 : (0 : Int) ≤ (q : Int) := by omega
            have y1 : (q : Int) < 8 := by omega
            rcases smHas_ways p q with ⟨h, hA⟩ | ⟨h, hA, hB⟩ | ⟨h, hA, hB, hC⟩ | ⟨h, hA, hB, hC⟩
            · have hs := smCn_no h
              have hT2 := HT.out
              rw [← hs] at hT2
              have HT2 := Lib.hid hT2
              clear hT2 HT hs
              go_wp2_with fail
              go_roundw
              case rel => exact ⟨q + 1, by omega, by go_num, HZ.out, HT2.out, HM.out, hbq⟩
              case measure => simp [intOf]; omega

            · have hs := smCn_yes h
              go_wp2_with fail
              refine wp_region_held_drew (S := fun _ : World => True) (by kernel_rfl) trivial (fun hS => ?_)
              refine wpAnyH_take (i := 0) (oi := _) (v := .int .i64 (p : Int)) rfl (by kernel_rfl) (by kernel_rfl) (by kernel_rfl) (fun _ _ _ h => h) (Or.inl ⟨by kernel_rfl, fun _ _ => by kernel_rfl⟩) trivial ?_
              refine wpAnyH_take (i := 1) (oi := _) (v := .pointer (some ⟨w.heap.size + 1, 105, none⟩)) rfl (by kernel_rfl) (by kernel_rfl) (by kernel_rfl) (fun _ _ _ h => h) (yields_v (Instr.fieldAt 34 (.pointer (some ⟨w.heap.size + 1, 0, none⟩)) 2) (by kernel_rfl) (by kernel_rfl) (fun w' _ => by go_simp)) trivial ?_
              refine wpAnyH_take (i := 2) (oi := _) (v := .pointer (some ⟨w.heap.size + 1, 105 + p, none⟩)) rfl (by kernel_rfl) (by kernel_rfl) (by kernel_rfl) (fun _ _ _ h => h) (yields_v (Instr.indexAt 29 (.pointer (some ⟨w.heap.size + 1, 105, none⟩)) (.int .i64 (p : Int))) (by kernel_rfl) (by kernel_rfl) (fun w' _ => by go_simp)) trivial ?_
              refine wpAnyH_take (i := 4) (oi := _) (v := .int .i64 (q : Int)) rfl (by kernel_rfl) (by kernel_rfl) (by kernel_rfl) (fun _ _ _ h => h) (Or.inl ⟨by kernel_rfl, fun _ _ => by kernel_rfl⟩) trivial ?_
              refine wpAnyH_take (i := 5) (oi := _) (v := .int .i64 (shq q)) rfl (by kernel_rfl) (by kernel_rfl) (by kernel_rfl) (fun _ _ _ h => h) (Or.inl ⟨by kernel_rfl, fun W _ => by unfold shq; go_simp⟩) trivial ?_
              refine wpAnyH_take (i := 7) (oi := _) (v := .pointer (some ⟨w.heap.size + 1, 105, none⟩)) rfl (by kernel_rfl) (by kernel_rfl) (by kernel_rfl) (fun _ _ _ h => h) (yields_v (Instr.fieldAt 34 (.pointer (some ⟨w.heap.size + 1, 0, none⟩)) 2) (by kernel_rfl) (by kernel_rfl) (fun w' _ => by go_simp)) trivial ?_
              refine wpAnyH_one (i := 3) (by kernel_rfl) ?_
              refine wpOp_val (.int .i64 (smCn p q)) (wr.drew) rfl (by kernel_rfl) (Instr.loadAt 3 (.pointer (some ⟨w.heap.size + 1, 105 + p, none⟩))) (by kernel_rfl) (load_int hcT) ⟨trivial, ?_⟩
              refine wpAnyH_take (i := 6) (oi := _) (v := .int .i64 (bits .or .i64 (smCn p q) (shq q))) rfl (by kernel_rfl) (by kernel_rfl) (by kernel_rfl) (fun _ _ _ h => h) (Or.inl ⟨by kernel_rfl, fun W _ => by go_simp⟩) trivial ?_
              refine wpAnyH_take (i := 8) (oi := _) (v := .pointer (some ⟨w.heap.size + 1, 105 + p, none⟩)) rfl (by kernel_rfl) (by kernel_rfl) (by kernel_rfl) (fun _ _ _ h => h) (yields_v (Instr.indexAt 29 (.pointer (some ⟨w.heap.size + 1, 105, none⟩)) (.int .i64 (p : Int))) (by kernel_rfl) (by kernel_rfl) (fun w' _ => by go_simp)) trivial ?_
              refine wpAnyH_one (i := 9) (by kernel_rfl) ?_
              have hS9 : (fun _ : World => True) (wr.drew.setCell ⟨w.heap.size + 1, 105 + p, none⟩ (.int .i64 (bits .or .i64 (smCn p q) (shq q)))) := trivial
              refine wpOp_unit (wr.drew.setCell ⟨w.heap.size + 1, 105 + p, none⟩ (.int .i64 (bits .or .i64 (smCn p q) (shq q)))) rfl (by kernel_rfl) (Instr.storeAt 3 (.pointer (some ⟨w.heap.size + 1, 105 + p, none⟩)) (.int .i64 (bits .or .i64 (smCn p q) (shq q)))) (by kernel_rfl) (store_int _ hcT hfT) ⟨hS9, ?_⟩
              refine wpAnyH_done (by kernel_rfl) ?_ _
              go_simp
              go_wp2
              have hTn := HT.out.new
              have hT2 : Own0 w (wr.setCell ⟨w.heap.size + 1, 105 + p, none⟩ (.int .i64 (bits .or .i64 (smCn p q) (shq q)))).drew (w.heap.size + 1) (smThr p gv dv dv' (smCn p (q + 1))) := by
                rw [hs]
                have h9 := (HT.out.set (105 + p) (.int .i64 (bits .or .i64 (smCn p q) (shq q)))).ext ((Ext.refl (wr.setCell ⟨w.heap.size + 1, 105 + p, none⟩ (.int .i64 (bits .or .i64 (smCn p q) (shq q))))).drew)
                rwa [smThr_set] at h9
              have HT2 := Lib.hid hT2
              have HZ2 := Lib.hid ((HZ.out.other (g' := w.heap.size + 1) hTn (by omega) (105 + p) (.int .i64 (bits .or .i64 (smCn p q) (shq q)))).ext ((Ext.refl (wr.setCell ⟨w.heap.size + 1, 105 + p, none⟩ (.int .i64 (bits .or .i64 (smCn p q) (shq q))))).drew))
              have HM2 := Lib.hid ((HM.out.set (k := w.heap.size + 1) (o := 105 + p) (u := (.int .i64 (bits .or .i64 (smCn p q) (shq q)))) hTb).extB (B := w.heap.size + 1) hTb (((Ext.refl (wr.setCell ⟨w.heap.size + 1, 105 + p, none⟩ (.int .i64 (bits .or .i64 (smCn p q) (shq q))))).drew).toB _))
              clear hT2 hTn HT HZ HM hcT hfT hs
              go_roundw
              case rel => exact ⟨q + 1, by omega, by go_num, HZ2.out, HT2.out, HM2.out, by rw [show ∀ v, (wr.setCell ⟨w.heap.size + 1, 105 + p, none⟩ v).drew.heap.size = (wr.setCell ⟨w.heap.size + 1, 105 + p, none⟩ v).heap.size from fun _ => rfl, size_set]; exact hbq⟩
              case measure => simp [intOf]; omega

            · have hs := smCn_yes h
              go_wp2_with fail
              refine wp_region_held_drew (S := fun _ : World => True) (by kernel_rfl) trivial (fun hS => ?_)
              refine wpAnyH_take (i := 0) (oi := _) (v := .int .i64 (p : Int)) rfl (by kernel_rfl) (by kernel_rfl) (by kernel_rfl) (fun _ _ _ h => h) (Or.inl ⟨by kernel_rfl, fun _ _ => by kernel_rfl⟩) trivial ?_
              refine wpAnyH_take (i := 1) (oi := _) (v := .pointer (some ⟨w.heap.size + 1, 105, none⟩)) rfl (by kernel_rfl) (by kernel_rfl) (by kernel_rfl) (fun _ _ _ h => h) (yields_v (Instr.fieldAt 34 (.pointer (some ⟨w.heap.size + 1, 0, none⟩)) 2) (by kernel_rfl) (by kernel_rfl) (fun w' _ => by go_simp)) trivial ?_
              refine wpAnyH_take (i := 2) (oi := _) (v := .pointer (some ⟨w.heap.size + 1, 105 + p, none⟩)) rfl (by kernel_rfl) (by kernel_rfl) (by kernel_rfl) (fun _ _ _ h => h) (yields_v (Instr.indexAt 29 (.pointer (some ⟨w.heap.size + 1, 105, none⟩)) (.int .i64 (p : Int))) (by kernel_rfl) (by kernel_rfl) (fun w' _ => by go_simp)) trivial ?_
              refine wpAnyH_take (i := 4) (oi := _) (v := .int .i64 (q : Int)) rfl (by kernel_rfl) (by kernel_rfl) (by kernel_rfl) (fun _ _ _ h => h) (Or.inl ⟨by kernel_rfl, fun _ _ => by kernel_rfl⟩) trivial ?_
              refine wpAnyH_take (i := 5) (oi := _) (v := .int .i64 (shq q)) rfl (by kernel_rfl) (by kernel_rfl) (by kernel_rfl) (fun _ _ _ h => h) (Or.inl ⟨by kernel_rfl, fun W _ => by unfold shq; go_simp⟩) trivial ?_
              refine wpAnyH_take (i := 7) (oi := _) (v := .pointer (some ⟨w.heap.size + 1, 105, none⟩)) rfl (by kernel_rfl) (by kernel_rfl) (by kernel_rfl) (fun _ _ _ h => h) (yields_v (Instr.fieldAt 34 (.pointer (some ⟨w.heap.size + 1, 0, none⟩)) 2) (by kernel_rfl) (by kernel_rfl) (fun w' _ => by go_simp)) trivial ?_
              refine wpAnyH_one (i := 3) (by kernel_rfl) ?_
              refine wpOp_val (.int .i64 (smCn p q)) (wr.drew) rfl (by kernel_rfl) (Instr.loadAt 3 (.pointer (some ⟨w.heap.size + 1, 105 + p, none⟩))) (by kernel_rfl) (load_int hcT) ⟨trivial, ?_⟩
              refine wpAnyH_take (i := 6) (oi := _) (v := .int .i64 (bits .or .i64 (smCn p q) (shq q))) rfl (by kernel_rfl) (by kernel_rfl) (by kernel_rfl) (fun _ _ _ h => h) (Or.inl ⟨by kernel_rfl, fun W _ => by go_simp⟩) trivial ?_
              refine wpAnyH_take (i := 8) (oi := _) (v := .pointer (some ⟨w.heap.size + 1, 105 + p, none⟩)) rfl (by kernel_rfl) (by kernel_rfl) (by kernel_rfl) (fun _ _ _ h => h) (yields_v (Instr.indexAt 29 (.pointer (some ⟨w.heap.size + 1, 105, none⟩)) (.int .i64 (p : Int))) (by kernel_rfl) (by kernel_rfl) (fun w' _ => by go_simp)) trivial ?_
              refine wpAnyH_one (i := 9) (by kernel_rfl) ?_
              have hS9 : (fun _ : World => True) (wr.drew.setCell ⟨w.heap.size + 1, 105 + p, none⟩ (.int .i64 (bits .or .i64 (smCn p q) (shq q)))) := trivial
              refine wpOp_unit (wr.drew.setCell ⟨w.heap.size + 1, 105 + p, none⟩ (.int .i64 (bits .or .i64 (smCn p q) (shq q)))) rfl (by kernel_rfl) (Instr.storeAt 3 (.pointer (some ⟨w.heap.size + 1, 105 + p, none⟩)) (.int .i64 (bits .or .i64 (smCn p q) (shq q)))) (by kernel_rfl) (store_int _ hcT hfT) ⟨hS9, ?_⟩
              refine wpAnyH_done (by kernel_rfl) ?_ _
              go_simp
              go_wp2
              have hTn := HT.out.new
              have hT2 : Own0 w (wr.setCell ⟨w.heap.size + 1, 105 + p, none⟩ (.int .i64 (bits .or .i64 (smCn p q) (shq q)))).drew (w.heap.size + 1) (smThr p gv dv dv' (smCn p (q + 1))) := by
                rw [hs]
                have h9 := (HT.out.set (105 + p) (.int .i64 (bits .or .i64 (smCn p q) (shq q)))).ext ((Ext.refl (wr.setCell ⟨w.heap.size + 1, 105 + p, none⟩ (.int .i64 (bits .or .i64 (smCn p q) (shq q))))).drew)
                rwa [smThr_set] at h9
              have HT2 := Lib.hid hT2
              have HZ2 := Lib.hid ((HZ.out.other (g' := w.heap.size + 1) hTn (by omega) (105 + p) (.int .i64 (bits .or .i64 (smCn p q) (shq q)))).ext ((Ext.refl (wr.setCell ⟨w.heap.size + 1, 105 + p, none⟩ (.int .i64 (bits .or .i64 (smCn p q) (shq q))))).drew))
              have HM2 := Lib.hid ((HM.out.set (k := w.heap.size + 1) (o := 105 + p) (u := (.int .i64 (bits .or .i64 (smCn p q) (shq q)))) hTb).extB (B := w.heap.size + 1) hTb (((Ext.refl (wr.setCell ⟨w.heap.size + 1, 105 + p, none⟩ (.int .i64 (bits .or .i64 (smCn p q) (shq q))))).drew).toB _))
              clear hT2 hTn HT HZ HM hcT hfT hs
              go_roundw
              case rel => exact ⟨q + 1, by omega, by go_num, HZ2.out, HT2.out, HM2.out, by rw [show ∀ v, (wr.setCell ⟨w.heap.size + 1, 105 + p, none⟩ v).drew.heap.size = (wr.setCell ⟨w.heap.size + 1, 105 + p, none⟩ v).heap.size from fun _ => rfl, size_set]; exact hbq⟩
              case measure => simp [intOf]; omega

            · have hs := smCn_no h
              have hT2 := HT.out
              rw [← hs] at hT2
              have HT2 := Lib.hid hT2
              clear hT2 HT hs
              go_wp2_with fail
              go_roundw
              case rel => exact ⟨q + 1, by omega, by go_num, HZ.out, HT2.out, HM.out, hbq⟩
              case measure => simp [intOf]; omega

          · have hqq : q = 8 := by omega
            subst hqq
            have hT := HT.out
            rw [smThr_end p hlt2] at hT
            have HT2 := Lib.hid hT; clear hT HT hcT hfT
            go_wp2
            go_roundw
            case rel => exact ⟨p + 1, dv', by omega, by go_num, HDN.out, HZ.out, HT2.out, HM.out, hbq⟩
            case measure => simp [intOf]; omega
      by_cases h2 : p % 2 = 1
      · have e2 : ((p : Int) % 2 == 1) = true := by simp; omega
        have e4 : ((p : Int) % 4 == 1) = false := by simp; omega
        have k2 : p % 2 = 1 := by omega
        have K2 := Lib.hid k2; clear k2
        have H4 := Lib.hid h4; clear h4
        have H2 := Lib.hid h2; clear h2
        go_wp2_with ((with_reducible refine atLoad 26 rfl ?_); refine halt ?_)
        unfold Halt
        have hX5 := (((HX.out.set (8) (.int .i64 70)).set (9) (.int .i64 80)).other HT.out.new hne (121 + p) (.int .i64 1))
        have hT5 := (((HT.out.other HX.out.new hne2 (8) (.int .i64 70)).other HX.out.new hne2 (9) (.int .i64 80)).set (121 + p) (.int .i64 1))
        have hZ5 := (((HZ.out.other HX.out.new (by omega) (8) (.int .i64 70)).other HX.out.new (by omega) (9) (.int .i64 80)).other HT.out.new (by omega) (121 + p) (.int .i64 1))
        have hE5 := (((HE.out.put (g := xb) (j := 8) (v := (.int .i64 70)) (Or.inl (by rw [HXB.out]; exact Nat.le_refl _))).put (g := xb) (j := 9) (v := (.int .i64 80)) (Or.inl (by rw [HXB.out]; exact Nat.le_refl _))).put (g := w.heap.size + 1) (j := 121 + p) (v := (.int .i64 1)) (Or.inr rfl))
        clear HX HT HZ HE c8 c9 c10 f8 f9 f10 ct ft hxlt
        generalize (((W3.setCell ⟨xb, 8, none⟩ (.int .i64 70)).setCell ⟨xb, 9, none⟩ (.int .i64 80)).setCell ⟨w.heap.size + 1, 121 + p, none⟩ (.int .i64 1)) = W5 at hX5 hT5 hZ5 hE5 ⊢
        have hpc : ((([.bool true, .int .i64 50, .int .i64 20, .int .i64 200, .int .i64 300, .int .i64 50, .int .i64 35, .int .i64 10, .int .i64 0, .int .i64 0, .int .i64 0, .bool true, .bool false] : List Value).set 8 (.int .i64 70)).set 9 (.int .i64 80)) = (smPh p).cells := by unfold smPh; rw [if_pos K2.out, if_pos K2.out, if_neg H4.out]; rfl
        have htc : (smBox p gv dv).set (121 + p) (.int .i64 1) = smOne p gv dv := by unfold smOne smFl; rw [if_neg H4.out]
        rw [hpc] at hX5
        rw [htc] at hT5
        clear hpc htc e2 e4 H4 K2 H2
        have hpx : (Tryz.prog.info? 26).map (·.size) = some (smPh p).cells.length := by rw [(smPh p).len]; kernel_rfl
        have hpo : (smPh p).cells.toArray.all (·.oneCell') = true := all_oneCell_toArray (by simp [Ph.cells, Value.oneCell'])
        have hpl : (smPh p).cells.length = 13 := (smPh p).len
        have h2c : ((smPh p).cells.zipIdx (p * 13)).foldl (fun c x => c.set x.2 x.1) (smOne p gv dv) = smTwo p gv dv := by unfold smTwo; rfl
        have h1l : (smOne p gv dv).length = 131 := by unfold smOne; rw [List.length_set]; exact smBox_len p (by omega) gv dv
        generalize (smPh p).cells = px at hX5 hpx hpo hpl h2c
        have hps : (Tryz.prog.info? 26).map (·.size) = some px.toArray.size := by rw [List.size_toArray]; exact hpx
        have hth := hT5.there (p * 13) px.toArray.size (by rw [List.size_toArray, h1l, hpl]; omega)
        have HPX := Lib.hid hpx; clear hpx
        have HPO := Lib.hid hpo; clear hpo
        have HPS := Lib.hid hps; clear hps
        have HTH := Lib.hid hth; clear hth
        have H2C := Lib.hid h2c; clear h2c
        have HXR := Lib.hid hX5.range; clear hX5 hpl h1l
        have HT5 := Lib.hid hT5; clear hT5
        have HZ5 := Lib.hid hZ5; clear hZ5
        have HE5 := Lib.hid hE5; clear hE5
        go_wp2_with (first
          | ((with_reducible refine atLoad 26 rfl ?_); refine wpList_load_mid rfl 26 _ rfl xb 0 rfl px _ HXR.out Tryz.underlying26 rfl HPX.out ?_)
          | ((with_reducible refine atStore 26 rfl ?_); refine wpList_store_mid rfl 26 _ _ rfl (w.heap.size + 1) (p * 13) px.toArray rfl rfl HTH.out HPS.out HPO.out (halt ?_)))
        unfold Halt
        obtain ⟨cs', hcs', hT6⟩ := HT5.out.sets (p * 13) px
        rw [H2C.out] at hcs'
        subst hcs'
        have hZ6 := HZ5.out.sets_other (g' := (w.heap.size + 1)) HT5.out.new (by omega) (p * 13) px
        have hE6 := HE5.out.puts (o := p * 13) (vs := px)
        clear HPX HPO HPS HTH H2C HXR HT5 HZ5 HE5
        generalize W5.setCells (w.heap.size + 1) (p * 13) px = W6 at hT6 hZ6 hE6 ⊢
        have hM6 := HM.out.extB (B := (w.heap.size + 1)) hTb hE6
        have hbW6 : b ≤ W6.heap.size := by have := hE6.size; have := HXB.out; omega
        clear HM HXB hE6
        have ct := hT6.cell (smTwo_dv p hlt2 gv dv)
        have ft := hT6.free 113
        have hltT := hT6.lt
        have hdl : ((List.range p).map smDet).length = p := by simp
        have hown := hM6.d
        rw [hdl] at hown
        have hneT : some (w.heap.size + 1) ≠ dv.ownBlock := fun e => by have := (hown.lt _ e.symm).1; omega
        have HDS := Lib.hid (show (List.range p).map smDet ++ [smDet p] = (List.range (p + 1)).map smDet by rw [List.range_succ, List.map_append]; rfl)
        have HDL := Lib.hid hdl; clear hdl
        generalize (List.range p).map smDet = ds at hM6 hown HDS HDL
        have HOWN := Lib.hid hown; clear hown
        have HM6 := Lib.hid hM6; clear hM6
        have HT6 := Lib.hid hT6; clear hT6
        have HZ6 := Lib.hid hZ6; clear hZ6
        have hii := Tryz.infoDet
        cases hi : Tryz.prog.info? 68 with
        | none => rw [hi] at hii; cases hii
        | some i0 =>
        rw [hi] at hii
        simp only [Option.map_some, Option.some.injEq, Prod.mk.injEq] at hii
        obtain ⟨hz1, hz2, hz3⟩ := hii
        have HI := Lib.hid hi; clear hi
        have HZ1 := Lib.hid hz1; clear hz1
        have HZ2 := Lib.hid hz2; clear hz2
        have HZ3 := Lib.hid hz3; clear hz3
        have HDO2 := Lib.hid hneT; clear hneT
        go_wp2_with (at_builtin; (refine wpList_append_lies _ rfl _ _ 30 rfl b 68 i0 (.agg (⟨0, 0, 0, 0, 0, 0, 0⟩ : Det).cells.toArray) 7 56 Tryz.underlying30 HI.out HZ1.out HZ2.out HZ3.out rfl (by omega) dv p (ds.flatMap Det.cells) rfl (HOWN.out.alloc _) ⟨W6.heap.size, 0, none⟩ 1 1 (smDet p).cells rfl rfl (World.news_of_block (cs := (smDet p).cells.toArray) (t := 68) (fr := (0, 0)) (heap_alloc_new _ _)) (by simp [Det.cells, Value.oneCell']) (by omega) (by simp [maxLen]; omega) (by omega) (by simp; omega) (W6.heap.size + 1) (by simp) ?_; intro g cap W7 hown7 hgrow hat hlt7; have hcT7 := far_cell hgrow ct HDO2.out; have hzT7 := far_free hgrow ct ft HDO2.out))
        have hx7 := ((Ext.refl W6).alloc (.cells (smDet p).cells.toArray 68))
        have hlk := HOWN.out.lt
        have hkT : ∀ k, dv.ownBlock = some k → (w.heap.size + 1) ≠ k ∧ w.heap.size ≤ k := fun k e => by have := (hlk k e).1; omega
        have hkZ : ∀ k, dv.ownBlock = some k → w.heap.size ≠ k ∧ w.heap.size ≤ k := fun k e => by have := (hlk k e).1; omega
        have hT7 := (HT6.out.ext hx7).grown hgrow hkT
        have hT8 := hT7.set 113 (.slice (some ⟨g, 0, none⟩) (p + 1) cap)
        have hZ8 := ((HZ6.out.ext hx7).grown hgrow hkZ).other (g' := (w.heap.size + 1)) hT7.new (by omega) 113 (.slice (some ⟨g, 0, none⟩) (p + 1) cap)
        have hown' : W7.ownsRow b 68 7 (.slice (some ⟨g, 0, none⟩) (p + 1) cap) (ds.length + 1) (ds.flatMap Det.cells ++ (smDet p).cells) := by rw [HDL.out]; exact hown7
        have hM8 := ((HM6.out.extB (B := (w.heap.size + 1)) hTb (hx7.toB (w.heap.size + 1))).addD (smDet p) hgrow hown').set (k := (w.heap.size + 1)) (o := 113) (u := .slice (some ⟨g, 0, none⟩) (p + 1) cap) hTb
        have hbW8 : b ≤ (W7.setCell ⟨(w.heap.size + 1), 113, none⟩ (.slice (some ⟨g, 0, none⟩) (p + 1) cap)).heap.size := by rw [size_set]; have := hgrow.size; simp at this; omega
        rw [HDS.out] at hM8
        rw [smThr_zero p hlt2] at hT8
        have hdo : (Value.slice (some ⟨g, 0, none⟩) (p + 1) cap).oneCell' = true := rfl
        clear hown' hkZ hkT hlk hx7 hT7 HT6 HZ6 HM6 HOWN HDS HDL HDO2 hown7 hgrow hat hlt7 hcT7 hzT7 ct ft HI HZ1 HZ2 HZ3
        generalize W7.setCell ⟨(w.heap.size + 1), 113, none⟩ (.slice (some ⟨g, 0, none⟩) (p + 1) cap) = W8 at hT8 hZ8 hM8 hbW8 ⊢
        generalize (Value.slice (some ⟨g, 0, none⟩) (p + 1) cap) = dv' at hT8 hM8 hdo ⊢
        have HT := Lib.hid hT8; clear hT8
        have HZ := Lib.hid hZ8; clear hZ8
        have HM := Lib.hid hM8; clear hM8
        have HDN := Lib.hid hdo; clear hdo
        go_loopw [44] (fun i wq => ∃ q : Nat, q ≤ 8 ∧ i = .int .i64 (q : Int) ∧ Own0 w wq w.heap.size Z ∧ Own0 w wq (w.heap.size + 1) (smThr p gv dv dv' (smCn p q)) ∧ Made b wq gv gvs dv' ((List.range (p + 1)).map smDet) nilS [] nilS [] ∧ b ≤ wq.heap.size) (fun i _ => 8 - (intOf i).toNat)
        case atStart => exact ⟨0, Nat.zero_le _, rfl, HZ.out, HT.out, HM.out, hbW8⟩
        case round =>
          obtain ⟨q, hq, rfl, hZ, hT, hM, hbq⟩ := hrel
          clear HZ HT HM hbW8
          have hcT := hT.cell (smThr_at p hlt2 gv dv dv' (smCn p q))
          have hfT := hT.free (105 + p)
          have HT := Lib.hid hT; clear hT
          have HZ := Lib.hid hZ; clear hZ
          have HM := Lib.hid hM; clear hM
          by_cases hq8 : q < 8
          · have y0 : (0 : Int) ≤ (q : Int) := by omega
            have y1 : (q : Int) < 8 := by omega
            rcases smHas_ways p q with ⟨h, hA⟩ | ⟨h, hA, hB⟩ | ⟨h, hA, hB, hC⟩ | ⟨h, hA, hB, hC⟩
            · have hs := smCn_no h
              have hT2 := HT.out
              rw [← hs] at hT2
              have HT2 := Lib.hid hT2
              clear hT2 HT hs
              go_wp2_with fail
              go_roundw
              case rel => exact ⟨q + 1, by omega, by go_num, HZ.out, HT2.out, HM.out, hbq⟩
              case measure => simp [intOf]; omega

            · have hs := smCn_yes h
              go_wp2_with fail
              refine wp_region_held_drew (S := fun _ : World => True) (by kernel_rfl) trivial (fun hS => ?_)
              refine wpAnyH_take (i := 0) (oi := _) (v := .int .i64 (p : Int)) rfl (by kernel_rfl) (by kernel_rfl) (by kernel_rfl) (fun _ _ _ h => h) (Or.inl ⟨by kernel_rfl, fun _ _ => by kernel_rfl⟩) trivial ?_
              refine wpAnyH_take (i := 1) (oi := _) (v := .pointer (some ⟨w.heap.size + 1, 105, none⟩)) rfl (by kernel_rfl) (by kernel_rfl) (by kernel_rfl) (fun _ _ _ h => h) (yields_v (Instr.fieldAt 34 (.pointer (some ⟨w.heap.size + 1, 0, none⟩)) 2) (by kernel_rfl) (by kernel_rfl) (fun w' _ => by go_simp)) trivial ?_
              refine wpAnyH_take (i := 2) (oi := _) (v := .pointer (some ⟨w.heap.size + 1, 105 + p, none⟩)) rfl (by kernel_rfl) (by kernel_rfl) (by kernel_rfl) (fun _ _ _ h => h) (yields_v (Instr.indexAt 29 (.pointer (some ⟨w.heap.size + 1, 105, none⟩)) (.int .i64 (p : Int))) (by kernel_rfl) (by kernel_rfl) (fun w' _ => by go_simp)) trivial ?_
              refine wpAnyH_take (i := 4) (oi := _) (v := .int .i64 (q : Int)) rfl (by kernel_rfl) (by kernel_rfl) (by kernel_rfl) (fun _ _ _ h => h) (Or.inl ⟨by kernel_rfl, fun _ _ => by kernel_rfl⟩) trivial ?_
              refine wpAnyH_take (i := 5) (oi := _) (v := .int .i64 (shq q)) rfl (by kernel_rfl) (by kernel_rfl) (by kernel_rfl) (fun _ _ _ h => h) (Or.inl ⟨by kernel_rfl, fun W _ => by unfold shq; go_simp⟩) trivial ?_
              refine wpAnyH_take (i := 7) (oi := _) (v := .pointer (some ⟨w.heap.size + 1, 105, none⟩)) rfl (by kernel_rfl) (by kernel_rfl) (by kernel_rfl) (fun _ _ _ h => h) (yields_v (Instr.fieldAt 34 (.pointer (some ⟨w.heap.size + 1, 0, none⟩)) 2) (by kernel_rfl) (by kernel_rfl) (fun w' _ => by go_simp)) trivial ?_
              refine wpAnyH_one (i := 3) (by kernel_rfl) ?_
              refine wpOp_val (.int .i64 (smCn p q)) (wr.drew) rfl (by kernel_rfl) (Instr.loadAt 3 (.pointer (some ⟨w.heap.size + 1, 105 + p, none⟩))) (by kernel_rfl) (load_int hcT) ⟨trivial, ?_⟩
              refine wpAnyH_take (i := 6) (oi := _) (v := .int .i64 (bits .or .i64 (smCn p q) (shq q))) rfl (by kernel_rfl) (by kernel_rfl) (by kernel_rfl) (fun _ _ _ h => h) (Or.inl ⟨by kernel_rfl, fun W _ => by go_simp⟩) trivial ?_
              refine wpAnyH_take (i := 8) (oi := _) (v := .pointer (some ⟨w.heap.size + 1, 105 + p, none⟩)) rfl (by kernel_rfl) (by kernel_rfl) (by kernel_rfl) (fun _ _ _ h => h) (yields_v (Instr.indexAt 29 (.pointer (some ⟨w.heap.size + 1, 105, none⟩)) (.int .i64 (p : Int))) (by kernel_rfl) (by kernel_rfl) (fun w' _ => by go_simp)) trivial ?_
              refine wpAnyH_one (i := 9) (by kernel_rfl) ?_
              have hS9 : (fun _ : World => True) (wr.drew.setCell ⟨w.heap.size + 1, 105 + p, none⟩ (.int .i64 (bits .or .i64 (smCn p q) (shq q)))) := trivial
              refine wpOp_unit (wr.drew.setCell ⟨w.heap.size + 1, 105 + p, none⟩ (.int .i64 (bits .or .i64 (smCn p q) (shq q)))) rfl (by kernel_rfl) (Instr.storeAt 3 (.pointer (some ⟨w.heap.size + 1, 105 + p, none⟩)) (.int .i64 (bits .or .i64 (smCn p q) (shq q)))) (by kernel_rfl) (store_int _ hcT hfT) ⟨hS9, ?_⟩
              refine wpAnyH_done (by kernel_rfl) ?_ _
              go_simp
              go_wp2
              have hTn := HT.out.new
              have hT2 : Own0 w (wr.setCell ⟨w.heap.size + 1, 105 + p, none⟩ (.int .i64 (bits .or .i64 (smCn p q) (shq q)))).drew (w.heap.size + 1) (smThr p gv dv dv' (smCn p (q + 1))) := by
                rw [hs]
                have h9 := (HT.out.set (105 + p) (.int .i64 (bits .or .i64 (smCn p q) (shq q)))).ext ((Ext.refl (wr.setCell ⟨w.heap.size + 1, 105 + p, none⟩ (.int .i64 (bits .or .i64 (smCn p q) (shq q))))).drew)
                rwa [smThr_set] at h9
              have HT2 := Lib.hid hT2
              have HZ2 := Lib.hid ((HZ.out.other (g' := w.heap.size + 1) hTn (by omega) (105 + p) (.int .i64 (bits .or .i64 (smCn p q) (shq q)))).ext ((Ext.refl (wr.setCell ⟨w.heap.size + 1, 105 + p, none⟩ (.int .i64 (bits .or .i64 (smCn p q) (shq q))))).drew))
              have HM2 := Lib.hid ((HM.out.set (k := w.heap.size + 1) (o := 105 + p) (u := (.int .i64 (bits .or .i64 (smCn p q) (shq q)))) hTb).extB (B := w.heap.size + 1) hTb (((Ext.refl (wr.setCell ⟨w.heap.size + 1, 105 + p, none⟩ (.int .i64 (bits .or .i64 (smCn p q) (shq q))))).drew).toB _))
              clear hT2 hTn HT HZ HM hcT hfT hs
              go_roundw
              case rel => exact ⟨q + 1, by omega, by go_num, HZ2.out, HT2.out, HM2.out, by rw [show ∀ v, (wr.setCell ⟨w.heap.size + 1, 105 + p, none⟩ v).drew.heap.size = (wr.setCell ⟨w.heap.size + 1, 105 + p, none⟩ v).heap.size from fun _ => rfl, size_set]; exact hbq⟩
              case measure => simp [intOf]; omega

            · have hs := smCn_yes h
              go_wp2_with fail
              refine wp_region_held_drew (S := fun _ : World => True) (by kernel_rfl) trivial (fun hS => ?_)
              refine wpAnyH_take (i := 0) (oi := _) (v := .int .i64 (p : Int)) rfl (by kernel_rfl) (by kernel_rfl) (by kernel_rfl) (fun _ _ _ h => h) (Or.inl ⟨by kernel_rfl, fun _ _ => by kernel_rfl⟩) trivial ?_
              refine wpAnyH_take (i := 1) (oi := _) (v := .pointer (some ⟨w.heap.size + 1, 105, none⟩)) rfl (by kernel_rfl) (by kernel_rfl) (by kernel_rfl) (fun _ _ _ h => h) (yields_v (Instr.fieldAt 34 (.pointer (some ⟨w.heap.size + 1, 0, none⟩)) 2) (by kernel_rfl) (by kernel_rfl) (fun w' _ => by go_simp)) trivial ?_
              refine wpAnyH_take (i := 2) (oi := _) (v := .pointer (some ⟨w.heap.size + 1, 105 + p, none⟩)) rfl (by kernel_rfl) (by kernel_rfl) (by kernel_rfl) (fun _ _ _ h => h) (yields_v (Instr.indexAt 29 (.pointer (some ⟨w.heap.size + 1, 105, none⟩)) (.int .i64 (p : Int))) (by kernel_rfl) (by kernel_rfl) (fun w' _ => by go_simp)) trivial ?_
              refine wpAnyH_take (i := 4) (oi := _) (v := .int .i64 (q : Int)) rfl (by kernel_rfl) (by kernel_rfl) (by kernel_rfl) (fun _ _ _ h => h) (Or.inl ⟨by kernel_rfl, fun _ _ => by kernel_rfl⟩) trivial ?_
              refine wpAnyH_take (i := 5) (oi := _) (v := .int .i64 (shq q)) rfl (by kernel_rfl) (by kernel_rfl) (by kernel_rfl) (fun _ _ _ h => h) (Or.inl ⟨by kernel_rfl, fun W _ => by unfold shq; go_simp⟩) trivial ?_
              refine wpAnyH_take (i := 7) (oi := _) (v := .pointer (some ⟨w.heap.size + 1, 105, none⟩)) rfl (by kernel_rfl) (by kernel_rfl) (by kernel_rfl) (fun _ _ _ h => h) (yields_v (Instr.fieldAt 34 (.pointer (some ⟨w.heap.size + 1, 0, none⟩)) 2) (by kernel_rfl) (by kernel_rfl) (fun w' _ => by go_simp)) trivial ?_
              refine wpAnyH_one (i := 3) (by kernel_rfl) ?_
              refine wpOp_val (.int .i64 (smCn p q)) (wr.drew) rfl (by kernel_rfl) (Instr.loadAt 3 (.pointer (some ⟨w.heap.size + 1, 105 + p, none⟩))) (by kernel_rfl) (load_int hcT) ⟨trivial, ?_⟩
              refine wpAnyH_take (i := 6) (oi := _) (v := .int .i64 (bits .or .i64 (smCn p q) (shq q))) rfl (by kernel_rfl) (by kernel_rfl) (by kernel_rfl) (fun _ _ _ h => h) (Or.inl ⟨by kernel_rfl, fun W _ => by go_simp⟩) trivial ?_
              refine wpAnyH_take (i := 8) (oi := _) (v := .pointer (some ⟨w.heap.size + 1, 105 + p, none⟩)) rfl (by kernel_rfl) (by kernel_rfl) (by kernel_rfl) (fun _ _ _ h => h) (yields_v (Instr.indexAt 29 (.pointer (some ⟨w.heap.size + 1, 105, none⟩)) (.int .i64 (p : Int))) (by kernel_rfl) (by kernel_rfl) (fun w' _ => by go_simp)) trivial ?_
              refine wpAnyH_one (i := 9) (by kernel_rfl) ?_
              have hS9 : (fun _ : World => True) (wr.drew.setCell ⟨w.heap.size + 1, 105 + p, none⟩ (.int .i64 (bits .or .i64 (smCn p q) (shq q)))) := trivial
              refine wpOp_unit (wr.drew.setCell ⟨w.heap.size + 1, 105 + p, none⟩ (.int .i64 (bits .or .i64 (smCn p q) (shq q)))) rfl (by kernel_rfl) (Instr.storeAt 3 (.pointer (some ⟨w.heap.size + 1, 105 + p, none⟩)) (.int .i64 (bits .or .i64 (smCn p q) (shq q)))) (by kernel_rfl) (store_int _ hcT hfT) ⟨hS9, ?_⟩
              refine wpAnyH_done (by kernel_rfl) ?_ _
              go_simp
              go_wp2
              have hTn := HT.out.new
              have hT2 : Own0 w (wr.setCell ⟨w.heap.size + 1, 105 + p, none⟩ (.int .i64 (bits .or .i64 (smCn p q) (shq q)))).drew (w.heap.size + 1) (smThr p gv dv dv' (smCn p (q + 1))) := by
                rw [hs]
                have h9 := (HT.out.set (105 + p) (.int .i64 (bits .or .i64 (smCn p q) (shq q)))).ext ((Ext.refl (wr.setCell ⟨w.heap.size + 1, 105 + p, none⟩ (.int .i64 (bits .or .i64 (smCn p q) (shq q))))).drew)
                rwa [smThr_set] at h9
              have HT2 := Lib.hid hT2
              have HZ2 := Lib.hid ((HZ.out.other (g' := w.heap.size + 1) hTn (by omega) (105 + p) (.int .i64 (bits .or .i64 (smCn p q) (shq q)))).ext ((Ext.refl (wr.setCell ⟨w.heap.size + 1, 105 + p, none⟩ (.int .i64 (bits .or .i64 (smCn p q) (shq q))))).drew))
              have HM2 := Lib.hid ((HM.out.set (k := w.heap.size + 1) (o := 105 + p) (u := (.int .i64 (bits .or .i64 (smCn p q) (shq q)))) hTb).extB (B := w.heap.size + 1) hTb (((Ext.refl (wr.setCell ⟨w.heap.size + 1, 105 + p, none⟩ (.int .i64 (bits .or .i64 (smCn p q) (shq q))))).drew).toB _))
              clear hT2 hTn HT HZ HM hcT hfT hs
              go_roundw
              case rel => exact ⟨q + 1, by omega, by go_num, HZ2.out, HT2.out, HM2.out, by rw [show ∀ v, (wr.setCell ⟨w.heap.size + 1, 105 + p, none⟩ v).drew.heap.size = (wr.setCell ⟨w.heap.size + 1, 105 + p, none⟩ v).heap.size from fun _ => rfl, size_set]; exact hbq⟩
              case measure => simp [intOf]; omega

            · have hs := smCn_no h
              have hT2 := HT.out
              rw [← hs] at hT2
              have HT2 := Lib.hid hT2
              clear hT2 HT hs
              go_wp2_with fail
              go_roundw
              case rel => exact ⟨q + 1, by omega, by go_num, HZ.out, HT2.out, HM.out, hbq⟩
              case measure => simp [intOf]; omega

          · have hqq : q = 8 := by omega
            subst hqq
            have hT := HT.out
            rw [smThr_end p hlt2] at hT
            have HT2 := Lib.hid hT; clear hT HT hcT hfT
            go_wp2
            go_roundw
            case rel => exact ⟨p + 1, dv', by omega, by go_num, HDN.out, HZ.out, HT2.out, HM.out, hbq⟩
            case measure => simp [intOf]; omega
      · have e2 : ((p : Int) % 2 == 1) = false := by simp; omega
        have e4 : ((p : Int) % 4 == 1) = false := by simp; omega
        have k2 : ¬ p % 2 = 1 := by omega
        have K2 := Lib.hid k2; clear k2
        have H4 := Lib.hid h4; clear h4
        have H2 := Lib.hid h2; clear h2
        go_wp2_with ((with_reducible refine atLoad 26 rfl ?_); refine halt ?_)
        unfold Halt
        have hX5 := (HX.out.other HT.out.new hne (121 + p) (.int .i64 1))
        have hT5 := (HT.out.set (121 + p) (.int .i64 1))
        have hZ5 := (HZ.out.other HT.out.new (by omega) (121 + p) (.int .i64 1))
        have hE5 := (HE.out.put (g := w.heap.size + 1) (j := 121 + p) (v := (.int .i64 1)) (Or.inr rfl))
        clear HX HT HZ HE c8 c9 c10 f8 f9 f10 ct ft hxlt
        generalize (W3.setCell ⟨w.heap.size + 1, 121 + p, none⟩ (.int .i64 1)) = W5 at hX5 hT5 hZ5 hE5 ⊢
        have hpc : ([.bool true, .int .i64 50, .int .i64 20, .int .i64 200, .int .i64 300, .int .i64 50, .int .i64 35, .int .i64 10, .int .i64 0, .int .i64 0, .int .i64 0, .bool true, .bool false] : List Value) = (smPh p).cells := by unfold smPh; rw [if_neg K2.out, if_neg K2.out, if_neg H4.out]; rfl
        have htc : (smBox p gv dv).set (121 + p) (.int .i64 1) = smOne p gv dv := by unfold smOne smFl; rw [if_neg H4.out]
        rw [hpc] at hX5
        rw [htc] at hT5
        clear hpc htc e2 e4 H4 K2 H2
        have hpx : (Tryz.prog.info? 26).map (·.size) = some (smPh p).cells.length := by rw [(smPh p).len]; kernel_rfl
        have hpo : (smPh p).cells.toArray.all (·.oneCell') = true := all_oneCell_toArray (by simp [Ph.cells, Value.oneCell'])
        have hpl : (smPh p).cells.length = 13 := (smPh p).len
        have h2c : ((smPh p).cells.zipIdx (p * 13)).foldl (fun c x => c.set x.2 x.1) (smOne p gv dv) = smTwo p gv dv := by unfold smTwo; rfl
        have h1l : (smOne p gv dv).length = 131 := by unfold smOne; rw [List.length_set]; exact smBox_len p (by omega) gv dv
        generalize (smPh p).cells = px at hX5 hpx hpo hpl h2c
        have hps : (Tryz.prog.info? 26).map (·.size) = some px.toArray.size := by rw [List.size_toArray]; exact hpx
        have hth := hT5.there (p * 13) px.toArray.size (by rw [List.size_toArray, h1l, hpl]; omega)
        have HPX := Lib.hid hpx; clear hpx
        have HPO := Lib.hid hpo; clear hpo
        have HPS := Lib.hid hps; clear hps
        have HTH := Lib.hid hth; clear hth
        have H2C := Lib.hid h2c; clear h2c
        have HXR := Lib.hid hX5.range; clear hX5 hpl h1l
        have HT5 := Lib.hid hT5; clear hT5
        have HZ5 := Lib.hid hZ5; clear hZ5
        have HE5 := Lib.hid hE5; clear hE5
        go_wp2_with (first
          | ((with_reducible refine atLoad 26 rfl ?_); refine wpList_load_mid rfl 26 _ rfl xb 0 rfl px _ HXR.out Tryz.underlying26 rfl HPX.out ?_)
          | ((with_reducible refine atStore 26 rfl ?_); refine wpList_store_mid rfl 26 _ _ rfl (w.heap.size + 1) (p * 13) px.toArray rfl rfl HTH.out HPS.out HPO.out (halt ?_)))
        unfold Halt
        obtain ⟨cs', hcs', hT6⟩ := HT5.out.sets (p * 13) px
        rw [H2C.out] at hcs'
        subst hcs'
        have hZ6 := HZ5.out.sets_other (g' := (w.heap.size + 1)) HT5.out.new (by omega) (p * 13) px
        have hE6 := HE5.out.puts (o := p * 13) (vs := px)
        clear HPX HPO HPS HTH H2C HXR HT5 HZ5 HE5
        generalize W5.setCells (w.heap.size + 1) (p * 13) px = W6 at hT6 hZ6 hE6 ⊢
        have hM6 := HM.out.extB (B := (w.heap.size + 1)) hTb hE6
        have hbW6 : b ≤ W6.heap.size := by have := hE6.size; have := HXB.out; omega
        clear HM HXB hE6
        have ct := hT6.cell (smTwo_dv p hlt2 gv dv)
        have ft := hT6.free 113
        have hltT := hT6.lt
        have hdl : ((List.range p).map smDet).length = p := by simp
        have hown := hM6.d
        rw [hdl] at hown
        have hneT : some (w.heap.size + 1) ≠ dv.ownBlock := fun e => by have := (hown.lt _ e.symm).1; omega
        have HDS := Lib.hid (show (List.range p).map smDet ++ [smDet p] = (List.range (p + 1)).map smDet by rw [List.range_succ, List.map_append]; rfl)
        have HDL := Lib.hid hdl; clear hdl
        generalize (List.range p).map smDet = ds at hM6 hown HDS HDL
        have HOWN := Lib.hid hown; clear hown
        have HM6 := Lib.hid hM6; clear hM6
        have HT6 := Lib.hid hT6; clear hT6
        have HZ6 := Lib.hid hZ6; clear hZ6
        have hii := Tryz.infoDet
        cases hi : Tryz.prog.info? 68 with
        | none => rw [hi] at hii; cases hii
        | some i0 =>
        rw [hi] at hii
        simp only [Option.map_some, Option.some.injEq, Prod.mk.injEq] at hii
        obtain ⟨hz1, hz2, hz3⟩ := hii
        have HI := Lib.hid hi; clear hi
        have HZ1 := Lib.hid hz1; clear hz1
        have HZ2 := Lib.hid hz2; clear hz2
        have HZ3 := Lib.hid hz3; clear hz3
        have HDO2 := Lib.hid hneT; clear hneT
        go_wp2_with (at_builtin; (refine wpList_append_lies _ rfl _ _ 30 rfl b 68 i0 (.agg (⟨0, 0, 0, 0, 0, 0, 0⟩ : Det).cells.toArray) 7 56 Tryz.underlying30 HI.out HZ1.out HZ2.out HZ3.out rfl (by omega) dv p (ds.flatMap Det.cells) rfl (HOWN.out.alloc _) ⟨W6.heap.size, 0, none⟩ 1 1 (smDet p).cells rfl rfl (World.news_of_block (cs := (smDet p).cells.toArray) (t := 68) (fr := (0, 0)) (heap_alloc_new _ _)) (by simp [Det.cells, Value.oneCell']) (by omega) (by simp [maxLen]; omega) (by omega) (by simp; omega) (W6.heap.size + 1) (by simp) ?_; intro g cap W7 hown7 hgrow hat hlt7; have hcT7 := far_cell hgrow ct HDO2.out; have hzT7 := far_free hgrow ct ft HDO2.out))
        have hx7 := ((Ext.refl W6).alloc (.cells (smDet p).cells.toArray 68))
        have hlk := HOWN.out.lt
        have hkT : ∀ k, dv.ownBlock = some k → (w.heap.size + 1) ≠ k ∧ w.heap.size ≤ k := fun k e => by have := (hlk k e).1; omega
        have hkZ : ∀ k, dv.ownBlock = some k → w.heap.size ≠ k ∧ w.heap.size ≤ k := fun k e => by have := (hlk k e).1; omega
        have hT7 := (HT6.out.ext hx7).grown hgrow hkT
        have hT8 := hT7.set 113 (.slice (some ⟨g, 0, none⟩) (p + 1) cap)
        have hZ8 := ((HZ6.out.ext hx7).grown hgrow hkZ).other (g' := (w.heap.size + 1)) hT7.new (by omega) 113 (.slice (some ⟨g, 0, none⟩) (p + 1) cap)
        have hown' : W7.ownsRow b 68 7 (.slice (some ⟨g, 0, none⟩) (p + 1) cap) (ds.length + 1) (ds.flatMap Det.cells ++ (smDet p).cells) := by rw [HDL.out]; exact hown7
        have hM8 := ((HM6.out.extB (B := (w.heap.size + 1)) hTb (hx7.toB (w.heap.size + 1))).addD (smDet p) hgrow hown').set (k := (w.heap.size + 1)) (o := 113) (u := .slice (some ⟨g, 0, none⟩) (p + 1) cap) hTb
        have hbW8 : b ≤ (W7.setCell ⟨(w.heap.size + 1), 113, none⟩ (.slice (some ⟨g, 0, none⟩) (p + 1) cap)).heap.size := by rw [size_set]; have := hgrow.size; simp at this; omega
        rw [HDS.out] at hM8
        rw [smThr_zero p hlt2] at hT8
        have hdo : (Value.slice (some ⟨g, 0, none⟩) (p + 1) cap).oneCell' = true := rfl
        clear hown' hkZ hkT hlk hx7 hT7 HT6 HZ6 HM6 HOWN HDS HDL HDO2 hown7 hgrow hat hlt7 hcT7 hzT7 ct ft HI HZ1 HZ2 HZ3
        generalize W7.setCell ⟨(w.heap.size + 1), 113, none⟩ (.slice (some ⟨g, 0, none⟩) (p + 1) cap) = W8 at hT8 hZ8 hM8 hbW8 ⊢
        generalize (Value.slice (some ⟨g, 0, none⟩) (p + 1) cap) = dv' at hT8 hM8 hdo ⊢
        have HT := Lib.hid hT8; clear hT8
        have HZ := Lib.hid hZ8; clear hZ8
        have HM := Lib.hid hM8; clear hM8
        have HDN := Lib.hid hdo; clear hdo
        go_loopw [44] (fun i wq => ∃ q : Nat, q ≤ 8 ∧ i = .int .i64 (q : Int) ∧ Own0 w wq w.heap.size Z ∧ Own0 w wq (w.heap.size + 1) (smThr p gv dv dv' (smCn p q)) ∧ Made b wq gv gvs dv' ((List.range (p + 1)).map smDet) nilS [] nilS [] ∧ b ≤ wq.heap.size) (fun i _ => 8 - (intOf i).toNat)
        case atStart => exact ⟨0, Nat.zero_le _, rfl, HZ.out, HT.out, HM.out, hbW8⟩
        case round =>
          obtain ⟨q, hq, rfl, hZ, hT, hM, hbq⟩ := hrel
          clear HZ HT HM hbW8
          have hcT := hT.cell (smThr_at p hlt2 gv dv dv' (smCn p q))
          have hfT := hT.free (105 + p)
          have HT := Lib.hid hT; clear hT
          have HZ := Lib.hid hZ; clear hZ
          have HM := Lib.hid hM; clear hM
          by_cases hq8 : q < 8
          · have y0 : (0 : Int) ≤ (q : Int) := by omega
            have y1 : (q : Int) < 8 := by omega
            rcases smHas_ways p q with ⟨h, hA⟩ | ⟨h, hA, hB⟩ | ⟨h, hA, hB, hC⟩ | ⟨h, hA, hB, hC⟩
            · have hs := smCn_no h
              have hT2 := HT.out
              rw [← hs] at hT2
              have HT2 := Lib.hid hT2
              clear hT2 HT hs
              go_wp2_with fail
              go_roundw
              case rel => exact ⟨q + 1, by omega, by go_num, HZ.out, HT2.out, HM.out, hbq⟩
              case measure => simp [intOf]; omega

            · have hs := smCn_yes h
              go_wp2_with fail
              refine wp_region_held_drew (S := fun _ : World => True) (by kernel_rfl) trivial (fun hS => ?_)
              refine wpAnyH_take (i := 0) (oi := _) (v := .int .i64 (p : Int)) rfl (by kernel_rfl) (by kernel_rfl) (by kernel_rfl) (fun _ _ _ h => h) (Or.inl ⟨by kernel_rfl, fun _ _ => by kernel_rfl⟩) trivial ?_
              refine wpAnyH_take (i := 1) (oi := _) (v := .pointer (some ⟨w.heap.size + 1, 105, none⟩)) rfl (by kernel_rfl) (by kernel_rfl) (by kernel_rfl) (fun _ _ _ h => h) (yields_v (Instr.fieldAt 34 (.pointer (some ⟨w.heap.size + 1, 0, none⟩)) 2) (by kernel_rfl) (by kernel_rfl) (fun w' _ => by go_simp)) trivial ?_
              refine wpAnyH_take (i := 2) (oi := _) (v := .pointer (some ⟨w.heap.size + 1, 105 + p, none⟩)) rfl (by kernel_rfl) (by kernel_rfl) (by kernel_rfl) (fun _ _ _ h => h) (yields_v (Instr.indexAt 29 (.pointer (some ⟨w.heap.size + 1, 105, none⟩)) (.int .i64 (p : Int))) (by kernel_rfl) (by kernel_rfl) (fun w' _ => by go_simp)) trivial ?_
              refine wpAnyH_take (i := 4) (oi := _) (v := .int .i64 (q : Int)) rfl (by kernel_rfl) (by kernel_rfl) (by kernel_rfl) (fun _ _ _ h => h) (Or.inl ⟨by kernel_rfl, fun _ _ => by kernel_rfl⟩) trivial ?_
              refine wpAnyH_take (i := 5) (oi := _) (v := .int .i64 (shq q)) rfl (by kernel_rfl) (by kernel_rfl) (by kernel_rfl) (fun _ _ _ h => h) (Or.inl ⟨by kernel_rfl, fun W _ => by unfold shq; go_simp⟩) trivial ?_
              refine wpAnyH_take (i := 7) (oi := _) (v := .pointer (some ⟨w.heap.size + 1, 105, none⟩)) rfl (by kernel_rfl) (by kernel_rfl) (by kernel_rfl) (fun _ _ _ h => h) (yields_v (Instr.fieldAt 34 (.pointer (some ⟨w.heap.size + 1, 0, none⟩)) 2) (by kernel_rfl) (by kernel_rfl) (fun w' _ => by go_simp)) trivial ?_
              refine wpAnyH_one (i := 3) (by kernel_rfl) ?_
              refine wpOp_val (.int .i64 (smCn p q)) (wr.drew) rfl (by kernel_rfl) (Instr.loadAt 3 (.pointer (some ⟨w.heap.size + 1, 105 + p, none⟩))) (by kernel_rfl) (load_int hcT) ⟨trivial, ?_⟩
              refine wpAnyH_take (i := 6) (oi := _) (v := .int .i64 (bits .or .i64 (smCn p q) (shq q))) rfl (by kernel_rfl) (by kernel_rfl) (by kernel_rfl) (fun _ _ _ h => h) (Or.inl ⟨by kernel_rfl, fun W _ => by go_simp⟩) trivial ?_
              refine wpAnyH_take (i := 8) (oi := _) (v := .pointer (some ⟨w.heap.size + 1, 105 + p, none⟩)) rfl (by kernel_rfl) (by kernel_rfl) (by kernel_rfl) (fun _ _ _ h => h) (yields_v (Instr.indexAt 29 (.pointer (some ⟨w.heap.size + 1, 105, none⟩)) (.int .i64 (p : Int))) (by kernel_rfl) (by kernel_rfl) (fun w' _ => by go_simp)) trivial ?_
              refine wpAnyH_one (i := 9) (by kernel_rfl) ?_
              have hS9 : (fun _ : World => True) (wr.drew.setCell ⟨w.heap.size + 1, 105 + p, none⟩ (.int .i64 (bits .or .i64 (smCn p q) (shq q)))) := trivial
              refine wpOp_unit (wr.drew.setCell ⟨w.heap.size + 1, 105 + p, none⟩ (.int .i64 (bits .or .i64 (smCn p q) (shq q)))) rfl (by kernel_rfl) (Instr.storeAt 3 (.pointer (some ⟨w.heap.size + 1, 105 + p, none⟩)) (.int .i64 (bits .or .i64 (smCn p q) (shq q)))) (by kernel_rfl) (store_int _ hcT hfT) ⟨hS9, ?_⟩
              refine wpAnyH_done (by kernel_rfl) ?_ _
              go_simp
              go_wp2
              have hTn := HT.out.new
              have hT2 : Own0 w (wr.setCell ⟨w.heap.size + 1, 105 + p, none⟩ (.int .i64 (bits .or .i64 (smCn p q) (shq q)))).drew (w.heap.size + 1) (smThr p gv dv dv' (smCn p (q + 1))) := by
                rw [hs]
                have h9 := (HT.out.set (105 + p) (.int .i64 (bits .or .i64 (smCn p q) (shq q)))).ext ((Ext.refl (wr.setCell ⟨w.heap.size + 1, 105 + p, none⟩ (.int .i64 (bits .or .i64 (smCn p q) (shq q))))).drew)
                rwa [smThr_set] at h9
              have HT2 := Lib.hid hT2
              have HZ2 := Lib.hid ((HZ.out.other (g' := w.heap.size + 1) hTn (by omega) (105 + p) (.int .i64 (bits .or .i64 (smCn p q) (shq q)))).ext ((Ext.refl (wr.setCell ⟨w.heap.size + 1, 105 + p, none⟩ (.int .i64 (bits .or .i64 (smCn p q) (shq q))))).drew))
              have HM2 := Lib.hid ((HM.out.set (k := w.heap.size + 1) (o := 105 + p) (u := (.int .i64 (bits .or .i64 (smCn p q) (shq q)))) hTb).extB (B := w.heap.size + 1) hTb (((Ext.refl (wr.setCell ⟨w.heap.size + 1, 105 + p, none⟩ (.int .i64 (bits .or .i64 (smCn p q) (shq q))))).drew).toB _))
              clear hT2 hTn HT HZ HM hcT hfT hs
              go_roundw
              case rel => exact ⟨q + 1, by omega, by go_num, HZ2.out, HT2.out, HM2.out, by rw [show ∀ v, (wr.setCell ⟨w.heap.size + 1, 105 + p, none⟩ v).drew.heap.size = (wr.setCell ⟨w.heap.size + 1, 105 + p, none⟩ v).heap.size from fun _ => rfl, size_set]; exact hbq⟩
              case measure => simp [intOf]; omega

            · have hs := smCn_yes h
              go_wp2_with fail
              refine wp_region_held_drew (S := fun _ : World => True) (by kernel_rfl) trivial (fun hS => ?_)
              refine wpAnyH_take (i := 0) (oi := _) (v := .int .i64 (p : Int)) rfl (by kernel_rfl) (by kernel_rfl) (by kernel_rfl) (fun _ _ _ h => h) (Or.inl ⟨by kernel_rfl, fun _ _ => by kernel_rfl⟩) trivial ?_
              refine wpAnyH_take (i := 1) (oi := _) (v := .pointer (some ⟨w.heap.size + 1, 105, none⟩)) rfl (by kernel_rfl) (by kernel_rfl) (by kernel_rfl) (fun _ _ _ h => h) (yields_v (Instr.fieldAt 34 (.pointer (some ⟨w.heap.size + 1, 0, none⟩)) 2) (by kernel_rfl) (by kernel_rfl) (fun w' _ => by go_simp)) trivial ?_
              refine wpAnyH_take (i := 2) (oi := _) (v := .pointer (some ⟨w.heap.size + 1, 105 + p, none⟩)) rfl (by kernel_rfl) (by kernel_rfl) (by kernel_rfl) (fun _ _ _ h => h) (yields_v (Instr.indexAt 29 (.pointer (some ⟨w.heap.size + 1, 105, none⟩)) (.int .i64 (p : Int))) (by kernel_rfl) (by kernel_rfl) (fun w' _ => by go_simp)) trivial ?_
              refine wpAnyH_take (i := 4) (oi := _) (v := .int .i64 (q : Int)) rfl (by kernel_rfl) (by kernel_rfl) (by kernel_rfl) (fun _ _ _ h => h) (Or.inl ⟨by kernel_rfl, fun _ _ => by kernel_rfl⟩) trivial ?_
              refine wpAnyH_take (i := 5) (oi := _) (v := .int .i64 (shq q)) rfl (by kernel_rfl) (by kernel_rfl) (by kernel_rfl) (fun _ _ _ h => h) (Or.inl ⟨by kernel_rfl, fun W _ => by unfold shq; go_simp⟩) trivial ?_
              refine wpAnyH_take (i := 7) (oi := _) (v := .pointer (some ⟨w.heap.size + 1, 105, none⟩)) rfl (by kernel_rfl) (by kernel_rfl) (by kernel_rfl) (fun _ _ _ h => h) (yields_v (Instr.fieldAt 34 (.pointer (some ⟨w.heap.size + 1, 0, none⟩)) 2) (by kernel_rfl) (by kernel_rfl) (fun w' _ => by go_simp)) trivial ?_
              refine wpAnyH_one (i := 3) (by kernel_rfl) ?_
              refine wpOp_val (.int .i64 (smCn p q)) (wr.drew) rfl (by kernel_rfl) (Instr.loadAt 3 (.pointer (some ⟨w.heap.size + 1, 105 + p, none⟩))) (by kernel_rfl) (load_int hcT) ⟨trivial, ?_⟩
              refine wpAnyH_take (i := 6) (oi := _) (v := .int .i64 (bits .or .i64 (smCn p q) (shq q))) rfl (by kernel_rfl) (by kernel_rfl) (by kernel_rfl) (fun _ _ _ h => h) (Or.inl ⟨by kernel_rfl, fun W _ => by go_simp⟩) trivial ?_
              refine wpAnyH_take (i := 8) (oi := _) (v := .pointer (some ⟨w.heap.size + 1, 105 + p, none⟩)) rfl (by kernel_rfl) (by kernel_rfl) (by kernel_rfl) (fun _ _ _ h => h) (yields_v (Instr.indexAt 29 (.pointer (some ⟨w.heap.size + 1, 105, none⟩)) (.int .i64 (p : Int))) (by kernel_rfl) (by kernel_rfl) (fun w' _ => by go_simp)) trivial ?_
              refine wpAnyH_one (i := 9) (by kernel_rfl) ?_
              have hS9 : (fun _ : World => True) (wr.drew.setCell ⟨w.heap.size + 1, 105 + p, none⟩ (.int .i64 (bits .or .i64 (smCn p q) (shq q)))) := trivial
              refine wpOp_unit (wr.drew.setCell ⟨w.heap.size + 1, 105 + p, none⟩ (.int .i64 (bits .or .i64 (smCn p q) (shq q)))) rfl (by kernel_rfl) (Instr.storeAt 3 (.pointer (some ⟨w.heap.size + 1, 105 + p, none⟩)) (.int .i64 (bits .or .i64 (smCn p q) (shq q)))) (by kernel_rfl) (store_int _ hcT hfT) ⟨hS9, ?_⟩
              refine wpAnyH_done (by kernel_rfl) ?_ _
              go_simp
              go_wp2
              have hTn := HT.out.new
              have hT2 : Own0 w (wr.setCell ⟨w.heap.size + 1, 105 + p, none⟩ (.int .i64 (bits .or .i64 (smCn p q) (shq q)))).drew (w.heap.size + 1) (smThr p gv dv dv' (smCn p (q + 1))) := by
                rw [hs]
                have h9 := (HT.out.set (105 + p) (.int .i64 (bits .or .i64 (smCn p q) (shq q)))).ext ((Ext.refl (wr.setCell ⟨w.heap.size + 1, 105 + p, none⟩ (.int .i64 (bits .or .i64 (smCn p q) (shq q))))).drew)
                rwa [smThr_set] at h9
              have HT2 := Lib.hid hT2
              have HZ2 := Lib.hid ((HZ.out.other (g' := w.heap.size + 1) hTn (by omega) (105 + p) (.int .i64 (bits .or .i64 (smCn p q) (shq q)))).ext ((Ext.refl (wr.setCell ⟨w.heap.size + 1, 105 + p, none⟩ (.int .i64 (bits .or .i64 (smCn p q) (shq q))))).drew))
              have HM2 := Lib.hid ((HM.out.set (k := w.heap.size + 1) (o := 105 + p) (u := (.int .i64 (bits .or .i64 (smCn p q) (shq q)))) hTb).extB (B := w.heap.size + 1) hTb (((Ext.refl (wr.setCell ⟨w.heap.size + 1, 105 + p, none⟩ (.int .i64 (bits .or .i64 (smCn p q) (shq q))))).drew).toB _))
              clear hT2 hTn HT HZ HM hcT hfT hs
              go_roundw
              case rel => exact ⟨q + 1, by omega, by go_num, HZ2.out, HT2.out, HM2.out, by rw [show ∀ v, (wr.setCell ⟨w.heap.size + 1, 105 + p, none⟩ v).drew.heap.size = (wr.setCell ⟨w.heap.size + 1, 105 + p, none⟩ v).heap.size from fun _ => rfl, size_set]; exact hbq⟩
              case measure => simp [intOf]; omega

            · have hs := smCn_no h
              have hT2 := HT.out
              rw [← hs] at hT2
              have HT2 := Lib.hid hT2
              clear hT2 HT hs
              go_wp2_with fail
              go_roundw
              case rel => exact ⟨q + 1, by omega, by go_num, HZ.out, HT2.out, HM.out, hbq⟩
              case measure => simp [intOf]; omega

          · have hqq : q = 8 := by omega
            subst hqq
            have hT := HT.out
            rw [smThr_end p hlt2] at hT
            have HT2 := Lib.hid hT; clear hT HT hcT hfT
            go_wp2
            go_roundw
            case rel => exact ⟨p + 1, dv', by omega, by go_num, HDN.out, HZ.out, HT2.out, HM.out, hbq⟩
            case measure => simp [intOf]; omega
    · have hpp : p = 8 := by omega
      subst hpp
      have hltT := hT.lt
      have k1 : 1 ≤ maxLen := by unfold maxLen; omega
      have x1 := (Ext.refl wr).alloc (.cells #[.int .i64 204, .int .i64 136, .int .i64 34, .int .i64 68, .int .i64 5, .int .i64 20, .int .i64 30, .int .i64 100, .int .i64 100, .int .i64 3000, .int .i64 4000] 72)
      have c114 := (hT.ext x1).cell (sm_end1 gv dv)
      have f114 := (hT.ext x1).free 114
      have hT1 := hT.set 114 (.slice (some ⟨wr.heap.size, 0, none⟩) 1 1)
      have x3 := ((Ext.refl (wr.setCell ⟨(w.heap.size + 1), 114, none⟩ (.slice (some ⟨wr.heap.size, 0, none⟩) 1 1))).alloc (.cells #[.int .i64 204, .int .i64 136, .int .i64 34, .int .i64 68, .int .i64 5, .int .i64 20, .int .i64 30, .int .i64 100, .int .i64 100, .int .i64 3000, .int .i64 4000] 72)).alloc (.cells #[.int .i64 34, .int .i64 600] 74)
      have hT3 := hT1.ext x3
      have c115 := hT3.cell (sm_end2 gv dv (.slice (some ⟨wr.heap.size, 0, none⟩) 1 1))
      have f115 := hT3.free 115
      have hT4 := hT3.set 115 (.slice (some ⟨wr.heap.size + 1, 0, none⟩) 1 1)
      rw [sm_end] at hT4
      have hZ4 := ((hZ.other (g' := (w.heap.size + 1)) hT.new (by omega) 114 (.slice (some ⟨wr.heap.size, 0, none⟩) 1 1)).ext x3).other (g' := (w.heap.size + 1)) hT.new (by omega) 115 (.slice (some ⟨wr.heap.size + 1, 0, none⟩) 1 1)
      have hsu : (wr.setCell ⟨(w.heap.size + 1), 114, none⟩ (.slice (some ⟨wr.heap.size, 0, none⟩) 1 1)).heap.size = wr.heap.size := by rw [size_set]
      have hE4 := (((ExtB.refl (w.heap.size + 1) wr).put (g := (w.heap.size + 1)) (j := 114) (v := (.slice (some ⟨wr.heap.size, 0, none⟩) 1 1)) (Or.inr rfl)).trans (x3.toB (w.heap.size + 1))).put (g := (w.heap.size + 1)) (j := 115) (v := (.slice (some ⟨wr.heap.size + 1, 0, none⟩) 1 1)) (Or.inr rfl)
      have hMx := hM.extB (B := (w.heap.size + 1)) hTb hE4
      have hr0 : (((wr.setCell ⟨(w.heap.size + 1), 114, none⟩ (.slice (some ⟨wr.heap.size, 0, none⟩) 1 1)).alloc (.cells #[.int .i64 204, .int .i64 136, .int .i64 34, .int .i64 68, .int .i64 5, .int .i64 20, .int .i64 30, .int .i64 100, .int .i64 100, .int .i64 3000, .int .i64 4000] 72)).alloc (.cells #[.int .i64 34, .int .i64 600] 74)).ownsRow b 72 11 (.slice (some ⟨wr.heap.size, 0, none⟩) 1 1) 1 [.int .i64 204, .int .i64 136, .int .i64 34, .int .i64 68, .int .i64 5, .int .i64 20, .int .i64 30, .int .i64 100, .int .i64 100, .int .i64 3000, .int .i64 4000] := (own_lit _ _ _ _ 1 11 _ _ rfl hsu hbw k1 rfl).alloc _
      have hb0 : (((wr.setCell ⟨(w.heap.size + 1), 114, none⟩ (.slice (some ⟨wr.heap.size, 0, none⟩) 1 1)).alloc (.cells #[.int .i64 204, .int .i64 136, .int .i64 34, .int .i64 68, .int .i64 5, .int .i64 20, .int .i64 30, .int .i64 100, .int .i64 100, .int .i64 3000, .int .i64 4000] 72)).alloc (.cells #[.int .i64 34, .int .i64 600] 74)).ownsRow b 74 2 (.slice (some ⟨wr.heap.size + 1, 0, none⟩) 1 1) 1 [.int .i64 34, .int .i64 600] := own_lit _ _ _ _ 1 2 _ _ rfl (by rw [World.size_alloc, hsu]) (by omega) k1 rfl
      have hr4 := ownsRow_set hr0 (g := (w.heap.size + 1)) (o := 115) (u := (.slice (some ⟨wr.heap.size + 1, 0, none⟩) 1 1)) hTb
      have hb4 := ownsRow_set hb0 (g := (w.heap.size + 1)) (o := 115) (u := (.slice (some ⟨wr.heap.size + 1, 0, none⟩) 1 1)) hTb
      have hMf : Made b ((((wr.setCell ⟨(w.heap.size + 1), 114, none⟩ (.slice (some ⟨wr.heap.size, 0, none⟩) 1 1)).alloc (.cells #[.int .i64 204, .int .i64 136, .int .i64 34, .int .i64 68, .int .i64 5, .int .i64 20, .int .i64 30, .int .i64 100, .int .i64 100, .int .i64 3000, .int .i64 4000] 72)).alloc (.cells #[.int .i64 34, .int .i64 600] 74)).setCell ⟨(w.heap.size + 1), 115, none⟩ (.slice (some ⟨wr.heap.size + 1, 0, none⟩) 1 1)) gv gvs dv smT.dets (.slice (some ⟨wr.heap.size, 0, none⟩) 1 1) smT.rails (.slice (some ⟨wr.heap.size + 1, 0, none⟩) 1 1) smT.buses := ⟨hMx.g, hMx.gr, hMx.d, hr4, hb4⟩
      have hTA : TabAt ((((wr.setCell ⟨(w.heap.size + 1), 114, none⟩ (.slice (some ⟨wr.heap.size, 0, none⟩) 1 1)).alloc (.cells #[.int .i64 204, .int .i64 136, .int .i64 34, .int .i64 68, .int .i64 5, .int .i64 20, .int .i64 30, .int .i64 100, .int .i64 100, .int .i64 3000, .int .i64 4000] 72)).alloc (.cells #[.int .i64 34, .int .i64 600] 74)).setCell ⟨(w.heap.size + 1), 115, none⟩ (.slice (some ⟨wr.heap.size + 1, 0, none⟩) 1 1)) gv dv (.slice (some ⟨wr.heap.size, 0, none⟩) 1 1) (.slice (some ⟨wr.heap.size + 1, 0, none⟩) 1 1) smT := hMf.tabAt smT HGV.out.1.symm rfl rfl rfl (by rw [HGV.out.2]; omega) (by simp [smT, mkTab]) (by simp [smT, mkTab]) (by simp [smT, mkTab])
      have HONE := Lib.hid (tab_one hTA)
      have hTF : TabAt (((((wr.setCell ⟨(w.heap.size + 1), 114, none⟩ (.slice (some ⟨wr.heap.size, 0, none⟩) 1 1)).alloc (.cells #[.int .i64 204, .int .i64 136, .int .i64 34, .int .i64 68, .int .i64 5, .int .i64 20, .int .i64 30, .int .i64 100, .int .i64 100, .int .i64 3000, .int .i64 4000] 72)).alloc (.cells #[.int .i64 34, .int .i64 600] 74)).setCell ⟨(w.heap.size + 1), 115, none⟩ (.slice (some ⟨wr.heap.size + 1, 0, none⟩) 1 1)).setCells w.heap.size 0 (smT.cells gv dv (.slice (some ⟨wr.heap.size, 0, none⟩) 1 1) (.slice (some ⟨wr.heap.size + 1, 0, none⟩) 1 1))) gv dv (.slice (some ⟨wr.heap.size, 0, none⟩) 1 1) (.slice (some ⟨wr.heap.size + 1, 0, none⟩) 1 1) smT :=
        (hMf.sets (k := w.heap.size) (by omega) 0).tabAt smT HGV.out.1.symm rfl rfl rfl (by rw [HGV.out.2]; omega) (by simp [smT, mkTab]) (by simp [smT, mkTab]) (by simp [smT, mkTab])
      have HTF := Lib.hid hTF
      have hzl := HZL.out
      have hF := hZ4.all (smT.cells gv dv (.slice (some ⟨wr.heap.size, 0, none⟩) 1 1) (.slice (some ⟨wr.heap.size + 1, 0, none⟩) 1 1)) (by rw [hzl, Tab.cells_len])
      have HF := Lib.hid hF
      have HTH := Lib.hid (hZ4.there 0 (smT.cells gv dv (.slice (some ⟨wr.heap.size, 0, none⟩) 1 1) (.slice (some ⟨wr.heap.size + 1, 0, none⟩) 1 1)).toArray.size (by rw [List.size_toArray, hzl, Tab.cells_len]; omega))
      have HR := Lib.hid hT4.range
      have hil : (Tryz.prog.info? 34).map (·.size) = some (smT.cells gv dv (.slice (some ⟨wr.heap.size, 0, none⟩) 1 1) (.slice (some ⟨wr.heap.size + 1, 0, none⟩) 1 1)).length := by rw [Tab.cells_len]; kernel_rfl
      have his : (Tryz.prog.info? 34).map (·.size) = some (smT.cells gv dv (.slice (some ⟨wr.heap.size, 0, none⟩) 1 1) (.slice (some ⟨wr.heap.size + 1, 0, none⟩) 1 1)).toArray.size := by rw [List.size_toArray]; exact hil
      have HIL := Lib.hid hil; clear hil
      have HIS := Lib.hid his; clear his
      clear hF hzl hTF hTA hMf hb4 hr4 hb0 hr0 hMx hE4 hZ4 hT4 hT3 hT1 x3 x1 hsu hT hZ hM HGV HGO HDO HZL
      obtain ⟨cs, hcs⟩ : ∃ cs, cs = smT.cells gv dv (.slice (some ⟨wr.heap.size, 0, none⟩) 1 1) (.slice (some ⟨wr.heap.size + 1, 0, none⟩) 1 1) := ⟨_, rfl⟩
      have HCS := Lib.hid hcs
      rw [← hcs] at HF HTH HR HIL HIS HONE HTF
      clear hcs
      go_wp2_with (first
        | ((with_reducible refine atLoad 34 rfl ?_); (refine wpList_load_mid rfl 34 _ rfl (w.heap.size + 1) 0 rfl cs _ HR.out Tryz.underlying34 rfl HIL.out ?_))
        | ((with_reducible refine atStore 34 rfl ?_); (refine wpList_store_mid rfl 34 _ _ rfl w.heap.size 0 cs.toArray rfl rfl HTH.out HIS.out HONE.out (halt ?_))))
      unfold Halt
      go_wp2
      exact bodyPost_ret (results_agg rfl _ _ _ _ rfl _ _ HF.out.range Tryz.underlying34 rfl HIL.out) rfl ⟨gv, dv, _, _, by rw [HCS.out]; rfl, HTF.out, HF.out.x⟩
end Go.Proofs.YtpopnmelcplbbaaGreat
