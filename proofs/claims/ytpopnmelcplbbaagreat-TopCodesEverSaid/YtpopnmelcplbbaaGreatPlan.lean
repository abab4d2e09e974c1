/-
  set.Of, sat.Sum, plan.On.
-/
import Derived.Test.YtpopnmelcplbbaaGreatGEnc
import Derived.Test.YtpopnmelcplbbaaGreatGBase
set_option linter.unusedVariables false
set_option linter.unusedSimpArgs false
namespace Go.Proofs.YtpopnmelcplbbaaGreat
open Go.RowKit

theorem setOr_snoc (s : Int) (l : List Int) (k : Nat) (h : k < l.length) : setOr s (l.take (k + 1)) = bits .or .i64 (setOr s (l.take k)) (bitOf l[k]) := by
  unfold setOr
  rw [List.take_succ_eq_append_getElem h, List.foldl_append]; rfl

theorem Of_c (w : World) (sv : Value) (xs : List Int) (hs : RowIn w sv xs.length (ints xs)) (hlen : xs.length ≤ 1000000) :
    Calls Tryz.prog 144 #[sv] w (Ret w (.int .i64 (ofL xs))) := by
  obtain ⟨a, cp, rfl, hrow⟩ := hs
  have HROW := Lib.hid hrow; clear hrow
  go_enter Tryz.func144, Tryz.ntmps144
  go_wp2
  go_loop [3, 8] (fun s i => ∃ k : Nat, k ≤ xs.length ∧ i = .int .i64 k ∧ s = .int .i64 (setOr 0 (xs.take k))) (fun _ i => xs.length - (intOf i).toNat)
  case atStart => exact ⟨0, Nat.zero_le _, rfl, rfl⟩
  case round =>
    obtain ⟨k, hk, rfl, rfl⟩ := hrel
    by_cases hlt : k < xs.length
    · have HS := Lib.hid (setOr_snoc 0 xs k hlt)
      rcases HROW.out with ⟨h0, _⟩ | ⟨b, off, rfl, hb, hc⟩
      · omega
      have hck := hc k _ (ints_get xs k hlt)
      clear hc
      generalize setOr 0 (xs.take k) = sk at HS
      generalize xs[k] = x at HS hck
      go_wp2_with (go_at_call 93; refine (bit_c _ _).mono ?_; rintro e w' ⟨rfl, rfl⟩)
      go_round
      case rel => exact ⟨k + 1, by omega, by go_num, by rw [HS.out]⟩
      case measure => simp [intOf]; omega
    · have hk' : xs.take k = xs := List.take_of_length_le (by omega)
      rw [hk']
      clear hk'
      go_wp2
      go_ret
      exact ⟨rfl, Ext.refl _⟩

def sumL (xs : List Int) : Int := xs.foldl satAdd 0
theorem sumL_snoc (l : List Int) (k : Nat) (h : k < l.length) : sumL (l.take (k + 1)) = satAdd (sumL (l.take k)) l[k] := by
  unfold sumL
  rw [List.take_succ_eq_append_getElem h, List.foldl_append]; rfl

theorem Sum_c (w : World) (sv : Value) (xs : List Int) (hs : RowIn w sv xs.length (ints xs)) (hlen : xs.length ≤ 1000000) :
    Calls Tryz.prog 90 #[sv] w (Ret w (.int .i64 (sumL xs))) := by
  obtain ⟨a, cp, rfl, hrow⟩ := hs
  have HROW := Lib.hid hrow; clear hrow
  go_enter Tryz.func90, Tryz.ntmps90
  go_wp2
  go_loop [3, 8] (fun s i => ∃ k : Nat, k ≤ xs.length ∧ i = .int .i64 k ∧ s = .int .i64 (sumL (xs.take k))) (fun _ i => xs.length - (intOf i).toNat)
  case atStart => exact ⟨0, Nat.zero_le _, rfl, rfl⟩
  case round =>
    obtain ⟨k, hk, rfl, rfl⟩ := hrel
    by_cases hlt : k < xs.length
    · have HS := Lib.hid (sumL_snoc xs k hlt)
      rcases HROW.out with ⟨h0, _⟩ | ⟨b, off, rfl, hb, hc⟩
      · omega
      have hck := hc k _ (ints_get xs k hlt)
      clear hc
      generalize sumL (xs.take k) = sk at HS
      generalize xs[k] = x at HS hck
      go_wp2_with (go_at_call 88; refine (Add_c _ _ _).mono ?_; rintro e w' ⟨rfl, rfl⟩)
      go_round
      case rel => exact ⟨k + 1, by omega, by go_num, by rw [HS.out]⟩
      case measure => simp [intOf]; omega
    · have hk' : xs.take k = xs := List.take_of_length_le (by omega)
      rw [hk']
      clear hk'
      go_wp2
      go_ret
      exact ⟨rfl, Ext.refl _⟩

/-! ### a table's box -/
/-- block b holds the table t, and has done since w -/
structure TB (W : World) (b : Nat) (t : Tab) (gv dv rv bv : Value) : Prop where
  at_ : ∃ T fr, W.heap[b]? = some (.cells (t.cells gv dv rv bv).toArray T fr)
section
variable {W W' : World} {b : Nat} {t : Tab} {gv dv rv bv : Value}
theorem TB.lt (h : TB W b t gv dv rv bv) : b < W.heap.size := by obtain ⟨T, fr, h⟩ := h.at_; exact (Array.getElem?_eq_some_iff.1 h).1
theorem TB.new (W : World) (t : Tab) (gv dv rv bv : Value) (T : TypeId) : TB (W.alloc (.cells (t.cells gv dv rv bv).toArray T)) W.heap.size t gv dv rv bv := ⟨⟨T, _, heap_alloc_last _ _⟩⟩
theorem TB.ext (h : TB W b t gv dv rv bv) (e : Ext W W') : TB W' b t gv dv rv bv := by
  obtain ⟨T, fr, h1⟩ := h.at_
  exact ⟨⟨T, fr, (e.below.block b h.lt).trans h1⟩⟩
theorem TB.kept (h : TB W b t gv dv rv bv) (e : W'.heap[b]? = W.heap[b]?) : TB W' b t gv dv rv bv := by
  obtain ⟨T, fr, h1⟩ := h.at_
  exact ⟨⟨T, fr, e.trans h1⟩⟩
theorem TB.cell (h : TB W b t gv dv rv bv) {j : Nat} {v : Value} (hj : (t.cells gv dv rv bv)[j]? = some v) : W.cell? ⟨b, j, none⟩ = some v := by
  obtain ⟨T, fr, h1⟩ := h.at_
  rw [cell_of_row W b j _ _ _ h1]; simpa using hj
theorem TB.range (h : TB W b t gv dv rv bv) : W.rangeAt b 0 (t.cells gv dv rv bv) := fun j v hj => by rw [Nat.zero_add]; exact h.cell hj
theorem TB.phs (h : TB W b t gv dv rv bv) : W.rangeAt b 0 (t.phs.flatMap Ph.cells) := fun j v hj => by rw [Nat.zero_add]; exact h.cell (t.cells_ph _ _ _ _ _ _ hj)
theorem TB.ph (h : TB W b t gv dv rv bv) (p : Nat) (hp : p < 8) : W.rangeAt b (p * 13) (t.ph p).cells := fun j v hj => h.cell (t.cells_phs _ _ _ _ p hp j v hj)
end

/-! ### plan.On -/
def onU (t : Tab) (k : Nat) : Int := (List.range k).foldl (fun s p => if (t.ph p).on then withP s (p : Int) else s) 0
def onS (t : Tab) : Int := onU t 8
theorem onU_succ (t : Tab) (k : Nat) : onU t (k + 1) = if (t.ph k).on then withP (onU t k) (k : Int) else onU t k := by
  unfold onU
  rw [List.range_succ, List.foldl_append]; rfl

set_option maxRecDepth 100000 in
set_option maxHeartbeats 1000000 in
theorem On_c (w : World) (gv dv rv bv : Value) (t : Tab) : Calls Tryz.prog 31 #[tabV t gv dv rv bv] w (Ret w (.int .i64 (onS t))) := by
  have hidx : ∀ k, k < 8 → ((t.phs.flatMap Ph.cells).drop (k * 13)).take 13 = (t.ph k).cells := fun k hk => by
    rw [flat_drop Ph.cells 13 t.phs (fun _ _ => rfl) k (by rw [t.phs_len]; exact hk)]
    simp [Tab.phs]
  have hpc := (TB.new w t gv dv rv bv 34).phs
  have hx0 := (Ext.refl w).alloc (.cells (t.cells gv dv rv bv).toArray 34)
  have hsz : (Tryz.prog.info? 27).map (·.size) = some (t.phs.flatMap Ph.cells).length := by rw [t.phs_cells_len]; kernel_rfl
  unfold tabV
  generalize t.cells gv dv rv bv = cells at hpc hx0
  generalize t.phs.flatMap Ph.cells = PL at hidx hpc hsz
  have HI := Lib.hid hidx; clear hidx
  have HPC := Lib.hid hpc; clear hpc
  have HX := Lib.hid hx0; clear hx0
  have HSZ := Lib.hid hsz; clear hsz
  go_enter Tryz.func31, Tryz.ntmps31
  go_wp2_with (refine wpList_load_mid rfl 27 _ rfl _ _ rfl _ _ HPC.out Tryz.underlying27 rfl HSZ.out ?_)
  go_loopw [3, 8] (fun s i wr => ∃ k : Nat, k ≤ 8 ∧ i = .int .i64 k ∧ s = .int .i64 (onU t k) ∧ Ext w wr) (fun _ i _ => 8 - (intOf i).toNat)
  case atStart => exact ⟨0, Nat.zero_le _, rfl, rfl, HX.out⟩
  case round =>
    obtain ⟨k, hk, rfl, rfl, hx⟩ := hrel
    by_cases hlt : k < 8
    · have HS := Lib.hid (onU_succ t k)
      have hi := HI.out k hlt
      generalize onU t k = sk at HS
      generalize t.ph k = x at HS hi
      have HIK := Lib.hid hi; clear hi
      have HIN := Lib.hid (show (Tryz.prog.info? 26).map (·.size) = some 13 by kernel_rfl)
      have HON := Lib.hid (show (Ph.cells x).toArray.all (·.oneCell') = true from all_oneCell_toArray (by simp [Ph.cells, Value.oneCell']))
      have HS13 := Lib.hid (show (Ph.cells x).toArray.size = 13 from rfl)
      have HX1 := Lib.hid (hx.alloc (.cells (Ph.cells x).toArray 26)); clear hx
      go_wp2_with (first
        | ((with_reducible refine atIndex _ rfl ?_); refine wpList_index_agg 27 _ _ rfl rfl _ k .i64 8 _ 13 _ rfl rfl Tryz.underlying27 hlt Tryz.underlying26 rfl HIN.out _ HIK.out ?_)
        | ((with_reducible refine atStore _ rfl ?_); refine wpList_store_new 26 _ _ rfl rfl wr _ (Ph.cells x).toArray rfl _ rfl rfl rfl HIN.out HS13.out.symm HON.out (halt ?_)))
      unfold Halt
      have hc0 : (wr.alloc (.cells (Ph.cells x).toArray 26)).cell? ⟨wr.heap.size, 0, none⟩ = some (.bool x.on) := by
        rw [World.cell?_alloc_at _ _ _ _ rfl]; simp [Ph.cells]
      generalize wr.alloc (.cells (Ph.cells x).toArray 26) = W at hc0 HX1 ⊢
      generalize wr.heap.size = pb at hc0 ⊢
      cases hon : x.on with
      | true =>
        rw [hon] at hc0
        have hs := HS.out
        rw [hon] at hs
        simp only [if_true] at hs
        have HS2 := Lib.hid hs; clear hs HS hon
        go_wp2_with (go_at_call 86; refine (With_c _ _ _).mono ?_; rintro e w' ⟨rfl, rfl⟩)
        go_roundw
        case rel => exact ⟨k + 1, by omega, by go_num, by rw [HS2.out], HX1.out⟩
        case measure => simp [intOf]; omega
      | false =>
        rw [hon] at hc0
        have hs := HS.out
        rw [hon] at hs
        simp only [Bool.false_eq_true, if_false] at hs
        have HS2 := Lib.hid hs; clear hs HS hon
        go_wp2
        go_roundw
        case rel => exact ⟨k + 1, by omega, by go_num, by rw [HS2.out], HX1.out⟩
        case measure => simp [intOf]; omega
    · obtain rfl : k = 8 := by omega
      have HX1 := Lib.hid hx; clear hx
      go_wp2
      go_ret
      exact ⟨rfl, HX1.out⟩
end Go.Proofs.YtpopnmelcplbbaaGreat
