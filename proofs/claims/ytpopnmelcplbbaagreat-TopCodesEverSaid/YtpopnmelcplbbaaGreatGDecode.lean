/-
  What is deferred in code.Decode: behind a fault there is no table. code.Decode: the table that bytes are, or the fault. code.Decode at no more than 2048 bytes.
-/
import Derived.Test.YtpopnmelcplbbaaGreatNew
import Derived.Test.YtpopnmelcplbbaaGreatGTable
import Derived.Test.YtpopnmelcplbbaaGreatGBase
import Derived.Deep.RegionHeld3
set_option linter.unusedVariables false
set_option linter.unusedSimpArgs false
namespace Go.Proofs.YtpopnmelcplbbaaGreat
open Go.RowKit

/-- box g, made behind w, holds cs, and nothing of w has turned -/
structure Own0 (w W : World) (g : Nat) (cs : List Value) : Prop where
  x : Ext w W
  new : w.heap.size ≤ g
  at_ : ∃ T, W.heap[g]? = some (.cells cs.toArray T (0, 0))
section
variable {w W W' : World} {B g g' j : Nat} {cs : List Value} {v : Value}
theorem Own0.lt (h : Own0 w W g cs) : g < W.heap.size := by obtain ⟨T, h⟩ := h.at_; exact (Array.getElem?_eq_some_iff.1 h).1
theorem Own0.cell (h : Own0 w W g cs) (hj : cs[j]? = some v) : W.cell? ⟨g, j, none⟩ = some v := by
  obtain ⟨T, h⟩ := h.at_; rw [cell_of_row W g j _ _ _ h]; simpa using hj
theorem Own0.range (h : Own0 w W g cs) : W.rangeAt g 0 cs := fun j v hj => by rw [Nat.zero_add]; exact h.cell hj
theorem Own0.free (h : Own0 w W g cs) (j : Nat) : W.frozen? ⟨g, j, none⟩ = false := by obtain ⟨T, h⟩ := h.at_; simp [World.frozen?, h]
theorem Own0.step (h : Own0 w W g cs) (hB : w.heap.size ≤ B) (hne : g ≠ B) (e : ExtB B W W') : Own0 w W' g cs :=
  ⟨h.x.but hB e, h.new, by obtain ⟨T, h1⟩ := h.at_; exact ⟨T, (e.block g h.lt hne).trans h1⟩⟩
theorem Own0.ext (h : Own0 w W g cs) (e : Ext W W') : Own0 w W' g cs :=
  ⟨h.x.trans e, h.new, by obtain ⟨T, h1⟩ := h.at_; exact ⟨T, (e.below.block g h.lt).trans h1⟩⟩
theorem Own0.made (x : Ext w W) (cs : List Value) (T : TypeId) : Own0 w (W.alloc (.cells cs.toArray T)) W.heap.size cs := ⟨x.alloc _, x.size, ⟨T, heap_alloc_last _ _⟩⟩
theorem Own0.set (h : Own0 w W g cs) (j : Nat) (v : Value) : Own0 w (W.setCell ⟨g, j, none⟩ v) g (cs.set j v) :=
  ⟨h.x.set h.new v, h.new, by obtain ⟨T, h1⟩ := h.at_; exact ⟨T, by simp [World.setCell, Array.getElem?_modify, h1]⟩⟩
theorem Own0.other (h : Own0 w W g cs) (hg : w.heap.size ≤ g') (hne : g ≠ g') (j : Nat) (v : Value) : Own0 w (W.setCell ⟨g', j, none⟩ v) g cs :=
  ⟨h.x.set hg v, h.new, by obtain ⟨T, h1⟩ := h.at_; exact ⟨T, by rw [Below.heap_setCell _ _ _ _ (show g ≠ g' from hne)]; exact h1⟩⟩
theorem Own0.there (h : Own0 w W g cs) (o n : Nat) (hn : o + n ≤ cs.length) : W.there g o n := fun j hj => by
  have hlt : o + j < cs.length := by omega
  exact ⟨by rw [h.cell (List.getElem?_eq_getElem hlt)]; rfl, h.free _⟩
theorem Own0.sets (h : Own0 w W g cs) (o : Nat) (vs : List Value) : ∃ cs', cs' = (vs.zipIdx o).foldl (fun c p => c.set p.2 p.1) cs ∧ Own0 w (W.setCells g o vs) g cs' := by
  induction vs generalizing cs W o with
  | nil => exact ⟨cs, rfl, h⟩
  | cons v vs ih =>
    obtain ⟨cs', e, h'⟩ := ih (h.set o v) (o + 1)
    exact ⟨cs', by rw [e]; rfl, h'⟩
theorem Own0.all (h : Own0 w W g cs) (vs : List Value) (hl : cs.length = vs.length) : Own0 w (W.setCells g 0 vs) g vs := by
  obtain ⟨cs', e, h'⟩ := h.sets 0 vs
  have := sets_piece [] cs vs [] 0 rfl hl
  simp only [List.nil_append, List.append_nil] at this
  rw [this] at e
  subst e
  exact h'
theorem Own0.sets_other (h : Own0 w W g cs) (hg : w.heap.size ≤ g') (hne : g ≠ g') (o : Nat) (vs : List Value) : Own0 w (W.setCells g' o vs) g cs := by
  induction vs generalizing W o with
  | nil => exact h
  | cons v vs ih => exact ih (h.other hg hne o v) (o + 1)
end

set_option maxRecDepth 100000 in
set_option maxHeartbeats 4000000 in
theorem dec_caught (w0 w : World) (P2 P3 : Nat) (c f : Int) (cs ds : List Value) (h2 : Own0 w0 w P2 cs) (h3 : Own0 w0 w P3 ds) (hne : P2 ≠ P3) (hl2 : cs.length = 131) (hl3 : ds.length = 2) :
    CallsD Tryz.prog 15 #[.pointer (some ⟨P2, 0, none⟩), .pointer (some ⟨P3, 0, none⟩)] (.panicking (chainOf c f)) w fun e u' w' =>
      e = .returned (.tuple #[]) ∧ u' = .panicking [{ v := faultV c f, recovered := true }] ∧ Own0 w0 w' P2 Tryz.zeroCells34.toList ∧ Own0 w0 w' P3 [.int .i64 c, .int .i64 f] := by
  unfold chainOf faultV
  have ha := assert_fault c f
  refine callsD_of_wpS Tryz.func15 rfl fun c₀ cs hu => ?_
  have hlit : (#[.pointer (some ⟨P2, 0, none⟩), .pointer (some ⟨P3, 0, none⟩)] : Array Value) ++ Array.replicate (Tryz.f15.ntmps - (#[.pointer (some ⟨P2, 0, none⟩), .pointer (some ⟨P3, 0, none⟩)] : Array Value).size) undef =
      #[.pointer (some ⟨P2, 0, none⟩), .pointer (some ⟨P3, 0, none⟩), undef, undef, undef, undef, undef, undef, undef, undef, undef, undef] := by
    simp [Tryz.ntmps15, Array.replicate, List.replicate]
  rw [hlit]
  apply wpS_seq
  apply wpS_region
  simp [wpOpsS, go_sem, recoverD, hu, Exit.thenS, ha]
  apply wpS_seq
  apply wpS_region
  simp [wpOpsS, go_sem, Exit.thenS]
  refine wpS_cond (t := true) (by simp [Act.eval]) ?_
  simp only [if_true]
  refine wpS_of_wp ?_
  have hB : w.heap.size ≠ P2 := by have := h2.lt; omega
  have hB3 : w.heap.size ≠ P3 := by have := h3.lt; omega
  have e1 := (Ext.refl w).alloc (.cells #[.int .i64 c, .int .i64 f] 37)
  have g2 := h2.ext e1
  have g3 := h3.ext e1
  have hr : (w.alloc (.cells ([.int .i64 c, .int .i64 f] : List Value).toArray 37)).rangeAt w.heap.size 0 [.int .i64 c, .int .i64 f] := rangeAt_new _ _ _
  change (w.alloc (.cells #[.int .i64 c, .int .i64 f] 37)).rangeAt w.heap.size 0 [.int .i64 c, .int .i64 f] at hr
  generalize w.alloc (.cells #[.int .i64 c, .int .i64 f] 37) = W at g2 g3 hr ⊢
  generalize w.heap.size = b at hr hB hB3 ⊢
  have z131 : Tryz.zeroCells34.toList.length = 131 := by kernel_rfl
  have zi : (Tryz.prog.info? 34).map (·.size) = some Tryz.zeroCells34.size := by kernel_rfl
  have zo : Tryz.zeroCells34.all (·.oneCell') = true := by kernel_rfl
  have zb : ∀ w', (Instr.build 34 #[]).run Tryz.prog w' = .ok (.agg Tryz.zeroCells34) w' := fun w' => by kernel_rfl
  generalize Tryz.zeroCells34 = Z at z131 zi zo zb ⊢
  refine wp_region_held_drew (S := fun w' => w'.rangeAt b 0 [.int .i64 c, .int .i64 f]) (by kernel_rfl) hr (fun hS => ?_)
  refine wpAnyH_take (i := 0) (oi := _) (v := .agg Z) rfl (by kernel_rfl) (by kernel_rfl) (by kernel_rfl) (fun _ _ _ h => h) (Or.inl ⟨by rfl, fun w' _ => ?_⟩) hS ?_
  · simp [execOp, zb]
  refine wpAnyH_take (i := 1) (oi := _) (v := .agg ([.int .i64 c, .int .i64 f] : List Value).toArray) rfl (by kernel_rfl) (by kernel_rfl) (by kernel_rfl) (fun _ _ _ h => h)
    (yieldsIf_load_mid (by rfl) 37 _ rfl b 0 rfl [.int .i64 c, .int .i64 f] _ (fun _ h => h) Tryz.underlying37 rfl (by kernel_rfl)) hS ?_
  refine wpAnyH_ready (rs := [2]) (by kernel_rfl) (by simp) ?_
  refine AllReadyH.cons (o := _) rfl (fun K hK => ?_) AllReadyH.nil
  rw [if_pos (by rfl)]
  have d2 := g2.ext ((Ext.refl W).drew)
  have d3 := g3.ext ((Ext.refl W).drew)
  refine wp_store_mid 34 _ _ rfl P2 0 Z rfl rfl (d2.there 0 _ (by rw [hl2]; have := z131; simp at this; omega)) zi zo ?_
  have i2 := d2.all Z.toList (by rw [hl2, z131])
  have i3 := d3.sets_other (g' := P2) d2.new (Ne.symm hne) 0 Z.toList
  have hS2 : (W.drew.setCells P2 0 Z.toList).rangeAt b 0 [.int .i64 c, .int .i64 f] := World.rangeAt_setCells_apart hS P2 0 _ (.inl hB)
  refine hK.out _ _ hS2 (fun hS3 => ?_)
  refine wpAnyH_ready (rs := [3]) (by kernel_rfl) (by simp) ?_
  refine AllReadyH.cons (o := _) rfl (fun K2 hK2 => ?_) AllReadyH.nil
  rw [if_pos (by rfl)]
  refine wp_store_mid 37 _ _ rfl P3 0 #[.int .i64 c, .int .i64 f] rfl rfl (i3.there 0 2 (by rw [hl3]; omega)) (by kernel_rfl) (by simp [Value.oneCell']) ?_
  have k3 := i3.all [.int .i64 c, .int .i64 f] (by rw [hl3]; rfl)
  have k2 := i2.sets_other (g' := P3) i3.new hne 0 [.int .i64 c, .int .i64 f]
  refine hK2.out _ _ (World.rangeAt_setCells_apart hS2 P3 0 _ (.inl hB3)) (fun _ => ?_)
  refine wpAnyH_done (by kernel_rfl) ?_ _
  refine ⟨rfl, _, rfl, .tuple #[], ?_, rfl, rfl, k2, k3⟩
  simp [results, Tryz.results15]

theorem dec_idle (p q : Addr) (w : World) :
    CallsD Tryz.prog 15 #[.pointer (some p), .pointer (some q)] .returning w fun e u' w' => e = .returned (.tuple #[]) ∧ u' = .returning ∧ w' = w.alloc (.cells #[.int .i64 0, .int .i64 0] 37) := by
  have ha := assert_nil
  refine callsD_of_wpS Tryz.func15 rfl fun c₀ cs hu => ?_
  apply wpS_seq
  apply wpS_region
  simp [wpOpsS, go_sem, recoverD, hu, Tryz.ntmps15, Exit.thenS, ha]
  apply wpS_seq
  apply wpS_region
  simp [wpOpsS, go_sem, Exit.thenS]
  refine wpS_cond (t := false) (by simp [Act.eval, Array.replicate]) ?_
  simp only [Bool.false_eq_true, if_false]
  refine wpS_of_wp (wp_skip ?_)
  cases c₀
  simp_all [bodyPostS, results, Tryz.results15]
end Go.Proofs.YtpopnmelcplbbaaGreat
namespace Go.Proofs.YtpopnmelcplbbaaGreat
open Go.RowKit

/-- what Decode gives -/
def decodeS (l : List UInt8) : Except (Int × Int) Tab :=
  if 2048 < l.length then .error (1, 0)
  else match numS l 3 0 16777215 0 with
    | .error e => .error e
    | .ok (mg, n1) => if mg ≠ 5784065 then .error (3, 0)
      else match tableS l n1 with
        | .error e => .error e
        | .ok (t, n2) => match numS l 2 0 65535 n2 with
          | .error e => .error e
          | .ok (s, n3) => if s ≠ crcFrom 65535 (l.take n2) then .error (5, (n2 : Int))
            else if n3 < l.length then .error (6, (n3 : Int)) else .ok t

/-- Two results that are structs in memory. -/
theorem results_agg2 {P : Program} {fn : Func} {p q : Tmp} {t1 t2 : TypeId} (h : fn.results = #[.cell p t1, .cell q t2]) (tmps : Array Value) (w : World) (b1 b2 : Nat)
    (hp : tmps.getD p undef = .pointer (some ⟨b1, 0, none⟩)) (hq : tmps.getD q undef = .pointer (some ⟨b2, 0, none⟩)) (cs ds : List Value) (d1 d2 : TypeDesc) (hc : w.rangeAt b1 0 cs) (hd : w.rangeAt b2 0 ds)
    (hu1 : P.underlying t1 = some d1) (hu2 : P.underlying t2 = some d2) (hr1 : d1.isRow = true) (hr2 : d2.isRow = true) (hi1 : (P.info? t1).map (·.size) = some cs.length) (hi2 : (P.info? t2).map (·.size) = some ds.length) :
    (results fn tmps).run P w = .ok (.tuple #[.agg cs.toArray, .agg ds.toArray]) w := by
  have hp' : tmps[p]?.getD undef = .pointer (some ⟨b1, 0, none⟩) := by simpa using hp
  have hq' : tmps[q]?.getD undef = .pointer (some ⟨b2, 0, none⟩) := by simpa using hq
  simp [results, h, hp', hq', asAddr, run_loadVar_mid w b1 0 t1 cs d1 hc hu1 hr1 hi1, run_loadVar_mid w b2 0 t2 ds d2 hd hu2 hr2 hi2]

/-- The door of Decode behind a fault. -/
theorem dec_leave {w0 W : World} {P2 P3 : Nat} {c f : Int} {cs ds : List Value} {tmps : Array Value} (h2 : Own0 w0 W P2 cs) (h3 : Own0 w0 W P3 ds) (hne : P2 ≠ P3) (hl2 : cs.length = 131) (hl3 : ds.length = 2)
    (R : Ending → World → Prop)
    (hR : ∀ w', Own0 w0 w' P2 Tryz.zeroCells34.toList → Own0 w0 w' P3 [.int .i64 c, .int .i64 f] → ∃ v, (results Tryz.f6 tmps).run Tryz.prog w' = .ok v w' ∧ R (.returned v) w') :
    Leaves Tryz.prog Tryz.f6 tmps R [{ target := .fn (.func 15) #[.pointer (some ⟨P2, 0, none⟩), .pointer (some ⟨P3, 0, none⟩)], args := #[] }] (.panicking (chainOf c f)) W := by
  refine leaves_cons (f := 15) (args := #[.pointer (some ⟨P2, 0, none⟩), .pointer (some ⟨P3, 0, none⟩)]) (by simp [chainOf]) (by simp [go_sem]) ?_
  refine (dec_caught w0 W P2 P3 c f cs ds h2 h3 hne hl2 hl3).mono ?_
  rintro e u' w'' ⟨rfl, rfl, k2, k3⟩
  obtain ⟨v, hv, hr⟩ := hR w'' k2 k3
  exact ⟨v, hv, hr⟩

/-- what Decode returns -/
def RetDec (w : World) (r : Except (Int × Int) Tab) : Ending → World → Prop := fun e w' =>
  match r with
  | .ok t => ∃ gv dv rv bv, e = .returned (.tuple #[tabV t gv dv rv bv, .agg #[.int .i64 0, .int .i64 0]]) ∧ TabAt w' gv dv rv bv t ∧ Ext w w'
  | .error (c, f) => e = .returned (.tuple #[tabV zeroT nilS nilS nilS nilS, .agg #[.int .i64 c, .int .i64 f]]) ∧ Ext w w'

theorem zeroT_V : Value.agg Tryz.zeroCells34 = tabV zeroT nilS nilS nilS nilS := by
  unfold tabV Tab.cells
  kernel_rfl

theorem dec_fault {w0 W : World} {P2 P3 : Nat} {c f : Int} {cs ds : List Value} {tmps : Array Value} (h2 : Own0 w0 W P2 cs) (h3 : Own0 w0 W P3 ds) (hne : P2 ≠ P3) (hl2 : cs.length = 131) (hl3 : ds.length = 2)
    (t2 : tmps.getD 2 undef = .pointer (some ⟨P2, 0, none⟩)) (t3 : tmps.getD 3 undef = .pointer (some ⟨P3, 0, none⟩)) :
    Leaves Tryz.prog Tryz.f6 tmps (RetDec w0 (.error (c, f))) [{ target := .fn (.func 15) #[.pointer (some ⟨P2, 0, none⟩), .pointer (some ⟨P3, 0, none⟩)], args := #[] }] (.panicking (chainOf c f)) W := by
  refine dec_leave h2 h3 hne hl2 hl3 _ fun w' k2 k3 => ⟨_, results_agg2 rfl tmps w' P2 P3 t2 t3 _ _ _ _ k2.range k3.range Tryz.underlying34 Tryz.underlying37 rfl rfl (by kernel_rfl) (by kernel_rfl), ?_, k2.x⟩
  rw [← zeroT_V]

set_option maxRecDepth 100000 in
set_option maxHeartbeats 4000000 in
theorem Decode_big (w : World) (v : Value) (l : List UInt8) (hv : RowIn w v l.length (bytes8 l)) (hbig : 2048 < l.length) (hl : l.length ≤ 1000000000) :
    Calls Tryz.prog 6 #[v] w (RetDec w (decodeS l)) := by
  have hd : decodeS l = .error (1, 0) := by unfold decodeS; rw [if_pos hbig]
  rw [hd]
  obtain ⟨a, cp, rfl, _⟩ := hv
  have hmf := make_func
  have h2 := (Own0.made (Ext.refl w) Tryz.zeroCells34.toList 34).ext ((Ext.refl _).alloc (.cells #[.int .i64 0, .int .i64 0] 37))
  have h3 := Own0.made ((Ext.refl w).alloc (.cells Tryz.zeroCells34.toList.toArray 34)) [.int .i64 0, .int .i64 0] 37
  rw [World.size_alloc] at h3
  have H2 := Lib.hid h2; clear h2
  have H3 := Lib.hid h3; clear h3
  go_enter_defers Tryz.func6, Tryz.ntmps6
  go_wp2
  exact dec_fault H2.out H3.out (by omega) (by kernel_rfl) rfl rfl rfl
end Go.Proofs.YtpopnmelcplbbaaGreat
namespace Go.Proofs.YtpopnmelcplbbaaGreat
open Go.RowKit

theorem TabNew.extB {b B : Nat} {w w' : World} {gv dv rv bv : Value} {t : Tab} (h : TabNew b w gv dv rv bv t) (hb : B < b) (x : ExtB B w w') : TabNew b w' gv dv rv bv t := by
  obtain ⟨gs, h1, h2⟩ := h
  exact ⟨gs, h1.extB hb x, h2⟩
theorem rowIn_form {w : World} {v : Value} {n : Nat} {cs : List Value} (h : RowIn w v n cs) : v.oneCell' = true := by
  obtain ⟨a, cp, rfl, _⟩ := h; rfl
theorem tab_one {w : World} {gv dv rv bv : Value} {t : Tab} (h : TabAt w gv dv rv bv t) : (t.cells gv dv rv bv).toArray.all (·.oneCell') = true := by
  refine all_oneCell_toArray ?_
  intro v hv
  obtain ⟨_, _, hg, _⟩ := h.g
  have h1 := rowIn_form hg
  have h2 := rowIn_form h.d
  have h3 := rowIn_form h.r
  have h4 := rowIn_form h.b
  unfold Tab.cells at hv
  simp only [List.mem_append, List.mem_cons, List.mem_flatMap, ints, List.mem_map, List.not_mem_nil, or_false] at hv
  rcases hv with ⟨x, _, hx⟩ | (rfl | ⟨x, _, rfl⟩) | (rfl | rfl | rfl | rfl | rfl | rfl | rfl | rfl | ⟨x, _, rfl⟩) | rfl | rfl
  · simp only [Ph.cells, List.mem_cons, List.not_mem_nil, or_false] at hx
    rcases hx with rfl | rfl | rfl | rfl | rfl | rfl | rfl | rfl | rfl | rfl | rfl | rfl | rfl <;> rfl
  all_goals first | assumption | rfl

theorem tab_noByte {w : World} {gv dv rv bv : Value} {t : Tab} (h : TabAt w gv dv rv bv t) : ∀ v ∈ t.cells gv dv rv bv, Value.noByte v = true := by
  intro v hv
  obtain ⟨_, _, ⟨_, _, hg, _⟩, _⟩ := h.g
  obtain ⟨_, _, h2, _⟩ := h.d
  obtain ⟨_, _, h3, _⟩ := h.r
  obtain ⟨_, _, h4, _⟩ := h.b
  subst hg h2 h3 h4
  unfold Tab.cells at hv
  simp only [List.mem_append, List.mem_cons, List.mem_flatMap, ints, List.mem_map, List.not_mem_nil, or_false] at hv
  rcases hv with ⟨x, _, hx⟩ | (rfl | ⟨x, _, rfl⟩) | (rfl | rfl | rfl | rfl | rfl | rfl | rfl | rfl | ⟨x, _, rfl⟩) | rfl | rfl
  · simp only [Ph.cells, List.mem_cons, List.not_mem_nil, or_false] at hx
    rcases hx with rfl | rfl | rfl | rfl | rfl | rfl | rfl | rfl | rfl | rfl | rfl | rfl | rfl <;> rfl
  all_goals rfl
theorem zero_noByte : ∀ x ∈ Tryz.zeroCells34.toList.toArray, Value.noByte x = true := by
  have h : Tryz.zeroCells34.toList.toArray.all Value.noByte = true := by kernel_rfl
  exact Array.all_eq_true_iff_forall_mem.1 h
theorem RdAt.asides {w : World} {B g : Nat} {l : List UInt8} {n : Nat} {c f : Int} {cs : Array Value} {T : TypeId} {fr : Nat × Nat} (h : RdAt w B l n c f) (hg : w.heap[g]? = some (.cells cs T fr)) (hcs : ∀ x ∈ cs, Value.noByte x = true) (hne : g ≠ B)
    (vs : List Value) (hvs : ∀ x ∈ vs, Value.noByte x = true) (o : Nat) : RdAt (w.setCells g o vs) B l n c f := by
  induction vs generalizing w cs o with
  | nil => exact h
  | cons v vs ih =>
    refine ih (cs := cs.setIfInBounds o v) (h.aside hg hcs hne v) ?_ ?_ (fun x hx => hvs x (List.mem_cons_of_mem _ hx)) (o + 1)
    · simp [World.setCell, Array.getElem?_modify, hg]
    · intro x hx
      rcases Array.mem_or_eq_of_mem_setIfInBounds hx with h1 | rfl
      · exact hcs x h1
      · exact hvs _ (List.mem_cons_self ..)

theorem yields_slice {P : Program} {ops : Array Oper} {S : World → Prop} {o : Oper} {a : Act} {ty : TypeId} {x y : Operand} {v : Value} (ho : o.op = .slice ty x none (some y) none) (hw : Region.wanted o (yielded ops a.tmps) = true)
    (hrun : ∀ w', (Instr.sliceAt ty (a.eval x) none (some (a.eval y)) none).run P w' = .ok v w') : YieldsIf P ops S o v a :=
  Or.inl ⟨hw, fun w' _ => by unfold execOp; rw [ho]; simp [hrun]⟩

theorem Leaves.congr {P : Program} {fn : Func} {t1 t2 : Array Value} {R : Ending → World → Prop} (h : results fn t1 = results fn t2) : ∀ {ds : List Deferred} {u : FrameMode} {w : World}, Leaves P fn t1 R ds u w → Leaves P fn t2 R ds u w := by
  intro ds
  induction ds with
  | nil =>
    intro u w hh
    cases u with
    | returning => obtain ⟨v, hv, hr⟩ := hh; exact ⟨v, h ▸ hv, hr⟩
    | panicking c => exact hh
    | run => exact hh
  | cons d ds ih =>
    intro u w hh
    obtain ⟨hne, fv, cap, f, args, h1, h2, h3⟩ := hh
    refine ⟨hne, fv, cap, f, args, h1, h2, h3.mono ?_⟩
    intro e u' w' hr
    cases e with
    | returned v => exact ih hr
    | panicked c => exact ih hr
    | outgrown => exact hr

theorem dec_put {R : Ending → World → Prop} (d : Nat) (hd : 3 < d) (v : Value) (c : List PanicEntry) (a : Act) (w : World) (h : bodyPostD Tryz.prog Tryz.f6 R (.panic c) (a.put (some d) v) w) :
    bodyPostD Tryz.prog Tryz.f6 R (.panic c) a w := by
  refine Leaves.congr (P := Tryz.prog) ?_ (show Leaves Tryz.prog Tryz.f6 (a.put (some d) v).tmps R a.defers (.panicking c) w from h)
  have e2 : (a.put (some d) v).tmps[2]?.getD undef = a.tmps[2]?.getD undef := by simp [Act.put, Array.getElem?_setIfInBounds, show ¬ d = 2 by omega]
  have e3 : (a.put (some d) v).tmps[3]?.getD undef = a.tmps[3]?.getD undef := by simp [Act.put, Array.getElem?_setIfInBounds, show ¬ d = 3 by omega]
  unfold results
  simp only [show Tryz.f6.results = #[.cell 2 34, .cell 3 37] from rfl]
  simp [e2, e3]

theorem dec_done {w0 W : World} {P2 P3 : Nat} {t : Tab} {gv dv rv bv : Value} {F : List Value} {tmps : Array Value} (hF : t.cells gv dv rv bv = F) (h2 : Own0 w0 W P2 F) (h3 : Own0 w0 W P3 [.int .i64 0, .int .i64 0]) (ht : TabAt W gv dv rv bv t)
    (hne : P2 ≠ P3) (hl2 : F.length = 131) (t2 : tmps.getD 2 undef = .pointer (some ⟨P2, 0, none⟩)) (t3 : tmps.getD 3 undef = .pointer (some ⟨P3, 0, none⟩)) :
    Leaves Tryz.prog Tryz.f6 tmps (RetDec w0 (.ok t)) [{ target := .fn (.func 15) #[.pointer (some ⟨P2, 0, none⟩), .pointer (some ⟨P3, 0, none⟩)], args := #[] }] .returning W := by
  refine leaves_cons (f := 15) (args := #[.pointer (some ⟨P2, 0, none⟩), .pointer (some ⟨P3, 0, none⟩)]) (by simp) (by simp [go_sem]) ?_
  refine (dec_idle ⟨P2, 0, none⟩ ⟨P3, 0, none⟩ W).mono ?_
  rintro e u' w'' ⟨rfl, rfl, rfl⟩
  have hx := (Ext.refl W).alloc (.cells #[.int .i64 0, .int .i64 0] 37)
  have k2 := h2.ext hx
  have k3 := h3.ext hx
  exact ⟨_, results_agg2 rfl tmps _ P2 P3 t2 t3 _ _ _ _ k2.range k3.range Tryz.underlying34 Tryz.underlying37 rfl rfl (by rw [hl2]; kernel_rfl) (by kernel_rfl), gv, dv, rv, bv, by unfold tabV; rw [hF], ht.ext hx, k2.x⟩

set_option maxRecDepth 100000 in
set_option maxHeartbeats 8000000 in
theorem Decode_small (w : World) (a : Option Addr) (cp : Nat) (l : List UInt8) (hv : RowIn w (.slice a l.length cp) l.length (bytes8 l)) (hcp : l.length ≤ cp) (hbig : l.length ≤ 2048) :
    Calls Tryz.prog 6 #[.slice a l.length cp] w (RetDec w (decodeS l)) := by
  have hmf := make_func
  have h2 := (Own0.made (Ext.refl w) Tryz.zeroCells34.toList 34).ext ((Ext.refl _).alloc (.cells #[.int .i64 0, .int .i64 0] 37))
  have h3 := Own0.made ((Ext.refl w).alloc (.cells Tryz.zeroCells34.toList.toArray 34)) [.int .i64 0, .int .i64 0] 37
  rw [World.size_alloc] at h3
  have hx0 := ((Ext.refl w).alloc (.cells Tryz.zeroCells34 34)).alloc (.cells #[.int .i64 0, .int .i64 0] 37)
  have hnew := New_c _ _ l (hv.ext hx0) (by omega)
  have HV := Lib.hid hv; clear hv
  obtain ⟨r, hr⟩ : ∃ r, decodeS l = r := ⟨_, rfl⟩
  rw [hr]
  unfold decodeS at hr
  rw [if_neg (by omega)] at hr
  have HQ := Lib.hid hr; clear hr
  have HN := Lib.hid hnew; clear hnew
  have H2 := Lib.hid h2; clear h2
  have H3 := Lib.hid h3; clear h3
  go_enter_defers Tryz.func6, Tryz.ntmps6
  go_wp2_with fail
  refine HN.out.mono ?_
  rintro e w1 ⟨B, rfl, hB, hrd, hx⟩
  clear HN hx0
  have hBw : w.heap.size + 2 ≤ B := by simp at hB; omega
  clear hB
  have hxb := ((Ext.refl w1).alloc (.cells #[.pointer (some ⟨B, 0, none⟩)] 59))
  have h2 := (H2.out.ext hx).ext hxb
  have h3 := (H3.out.ext hx).ext hxb
  have hP := Own0.made (H2.out.ext hx).x [.pointer (some ⟨B, 0, none⟩)] 59
  have hlt := hrd.lt
  have hrdb := hrd.ext hxb
  have hBP : B ≠ w1.heap.size := by omega
  have hBP2 : w.heap.size + 2 ≤ w1.heap.size := by omega
  have hc1 := num_c _ B l 0 hrdb 3 0 16777215 (by omega) (by omega)
  unfold RdPost isInt readerV at hc1
  have hr := HQ.out
  clear HQ H2 H3 hrdb hrd hx hxb hlt
  have HP := Lib.hid hP; clear hP
  have H2 := Lib.hid h2; clear h2
  have H3 := Lib.hid h3; clear h3
  generalize hq1 : numS l 3 0 16777215 0 = r1 at hc1 hr
  have HQ1 := Lib.hid hq1; clear hq1
  rcases r1 with ⟨c, f⟩ | ⟨mg, n1⟩
  · have HC := Lib.hid hc1; clear hc1
    dsimp only at hr
    subst hr
    go_wp2_with fail
    refine HC.out.mono ?_
    rintro e w2 ⟨rfl, hx2⟩
    go_wp2
    exact dec_fault (H2.out.step (by omega) (by omega) hx2) (H3.out.step (by omega) (by omega) hx2) (by omega) (by kernel_rfl) rfl rfl rfl
  have HC := Lib.hid hc1; clear hc1
  have HQ := Lib.hid hr; clear hr
  go_wp2_with fail
  refine HC.out.mono ?_
  rintro e w2 ⟨v, rfl, rfl, hrd2, hx2⟩
  clear HC
  have H2b := Lib.hid (H2.out.step (by omega) (by omega) hx2); clear H2
  have H3b := Lib.hid (H3.out.step (by omega) (by omega) hx2); clear H3
  have HPb := Lib.hid (HP.out.step (by omega) (by omega) hx2); clear HP
  clear hx2
  have hr := HQ.out
  clear HQ
  by_cases hmg : mg = 5784065
  rotate_left
  · have hmb : (mg == 5784065) = false := by simpa using hmg
    simp only [ne_eq, hmg, not_false_eq_true, if_true] at hr
    subst hr
    clear hmg
    go_wp2
    exact dec_fault H2b.out H3b.out (by omega) (by kernel_rfl) rfl rfl rfl
  · subst hmg
    simp only [ne_eq, not_true_eq_false, if_false] at hr
    have hc2 := table_read w2 B l n1 hrd2 (by omega)
    unfold RdPost isTab readerV at hc2
    obtain ⟨rT, hrt⟩ : ∃ rT, tableS l n1 = rT := ⟨_, rfl⟩
    rw [hrt] at hc2 hr
    have hpc := HPb.out.cell (j := 0) rfl
    have hltB := hrd2.lt
    have HRD := Lib.hid hrd2; clear hrd2
    rcases rT with ⟨c, f⟩ | ⟨t, n2⟩
    · have HC := Lib.hid hc2; clear hc2 hrt
      dsimp only at hr
      subst hr
      go_wp2_with fail
      refine HC.out.mono ?_
      rintro e w3 ⟨rfl, hx3⟩
      go_wp2
      exact dec_fault (H2b.out.step (by omega) (by omega) hx3) (H3b.out.step (by omega) (by omega) hx3) (by omega) (by kernel_rfl) rfl rfl rfl
    have HRT := Lib.hid hrt; clear hrt
    have HQ := Lib.hid hr; clear hr
    have HC := Lib.hid hc2; clear hc2
    have hlt2 := H2b.out.lt
    go_wp2_with fail
    refine HC.out.mono ?_
    rintro e w3 ⟨v, rfl, ⟨gv, dv, rv, bv, rfl, htab⟩, hrd3, hx3⟩
    clear HC hpc
    have h2c := H2b.out.step (by omega) (by omega) hx3
    have h3c := H3b.out.step (by omega) (by omega) hx3
    have hPc := HPb.out.step (by omega) (by omega) hx3
    have hz : Tryz.zeroCells34.toList.length = 131 := by kernel_rfl
    have hF := t.cells_len gv dv rv bv
    have hone := tab_one htab.tabAt
    have h2d := h2c.all (t.cells gv dv rv bv) (by rw [hz, hF])
    have h3d := h3c.sets_other (g' := w.heap.size) (Nat.le_refl _) (by omega) 0 (t.cells gv dv rv bv)
    have hPd := hPc.sets_other (g' := w.heap.size) (Nat.le_refl _) (by omega) 0 (t.cells gv dv rv bv)
    have htd := htab.sets (k := w.heap.size) (o := 0) (vs := t.cells gv dv rv bv) (by omega)
    have HTH := Lib.hid (h2c.there 0 (t.cells gv dv rv bv).toArray.size (by rw [List.size_toArray, hF, hz]; omega))
    have HIN := Lib.hid (show (Tryz.prog.info? 34).map (·.size) = some (t.cells gv dv rv bv).toArray.size by rw [List.size_toArray, hF]; kernel_rfl)
    have HON := Lib.hid hone
    have hrd4 : RdAt (w3.setCells w.heap.size 0 (t.cells gv dv rv bv)) B l n2 0 0 := by
      obtain ⟨T, hT⟩ := h2c.at_
      exact hrd3.asides hT zero_noByte (by omega) _ (tab_noByte htab.tabAt) 0
    unfold tabV
    generalize hF' : t.cells gv dv rv bv = F at hF h2d h3d hPd htd HTH HIN HON hrd4
    have HF := Lib.hid hF; clear hF
    have HF' := Lib.hid hF'; clear hF'
    have H2 := Lib.hid h2d; clear h2d h2c H2b
    have H3 := Lib.hid h3d; clear h3d h3c H3b
    have HP := Lib.hid hPd; clear hPd hPc HPb
    clear HRD
    have HRD := Lib.hid hrd4; clear hrd4 hrd3
    have HTB := Lib.hid htd; clear htd htab hx3 hone hz
    go_wp2_with ((with_reducible refine atStore _ rfl ?_); refine wpList_store_mid rfl 34 _ _ rfl w.heap.size 0 _ rfl rfl HTH.out HIN.out HON.out (halt ?_))
    unfold Halt
    clear HTH HON
    generalize w3.setCells w.heap.size 0 F = w4 at H2 H3 HP HRD HTB
    have hpc := HP.out.cell (j := 0) rfl
    have hlt4 := HRD.out.lt
    go_wp2_with fail
    refine (At_c w4 B l n2 0 0 HRD.out).mono ?_
    rintro e w5 ⟨rfl, hx5⟩
    have H2e := Lib.hid (H2.out.ext hx5); clear H2
    have H3e := Lib.hid (H3.out.ext hx5); clear H3
    have HPe := Lib.hid (HP.out.ext hx5); clear HP
    have HTBe := Lib.hid (HTB.out.extB (B := B) (by omega) (hx5.toB B)); clear HTB
    have hrd5 := HRD.out.ext hx5
    have hn2 := hrd5.1
    clear HRD hx5 hpc hlt4
    have hpc := HPe.out.cell (j := 0) rfl
    have hlt5 := hrd5.lt
    have hc3 := num_c w5.drew B l n2 (hrd5.ext (Ext.refl _).drew) 2 0 65535 (by omega) (by omega)
    unfold RdPost isInt readerV at hc3
    have hr := HQ.out
    clear HQ
    have ha0 : (0 : Int) ≤ (n2 : Int) := by omega
    have ha1 : (n2 : Int) ≤ (cp : Int) := by omega
    obtain ⟨rN, hrn⟩ : ∃ rN, numS l 2 0 65535 n2 = rN := ⟨_, rfl⟩
    rw [hrn] at hc3 hr
    have HRD := Lib.hid hrd5; clear hrd5
    rcases rN with ⟨c, f⟩ | ⟨s, n3⟩
    · have HC := Lib.hid hc3; clear hc3 hrn
      dsimp only at hr
      subst hr
      go_wp2
      have hsl : ∀ w' : World, (Instr.sliceAt 22 (.slice a l.length cp) none (some (.int .i64 n2)) none).run Tryz.prog w' = .ok (.slice a n2 cp) w' := by
        intro w'
        go_simp
      refine wp_region_held_drew (S := fun w' => w'.cell? ⟨w1.heap.size, 0, none⟩ = some (.pointer (some ⟨B, 0, none⟩))) (by kernel_rfl) (by simpa using hpc) (fun hS => ?_)
      refine wpAnyH_take (i := 0) (oi := _) (v := .agg #[.pointer (some ⟨B, 0, none⟩)]) rfl (by kernel_rfl) (by kernel_rfl) (by kernel_rfl) (fun c a w h => dec_put 25 (by omega) _ c a w h) 
        (yieldsIf_load_mid (by rfl) 59 _ rfl w1.heap.size 0 rfl [.pointer (some ⟨B, 0, none⟩)] _ (fun W h j v hj => by
          cases j with
          | zero => simp only [List.getElem?_cons_zero, Option.some.injEq] at hj; subst hj; exact h
          | succ j => simp at hj) Tryz.underlying59 rfl (by kernel_rfl)) hS ?_
      refine wpAnyH_take (i := 2) (oi := _) (v := .slice a l.length cp) rfl (by kernel_rfl) (by kernel_rfl) (by kernel_rfl) (fun c a w h => dec_put 27 (by omega) _ c a w h) (Or.inl ⟨rfl, fun w' _ => rfl⟩) hS ?_
      refine wpAnyH_take (i := 3) (oi := _) (v := .int .i64 n2) rfl (by kernel_rfl) (by kernel_rfl) (by kernel_rfl) (fun c a w h => dec_put 28 (by omega) _ c a w h) (Or.inl ⟨rfl, fun w' _ => rfl⟩) hS ?_
      refine wpAnyH_take (i := 4) (oi := _) (v := .slice a n2 cp) rfl (by kernel_rfl) (by kernel_rfl) (by kernel_rfl) (fun c a w h => dec_put 29 (by omega) _ c a w h) (yields_slice rfl rfl hsl) hS ?_
      refine wpAnyH_ready (rs := [1]) (by kernel_rfl) (by simp) ?_
      refine AllReadyH.cons (o := _) rfl (fun K hK => ?_) AllReadyH.nil
      rw [if_pos (by rfl)]
      go_simp
      go_at_call 17
      refine HC.out.mono ?_
      rintro e w6 ⟨rfl, hx6⟩
      exact dec_fault ((H2e.out.ext (Ext.refl _).drew).step (by omega) (by omega) hx6) ((H3e.out.ext (Ext.refl _).drew).step (by omega) (by omega) hx6) (by omega) (by rw [← HF'.out]; exact t.cells_len gv dv rv bv) rfl rfl rfl
    · have HNE := Lib.hid hrn; clear hrn
      have HC := Lib.hid hc3; clear hc3
      have HQ := Lib.hid hr; clear hr
      have HR : Hid (∀ W, Ext w W → RowIn W (.slice a n2 cp) (l.take n2).length (bytes8 (l.take n2))) := fun W hW => by
        obtain ⟨a', cp', he, hrow⟩ := HV.out.ext hW
        cases he
        have hlen : (l.take n2).length = n2 := by rw [List.length_take]; omega
        rw [hlen]
        refine ⟨a, cp, rfl, ?_⟩
        rcases hrow with ⟨h0, h1⟩ | ⟨b, off, h0, h1, h2⟩
        · left
          have : n2 = 0 := by omega
          subst this
          exact ⟨rfl, by simp [bytes8]⟩
        · right
          refine ⟨b, off, h0, h1, fun i c hi => h2 i c ?_⟩
          have := bytes8_piece l 0 n2 i c (by simpa using hi)
          simpa using this
      have HL : Hid ((l.take n2).length ≤ 4611686018427387904) := by
        have : (l.take n2).length ≤ l.length := by rw [List.length_take]; omega
        show _ ≤ _
        omega
      have hs := numS_bd HNE.out
      have hcr := crcFrom_bd 65535 (by omega) (by omega) (l.take n2)
      have hr := HQ.out
      clear HQ
      generalize hcrc : crcFrom 65535 (l.take n2) = cr at hcr hr
      have HCR := Lib.hid hcrc; clear hcrc
      have HQ := Lib.hid hr; clear hr
      go_wp2
      go_region_held3 (fun w' => w'.cell? ⟨w1.heap.size, 0, none⟩ = some (.pointer (some ⟨B, 0, none⟩))) (first | assumption | (simp; assumption) | simp [*])
        (first
          | (go_at_call 17; refine HC.out.mono ?_; rintro e w6 ⟨v, rfl, rfl, hrd6, hx6⟩; have h2f := (H2e.out.ext (Ext.refl _).drew).step (by omega) (by omega) hx6; have hX6 := h2f.x; have H2f := Lib.hid h2f; clear h2f; have hhpc := hpc; clear hpc; have H3f := Lib.hid ((H3e.out.ext (Ext.refl _).drew).step (by omega) (by omega) hx6); have hPf := ((HPe.out.ext (Ext.refl _).drew).step (by omega) (by omega) hx6); have hpc6 := hPf.cell (j := 0) rfl; have hlt6 := hPf.lt; have HPf := Lib.hid hPf; clear hPf; have HRD6 := Lib.hid hrd6; clear hrd6; have HTf := Lib.hid ((HTBe.out.extB (B := B) (by omega) ((Ext.refl _).drew.toB B)).extB (by omega) hx6); clear hx6)
          | (go_at_call 20; refine (Of_crc _ _ (l.take n2) (HR.out _ hX6) HL.out).mono ?_; rw [HCR.out]; rintro e w7 ⟨rfl, hx7⟩; obtain ⟨hq7, hf7⟩ := hx7.reads))
      have hr := HQ.out
      clear HQ hhpc hpc6
      have H2g := Lib.hid (H2f.out.ext hx7); clear H2f H2e
      have H3g := Lib.hid (H3f.out.ext hx7); clear H3f H3e
      have HPg := Lib.hid (HPf.out.ext hx7); clear HPf HPe
      have HTg := Lib.hid (HTf.out.extB (B := B) (by omega) (hx7.toB B)); clear HTf HTBe
      rw [show IntKind.i64.wrap cr = cr from IntWalk.i64_in _ (by omega)]
      have hrd7 := HRD6.out.ext hx7
      have hB7 := hrd7.lt
      clear hx7 HRD6 hX6 hq7 hf7
      by_cases hsc : s = cr
      rotate_left
      · have hb : (s != cr) = true := by simpa using hsc
        rw [if_pos hsc] at hr
        subst hr
        clear hsc
        go_wp2
        exact dec_fault H2g.out H3g.out (by omega) (by rw [← HF'.out]; exact t.cells_len gv dv rv bv) rfl rfl rfl
      · subst hsc
        rw [if_neg (by simp)] at hr
        have hb : (s != s) = false := by simp
        have hpc7 := HPg.out.cell (j := 0) rfl
        have HQ := Lib.hid hr; clear hr
        go_wp2_with fail
        refine (Left_c w7 B l n3 0 0 hrd7 (by omega)).mono ?_
        rintro e w8 ⟨rfl, hx8⟩
        have H2h := Lib.hid (H2g.out.ext hx8); clear H2g
        have H3h := Lib.hid (H3g.out.ext hx8); clear H3g
        have HPh := Lib.hid (HPg.out.ext hx8); clear HPg
        have HTh := Lib.hid (HTg.out.extB (B := B) (by omega) (hx8.toB B)); clear HTg
        have hrd8 := hrd7.ext hx8
        have hn3 := hrd8.1
        clear hx8 hrd7 hpc7
        have hpc8 := HPh.out.cell (j := 0) rfl
        have hr := HQ.out
        clear HQ
        by_cases hmore : n3 < l.length
        · rw [if_pos hmore] at hr
          subst hr
          have hd : decide ((0 : Int) < (l.length : Int) - (n3 : Int)) = true := by simp; omega
          go_wp2_with fail
          refine (At_c w8 B l n3 0 0 hrd8).mono ?_
          rintro e w9 ⟨rfl, hx9⟩
          go_wp2
          exact dec_fault (H2h.out.ext hx9) (H3h.out.ext hx9) (by omega) (by rw [← HF'.out]; exact t.cells_len gv dv rv bv) rfl rfl rfl
        · rw [if_neg hmore] at hr
          subst hr
          have hd : decide ((0 : Int) < (l.length : Int) - (n3 : Int)) = false := by simp; omega
          have h2h := H2h.out
          have h3h := H3h.out
          have hlF := HF.out
          have h2i := h2h.all F rfl
          have h3i := h3h.sets_other (g' := w.heap.size) (Nat.le_refl _) (by omega) 0 F
          have h2j := h2i.sets_other (g' := w.heap.size + 1) (by omega) (by omega) 0 [.int .i64 0, .int .i64 0]
          have h3j := h3i.all [.int .i64 0, .int .i64 0] rfl
          have HTj := Lib.hid ((HTh.out.sets (k := w.heap.size) (o := 0) (vs := F) (by omega)).sets (k := w.heap.size + 1) (o := 0) (vs := [.int .i64 0, .int .i64 0]) (by omega))
          have HRG := Lib.hid h2h.range
          have HTH := Lib.hid (h2h.there 0 F.toArray.size (by rw [List.size_toArray]; omega))
          have HTH3 := Lib.hid (h3i.there 0 (#[.int .i64 0, .int .i64 0] : Array Value).size (by simp))
          have HIN1 := Lib.hid (show (Tryz.prog.info? 34).map (·.size) = some F.length by rw [hlF]; kernel_rfl)
          have HIN3 := Lib.hid (show (Tryz.prog.info? 37).map (·.size) = some (#[.int .i64 0, .int .i64 0] : Array Value).size by kernel_rfl)
          have HON := Lib.hid (show F.toArray.all (·.oneCell') = true by rw [← HF'.out]; exact tab_one HTh.out.tabAt)
          have HON3 := Lib.hid (show (#[.int .i64 0, .int .i64 0] : Array Value).all (·.oneCell') = true by simp [Value.oneCell'])
          have H2j := Lib.hid h2j; clear h2j h2i h2h H2h
          have H3j := Lib.hid h3j; clear h3j h3i h3h H3h hlF hpc8 hrd8 hn3 hb HPh
          go_wp2_with (first
            | ((with_reducible refine atLoad 34 rfl ?_); refine wpList_load_mid rfl 34 _ rfl _ _ rfl _ _ HRG.out Tryz.underlying34 rfl HIN1.out ?_)
            | ((with_reducible refine atStore 34 rfl ?_); refine wpList_store_mid rfl 34 _ _ rfl w.heap.size 0 _ rfl rfl HTH.out HIN.out HON.out ?_)
            | ((with_reducible refine atStore 37 rfl ?_); refine wpList_store_mid rfl 37 _ _ rfl (w.heap.size + 1) 0 _ rfl rfl HTH3.out HIN3.out HON3.out (halt ?_)))
          unfold Halt
          go_wp2
          exact dec_done HF'.out H2j.out H3j.out HTj.out.tabAt (by omega) HF.out rfl rfl

theorem Decode_c (w : World) (a : Option Addr) (cp : Nat) (l : List UInt8) (hv : RowIn w (.slice a l.length cp) l.length (bytes8 l)) (hcp : l.length ≤ cp) (hl : l.length ≤ 1000000000) :
    Calls Tryz.prog 6 #[.slice a l.length cp] w (RetDec w (decodeS l)) := by
  by_cases h : 2048 < l.length
  · exact Decode_big w _ l hv h hl
  · exact Decode_small w a cp l hv hcp (by omega)
end Go.Proofs.YtpopnmelcplbbaaGreat
