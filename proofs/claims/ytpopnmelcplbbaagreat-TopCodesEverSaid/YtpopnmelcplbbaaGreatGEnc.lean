/-
  What code.Encode writes, and the laws that its walk wants. code.Encode: a table's bytes, or that it may not be.
-/
import Derived.Test.YtpopnmelcplbbaaGreatGWriter
set_option linter.unusedVariables false
set_option linter.unusedSimpArgs false
namespace Go.Proofs.YtpopnmelcplbbaaGreat
open Go.RowKit

/-- An element of an array value. -/
theorem wpList_index_agg {P : Program} {ops : Array Oper} {rest : List Oper} {o : Oper} {a : Act} {w : World} {Q : Exit → Act → World → Prop} (ty : TypeId) (x i : Operand) (ho : o.op = .index ty x i) (hgd : o.guard = none)
    (cs : List Value) (k : Nat) (kk : IntKind) (n e sz : Nat) (d : TypeDesc) (hx : a.eval x = .agg cs.toArray) (hi : a.eval i = .int kk (k : Int)) (hu : P.underlying ty = some (.array n e)) (hk : k < n)
    (hue : P.underlying e = some d) (hd : d.isRow = true) (hsz : (P.info? e).map (·.size) = some sz) (out : List Value) (hout : (cs.drop (k * sz)).take sz = out)
    (h : wpList P ops Q rest (a.put o.dst (.agg out.toArray)) w) : wpList P ops Q (o :: rest) a w := by
  refine wpList_plain hgd fun K hK => ?_
  cases hq : P.info? e with
  | none => simp [hq] at hsz
  | some ie =>
    have hs : ie.size = sz := by simpa [hq] using hsz
    have hagg : (isAgg e).run P w = .ok true w := by
      unfold isAgg
      rw [Sem.run_bind, run_underlying hue w]
      cases d <;> simp_all
    have he : cs.toArray.extract (k * sz) (k * sz + sz) = out.toArray := by
      apply Array.toList_inj.1
      rw [Array.toList_extract, List.extract_eq_take_drop]
      simp only [Nat.add_sub_cancel_left]
      exact hout
    unfold Oper.wp execOp
    simp only [ho, hx, hi, Instr.index, asIntOf, Sem.run_bind, Sem.run_pure, Result.andThen_ok, run_underlying hu w]
    have hkk : (0 : Int) ≤ (k : Int) ∧ (k : Int) < (n : Int) := ⟨by omega, by omega⟩
    simp only [if_pos hkk, part, sizeOf, typeInfo, Sem.run_bind, run_program, Result.andThen_ok, hq, Sem.run_pure, hs, hagg, if_true, Int.toNat_natCast, he]
    exact hK _ _ h

theorem flat_drop {α : Type} (enc : α → List Value) (sz : Nat) (xs : List α) (hsz : ∀ x ∈ xs, (enc x).length = sz) (k : Nat) (h : k < xs.length) : ((xs.flatMap enc).drop (k * sz)).take sz = enc xs[k] := by
  induction xs generalizing k with
  | nil => simp at h
  | cons x xs ih =>
    have hx : (enc x).length = sz := hsz x (by simp)
    cases k with
    | zero => simp only [List.flatMap_cons, Nat.zero_mul, List.drop_zero, List.getElem_cons_zero]; rw [List.take_append_of_le_length (by omega), List.take_of_length_le (by omega)]
    | succ k =>
      simp only [List.length_cons] at h
      rw [List.flatMap_cons, Nat.succ_mul, Nat.add_comm, List.drop_append, show sz + k * sz - (enc x).length = k * sz by omega, List.drop_of_length_le (by omega), List.nil_append, List.getElem_cons_succ]
      exact ih (fun y hy => hsz y (by simp [hy])) k (by omega)

/-! ### The bytes of a table -/
def phB (x : Ph) : List UInt8 := beAll 1 [bit1 x.on] ++ beAll 2 [x.min, x.gap, x.max, x.top, x.step, x.yellow, x.red, x.walk, x.blinks] ++ beAll 1 [x.recall] ++ beAll 1 [bit1 x.lock, bit1 x.rest]
def rowB (l : List Int) : List UInt8 := beAll 1 [(l.length : Int)] ++ beAll 1 l
def grB (g : List Int × List Int) : List UInt8 := rowB g.1 ++ rowB g.2
def deB (x : Det) : List UInt8 := beAll 1 [x.phase] ++ beF [x.on, x.off, x.delay, x.extend] ++ beAll 2 [x.maxOn, x.maxOff]
def raB (x : Ra) : List UInt8 := beAll 1 [x.bars, x.clear, x.dwell, x.exit] ++ beAll 2 [x.delay, x.green, x.foot, x.hold, x.stay, x.most] ++ beAll 4 [x.limit]
def buB (x : Bu) : List UInt8 := beAll 1 [x.set] ++ beAll 2 [x.lock]
def bodyB (t : Tab) : List UInt8 :=
  beAll 3 [5784065] ++ t.phs.flatMap phB ++ beAll 1 [(t.groups.length : Int)] ++ t.groups.flatMap grB ++ beAll 1 (arr8 t.conflict) ++ beAll 1 [(t.dets.length : Int)] ++ t.dets.flatMap deB ++
  beAll 1 [(t.rails.length : Int)] ++ t.rails.flatMap raB ++ beAll 1 [(t.buses.length : Int)] ++ t.buses.flatMap buB ++ beAll 2 [t.extend, t.budget, t.start, t.revert, t.least] ++ beAll 1 (arr8 t.flash) ++
  beAll 4 [t.window, t.share]
def encB (t : Tab) : List UInt8 := bodyB t ++ beAll 2 [crcFrom 65535 (bodyB t)]

theorem flatMap_snoc {α : Type} (f : α → List UInt8) (xs : List α) (k : Nat) (h : k < xs.length) : (xs.take (k + 1)).flatMap f = (xs.take k).flatMap f ++ f xs[k] := by
  rw [List.take_succ_eq_append_getElem h, List.flatMap_append]; simp

theorem rangeAt_ext {w w' : World} {b o : Nat} {cs : List Value} (h : w.rangeAt b o cs) (e : Ext w w') (hb : b < w.heap.size) : w'.rangeAt b o cs := fun j v hj => (e.cell (p := ⟨b, o + j, none⟩) hb).trans (h j v hj)
theorem rangeAt_extB {w w' : World} {B b o : Nat} {cs : List Value} (h : w.rangeAt b o cs) (e : ExtB B w w') (hb : b < w.heap.size) (hne : b ≠ B) : w'.rangeAt b o cs := fun j v hj =>
  (World.cell?_of_block (w := w) (w' := w') (a := ⟨b, o + j, none⟩) (e.block b hb hne)).trans (h j v hj)

/-! ### Where Encode is: the table's box, the writer with what it holds, and the box of the loop that runs -/
structure EncSt (w : World) (cells : List Value) (B : Nat) (W : World) (l : List UInt8) (m : Nat) (pb : Nat) (cs : List Value) : Prop where
  x : Ext w W
  box : W.rangeAt w.heap.size 0 cells
  wr : WriterAt W B l
  hB : w.heap.size < B
  len : l.length ≤ m
  two : W.rangeAt pb 0 cs
  lt : pb < W.heap.size
  ne : pb ≠ B

section
variable {w : World} {cells : List Value} {B : Nat} {W W' : World} {l l' : List UInt8} {m pb : Nat} {cs : List Value}
theorem EncSt.ext (h : EncSt w cells B W l m pb cs) (e : Ext W W') : EncSt w cells B W' l m pb cs :=
  ⟨h.x.trans e, rangeAt_ext h.box e (by have := h.wr.lt; have := h.hB; omega), h.wr.ext e, h.hB, h.len, rangeAt_ext h.two e h.lt, Nat.lt_of_lt_of_le h.lt e.size, h.ne⟩
theorem EncSt.put (h : EncSt w cells B W l m pb cs) (hw : WriterAt W' B l') (e : ExtB B W W') {m' : Nat} (hm : l'.length ≤ m') : EncSt w cells B W' l' m' pb cs :=
  ⟨h.x.but (Nat.le_of_lt h.hB) e, rangeAt_extB h.box e (by have := h.wr.lt; have := h.hB; omega) (by have := h.hB; omega), hw, h.hB, hm, rangeAt_extB h.two e h.lt h.ne, Nat.lt_of_lt_of_le h.lt e.size, h.ne⟩
theorem EncSt.main (h : EncSt w cells B W l m pb cs) : EncSt w cells B W l m w.heap.size cells :=
  ⟨h.x, h.box, h.wr, h.hB, h.len, h.box, by have := h.wr.lt; have := h.hB; omega, by have := h.hB; omega⟩
theorem EncSt.newBox (h : EncSt w cells B W l m pb cs) (T : TypeId) (cs' : List Value) : EncSt w cells B (W.alloc (.cells cs'.toArray T)) l m W.heap.size cs' :=
  { h.ext ((Ext.refl W).alloc (.cells cs'.toArray T)) with
    two := fun j v hj => by rw [Nat.zero_add, World.cell?_alloc_at _ _ _ _ rfl]; simpa using hj
    lt := by simp
    ne := by have := h.wr.lt; omega }
theorem EncSt.eq (h : EncSt w cells B W l m pb cs) (hl : l = l') {m' : Nat} (hm : m ≤ m') : EncSt w cells B W l' m' pb cs := by subst hl; exact { h with len := Nat.le_trans h.len hm }
theorem EncSt.at1 (h : EncSt w cells B W l m pb cs) (j : Nat) {v : Value} (hj : cells[j]? = some v) : W.cell? ⟨w.heap.size, j, none⟩ = some v := by have := h.box j v hj; rwa [Nat.zero_add] at this
theorem EncSt.at2 (h : EncSt w cells B W l m pb cs) (j : Nat) {v : Value} (hj : cs[j]? = some v) : W.cell? ⟨pb, j, none⟩ = some v := by have := h.two j v hj; rwa [Nat.zero_add] at this

/-- after a writer's call -/
def Enc (w : World) (cells : List Value) (B : Nat) (l : List UInt8) (m pb : Nat) (cs : List Value) : Ending → World → Prop := fun e W => e = .returned (.tuple #[]) ∧ EncSt w cells B W l m pb cs

theorem enc_puts (h : EncSt w cells B W l m pb cs) (e : Ext W W') (size : Int) {sv : Value} (xs : List Int) (hs : RowIn W' sv xs.length (ints xs)) (hm : m + 8 * xs.length ≤ 10000000000) :
    Calls Tryz.prog 25 #[.pointer (some ⟨B, 0, none⟩), .int .i64 size, sv] W' (Enc w cells B (l ++ beAll size xs) (m + 8 * xs.length) pb cs) := by
  have h1 := h.ext e
  refine (puts_c W' B l h1.wr size sv xs hs (by have := h.len; omega)).mono ?_
  rintro e w2 ⟨rfl, hw2, hx2⟩
  exact ⟨rfl, h1.put hw2 hx2 (by rw [List.length_append]; have := beAll_len size xs; have := h.len; omega)⟩
theorem enc_yes (h : EncSt w cells B W l m pb cs) (e : Ext W W') {sv : Value} (xs : List Bool) (hs : RowIn W' sv xs.length (bools xs)) (hm : m + 8 * xs.length ≤ 10000000000) :
    Calls Tryz.prog 26 #[.pointer (some ⟨B, 0, none⟩), sv] W' (Enc w cells B (l ++ beAll 1 (xs.map bit1)) (m + 8 * xs.length) pb cs) := by
  have h1 := h.ext e
  refine (yes_c W' B l h1.wr sv xs hs (by have := h.len; omega)).mono ?_
  rintro e w2 ⟨rfl, hw2, hx2⟩
  exact ⟨rfl, h1.put hw2 hx2 (by rw [List.length_append]; have := beAll_len 1 (xs.map bit1); rw [List.length_map] at this; have := h.len; omega)⟩
theorem enc_floats (h : EncSt w cells B W l m pb cs) (e : Ext W W') {sv : Value} (xs : List Nat) (hs : RowIn W' sv xs.length (floats xs)) (hm : m + 8 * xs.length ≤ 10000000000) :
    Calls Tryz.prog 28 #[.pointer (some ⟨B, 0, none⟩), sv] W' (Enc w cells B (l ++ beF xs) (m + 8 * xs.length) pb cs) := by
  have h1 := h.ext e
  refine (floats_c W' B l h1.wr sv xs hs (by have := h.len; omega)).mono ?_
  rintro e w2 ⟨rfl, hw2, hx2⟩
  exact ⟨rfl, h1.put hw2 hx2 (by rw [List.length_append, beF_len]; have := h.len; omega)⟩
theorem enc_row (h : EncSt w cells B W l m pb cs) {sv : Value} (xs : List Int) (hs : RowIn W sv xs.length (ints xs)) (hm : m + 8 + 8 * xs.length ≤ 10000000000) :
    Calls Tryz.prog 27 #[.pointer (some ⟨B, 0, none⟩), sv] W (Enc w cells B (l ++ rowB xs) (m + 8 + 8 * xs.length) pb cs) := by
  refine (row_c W B l h.wr sv xs hs (by have := h.len; omega)).mono ?_
  rintro e w2 ⟨rfl, hw2, hx2⟩
  have h8 := beAll_len 1 [(xs.length : Int)]
  simp only [List.length_cons, List.length_nil] at h8
  refine ⟨rfl, h.put (l' := l ++ rowB xs) (by unfold rowB; rw [← List.append_assoc]; exact hw2) hx2 (by unfold rowB; rw [List.length_append, List.length_append]; have := beAll_len 1 xs; have := h.len; omega)⟩
end

end Go.Proofs.YtpopnmelcplbbaaGreat
namespace Go.Proofs.YtpopnmelcplbbaaGreat
open Go.RowKit

/-- what Encode returns -/
def RetEnc (w : World) (t : Tab) : Ending → World → Prop := fun e w' =>
  if mayOk t = true then ∃ v, e = .returned (.tuple #[v, .int .i64 0]) ∧ (RowIn w' v (encB t).length (bytes8 (encB t)) ∧ Fit v) ∧ Ext w w'
  else e = .returned (.tuple #[.slice none 0 0, .int .i64 4]) ∧ Ext w w'

theorem Encode_no (w : World) (gv dv rv bv : Value) (t : Tab) (hT : TabAt w gv dv rv bv t) (hm : mayOk t = false) :
    Calls Tryz.prog 8 #[tabV t gv dv rv bv] w (RetEnc w t) := by
  have hx0 := (Ext.refl w).alloc (.cells (t.cells gv dv rv bv).toArray 34)
  have hc := May_c _ gv dv rv bv t (hT.ext hx0)
  rw [hm] at hc
  have hbox : (w.alloc (.cells (t.cells gv dv rv bv).toArray 34)).rangeAt w.heap.size 0 (t.cells gv dv rv bv) := fun j v hj => by
    rw [Nat.zero_add, World.cell?_alloc_at _ _ _ _ rfl]; simpa using hj
  have hsz : (Tryz.prog.info? 34).map (·.size) = some (t.cells gv dv rv bv).length := by rw [Tab.cells_len]; kernel_rfl
  unfold RetEnc
  rw [hm]
  unfold tabV at hc ⊢
  have H := Lib.hid hc; clear hc
  have HB := Lib.hid hbox; clear hbox
  have HS := Lib.hid hsz; clear hsz hT hm
  set_option maxRecDepth 100000 in
  go_enter Tryz.func8, Tryz.ntmps8
  go_wp2_with (refine wpList_load_mid rfl 34 _ rfl _ _ rfl _ _ HB.out Tryz.underlying34 rfl HS.out ?_)
  refine H.out.mono ?_
  rintro e w1 ⟨rfl, hx⟩
  clear H HB HS
  go_wp2
  go_ret2
  exact ⟨rfl, hx0.trans hx⟩

set_option maxHeartbeats 40000000 in
set_option maxRecDepth 100000 in
theorem Encode_yes (w : World) (gv dv rv bv : Value) (t : Tab) (hT : TabAt w gv dv rv bv t) (hm : mayOk t = true) :
    Calls Tryz.prog 8 #[tabV t gv dv rv bv] w (RetEnc w t) := by
  have hx0 := (Ext.refl w).alloc (.cells (t.cells gv dv rv bv).toArray 34)
  have hc := May_c _ gv dv rv bv t (hT.ext hx0)
  rw [hm] at hc
  have hbox : (w.alloc (.cells (t.cells gv dv rv bv).toArray 34)).rangeAt w.heap.size 0 (t.cells gv dv rv bv) := fun j v hj => by
    rw [Nat.zero_add, World.cell?_alloc_at _ _ _ _ rfl]; simpa using hj
  have hsz : (Tryz.prog.info? 34).map (·.size) = some (t.cells gv dv rv bv).length := by rw [Tab.cells_len]; kernel_rfl
  unfold RetEnc
  simp only [hm, if_true]
  obtain ⟨⟨gvs, hgg, hgr, hgok⟩, hdr, hrr, hbr, hgl, hdl, hrl, hbl⟩ := hT
  rw [hgg, List.length_map] at hgl
  obtain ⟨ga, gcp, rfl, hgr⟩ := hgr
  obtain ⟨da, dcp, rfl, hdr⟩ := hdr
  obtain ⟨ra, rcp, rfl, hrr⟩ := hrr
  obtain ⟨ba, bcp, rfl, hbr⟩ := hbr
  have GR := Lib.hid hgr; clear hgr
  have GOK := Lib.hid hgok; clear hgok
  unfold tabV at hc ⊢
  have hpc : ∀ (W : World) b, W.rangeAt b 0 (t.cells (.slice ga gvs.length gcp) (.slice da t.dets.length dcp) (.slice ra t.rails.length rcp) (.slice ba t.buses.length bcp)) → W.rangeAt b 0 (t.phs.flatMap Ph.cells) := fun W b h j v hj => h j v (t.cells_ph _ _ _ _ j v hj)
  have c104 := Lib.hid (t.c104 (.slice ga gvs.length gcp) (.slice da t.dets.length dcp) (.slice ra t.rails.length rcp) (.slice ba t.buses.length bcp))
  have c113 := Lib.hid (t.c113 (.slice ga gvs.length gcp) (.slice da t.dets.length dcp) (.slice ra t.rails.length rcp) (.slice ba t.buses.length bcp))
  have c114 := Lib.hid (t.c114 (.slice ga gvs.length gcp) (.slice da t.dets.length dcp) (.slice ra t.rails.length rcp) (.slice ba t.buses.length bcp))
  have c115 := Lib.hid (t.c115 (.slice ga gvs.length gcp) (.slice da t.dets.length dcp) (.slice ra t.rails.length rcp) (.slice ba t.buses.length bcp))
  have c116 := Lib.hid (t.c116 (.slice ga gvs.length gcp) (.slice da t.dets.length dcp) (.slice ra t.rails.length rcp) (.slice ba t.buses.length bcp))
  have c117 := Lib.hid (t.c117 (.slice ga gvs.length gcp) (.slice da t.dets.length dcp) (.slice ra t.rails.length rcp) (.slice ba t.buses.length bcp))
  have c118 := Lib.hid (t.c118 (.slice ga gvs.length gcp) (.slice da t.dets.length dcp) (.slice ra t.rails.length rcp) (.slice ba t.buses.length bcp))
  have c119 := Lib.hid (t.c119 (.slice ga gvs.length gcp) (.slice da t.dets.length dcp) (.slice ra t.rails.length rcp) (.slice ba t.buses.length bcp))
  have c120 := Lib.hid (t.c120 (.slice ga gvs.length gcp) (.slice da t.dets.length dcp) (.slice ra t.rails.length rcp) (.slice ba t.buses.length bcp))
  have c129 := Lib.hid (t.c129 (.slice ga gvs.length gcp) (.slice da t.dets.length dcp) (.slice ra t.rails.length rcp) (.slice ba t.buses.length bcp))
  have c130 := Lib.hid (t.c130 (.slice ga gvs.length gcp) (.slice da t.dets.length dcp) (.slice ra t.rails.length rcp) (.slice ba t.buses.length bcp))
  have CONF := Lib.hid (t.cells_conf (.slice ga gvs.length gcp) (.slice da t.dets.length dcp) (.slice ra t.rails.length rcp) (.slice ba t.buses.length bcp))
  have FLASH := Lib.hid (t.cells_flash (.slice ga gvs.length gcp) (.slice da t.dets.length dcp) (.slice ra t.rails.length rcp) (.slice ba t.buses.length bcp))
  have hphs : (Tryz.prog.info? 27).map (·.size) = some (t.phs.flatMap Ph.cells).length := by rw [Tab.phs_cells_len]; kernel_rfl
  have hidx : ∀ k (h : k < t.phs.length), ((t.phs.flatMap Ph.cells).drop (k * 13)).take 13 = (t.phs[k]).cells := fun k h => flat_drop Ph.cells 13 t.phs (fun _ _ => rfl) k h
  have hp8 := t.phs_len
  obtain ⟨E, hE⟩ : ∃ E, E = encB t := ⟨_, rfl⟩
  rw [← hE]
  unfold encB at hE
  obtain ⟨BD, hBD⟩ : ∃ E, E = bodyB t := ⟨_, rfl⟩
  rw [← hBD] at hE
  unfold bodyB at hBD
  rw [hgg, List.length_map, List.flatMap_map] at hBD
  clear hgg
  generalize t.cells (.slice ga gvs.length gcp) (.slice da t.dets.length dcp) (.slice ra t.rails.length rcp) (.slice ba t.buses.length bcp) = cells at *
  generalize t.dets = dets at *
  generalize t.rails = rails at *
  generalize t.buses = buses at *
  generalize t.phs.flatMap Ph.cells = PL at hphs hpc hidx
  generalize t.phs = phs at hidx hBD hp8
  have H := Lib.hid hc; clear hc
  have HB := Lib.hid hbox; clear hbox
  have HS := Lib.hid hsz; clear hsz hm
  have HX0 := Lib.hid hx0; clear hx0
  have DR := Lib.hid hdr; clear hdr
  have RR := Lib.hid hrr; clear hrr
  have BR := Lib.hid hbr; clear hbr
  have HE := Lib.hid hE; clear hE
  have HBD := Lib.hid hBD; clear hBD
  have PHS := Lib.hid hphs; clear hphs
  have HPC := Lib.hid hpc; clear hpc
  have HIDX := Lib.hid hidx; clear hidx
  go_enter Tryz.func8, Tryz.ntmps8
  go_wp2_with (refine wpList_load_mid rfl 34 _ rfl _ _ rfl _ _ HB.out Tryz.underlying34 rfl HS.out ?_)
  refine H.out.mono ?_
  rintro e w1 ⟨rfl, hx⟩
  clear H HS
  have hB : w.heap.size < w1.heap.size := by have := hx.size; simp at this; omega
  have hst : EncSt w cells w1.heap.size (w1.alloc (.cells #[.slice none 0 0] 78)) [] 0 w.heap.size cells := by
    have hb := rangeAt_ext (rangeAt_ext HB.out hx (by simp)) ((Ext.refl w1).alloc (.cells #[.slice none 0 0] 78)) hB
    exact ⟨(HX0.out.trans hx).alloc _, hb, ⟨none, 0, 0, heap_alloc_last _ _, ⟨none, 0, rfl, .inl ⟨rfl, rfl⟩⟩, Nat.le_refl _⟩, hB, Nat.le_refl _, hb, by simp; omega, by omega⟩
  have HST := Lib.hid hst; clear hst hx HB HX0
  go_wp2_with fail
  refine (enc_puts HST.out (by exact ((Ext.refl _).alloc _)) 3 [5784065] (by exact rowIn_at _ _ _ _ _ (by first | rfl | simp)) (by (try simp only [List.length_cons, List.length_nil]); omega)).mono ?_
  rintro e w2 ⟨rfl, hst⟩
  clear HST
  have HST := Lib.hid hst; clear hst
  generalize w1.heap.size = B at HST hB ⊢
  have hst := HST.out.eq (m' := 100) rfl (by (try simp only [List.length_cons, List.length_nil]); omega)
  clear HST
  generalize hL1 : [] ++ beAll 3 [5784065] = L1 at hst
  have HL1 := Lib.hid hL1; clear hL1
  have HST := Lib.hid hst; clear hst
  have HC := Lib.hid (HPC.out _ _ HST.out.box)
  go_wp2_with (refine wpList_load_mid rfl 27 _ rfl _ _ rfl _ _ HC.out Tryz.underlying27 rfl PHS.out ?_)
  clear HC
  go_loopw [25] (fun i wr => ∃ k : Nat, k ≤ phs.length ∧ i = .int .i64 k ∧ EncSt w cells B wr (L1 ++ (phs.take k).flatMap phB) (100 + k * 104) w.heap.size cells) (fun i _ => phs.length - (intOf i).toNat)
  case atStart => exact ⟨0, Nat.zero_le _, rfl, HST.out.eq (by simp) (by omega)⟩
  case round =>
   obtain ⟨k, hk, rfl, hst⟩ := hrel
   clear HST
   have HST := Lib.hid hst; clear hst
   by_cases hlt : k < phs.length
   · have HSN := Lib.hid (flatMap_snoc phB phs k hlt)
     have hidx := HIDX.out k hlt
     have hkn : k < 8 := by omega
     generalize phs[k] = x at hidx HSN
     have HI := Lib.hid hidx; clear hidx
     have HIN := Lib.hid (show (Tryz.prog.info? 26).map (·.size) = some 13 by kernel_rfl)
     have HON := Lib.hid (show (Ph.cells x).toArray.all (·.oneCell') = true from all_oneCell_toArray (by simp [Ph.cells, Value.oneCell']))
     have HSZ := Lib.hid (show (Ph.cells x).toArray.size = 13 from rfl)
     have HNB := Lib.hid (HST.out.newBox 26 (Ph.cells x))
     go_wp2_with (first
       | ((with_reducible refine atIndex _ rfl ?_); refine wpList_index_agg 27 _ _ rfl rfl _ k .i64 8 _ 13 _ rfl rfl Tryz.underlying27 hkn Tryz.underlying26 rfl HIN.out _ HI.out ?_)
       | ((with_reducible refine atStore _ rfl ?_); refine wpList_store_new 26 _ _ rfl rfl wr _ (Ph.cells x).toArray rfl _ rfl rfl rfl HIN.out HSZ.out.symm HON.out (halt ?_)))
     unfold Halt
     have hst := HNB.out
     clear HNB HIN HON HSZ HST
     generalize wr.alloc (.cells (Ph.cells x).toArray 26) = W at hst ⊢
     generalize wr.heap.size = pb at hst ⊢
     have HST := Lib.hid hst; clear hst
     clear HI
     have hc0 := HST.out.at2 (v := .bool x.on) 0 rfl
     go_wp2_with fail
     refine (enc_yes HST.out (by exact ((Ext.refl _).alloc _))  [x.on] (by exact rowIn_at _ _ _ _ _ (by first | rfl | simp)) (by (try simp only [List.length_cons, List.length_nil]); omega)).mono ?_
     rintro e w2 ⟨rfl, hst⟩
     clear hc0
     clear HST
     have HST := Lib.hid hst; clear hst
     have hc0 := HST.out.at2 (v := .int .i64 x.min) 1 rfl
     have hc1 := HST.out.at2 (v := .int .i64 x.gap) 2 rfl
     have hc2 := HST.out.at2 (v := .int .i64 x.max) 3 rfl
     have hc3 := HST.out.at2 (v := .int .i64 x.top) 4 rfl
     have hc4 := HST.out.at2 (v := .int .i64 x.step) 5 rfl
     have hc5 := HST.out.at2 (v := .int .i64 x.yellow) 6 rfl
     have hc6 := HST.out.at2 (v := .int .i64 x.red) 7 rfl
     have hc7 := HST.out.at2 (v := .int .i64 x.walk) 8 rfl
     have hc8 := HST.out.at2 (v := .int .i64 x.blinks) 9 rfl
     go_wp2_with fail
     refine (enc_puts HST.out (by exact ((Ext.refl _).alloc _)) 2 [x.min, x.gap, x.max, x.top, x.step, x.yellow, x.red, x.walk, x.blinks] (by exact rowIn_at _ _ _ _ _ (by first | rfl | simp)) (by (try simp only [List.length_cons, List.length_nil]); omega)).mono ?_
     rintro e w2 ⟨rfl, hst⟩
     clear hc0 hc1 hc2 hc3 hc4 hc5 hc6 hc7 hc8
     clear HST
     have HST := Lib.hid hst; clear hst
     have hc0 := HST.out.at2 (v := .int .i64 x.recall) 10 rfl
     go_wp2_with fail
     refine (enc_puts HST.out (by exact ((Ext.refl _).alloc _)) 1 [x.recall] (by exact rowIn_at _ _ _ _ _ (by first | rfl | simp)) (by (try simp only [List.length_cons, List.length_nil]); omega)).mono ?_
     rintro e w2 ⟨rfl, hst⟩
     clear hc0
     clear HST
     have HST := Lib.hid hst; clear hst
     have hc0 := HST.out.at2 (v := .bool x.lock) 11 rfl
     have hc1 := HST.out.at2 (v := .bool x.rest) 12 rfl
     go_wp2_with fail
     refine (enc_yes HST.out (by exact ((Ext.refl _).alloc _))  [x.lock, x.rest] (by exact rowIn_at _ _ _ _ _ (by first | rfl | simp)) (by (try simp only [List.length_cons, List.length_nil]); omega)).mono ?_
     rintro e w2 ⟨rfl, hst⟩
     clear hc0 hc1
     clear HST
     have HST := Lib.hid hst; clear hst
     go_wp2
     go_roundw
     case rel => exact ⟨k + 1, by omega, by go_num, HST.out.main.eq (by rw [HSN.out, ← List.append_assoc]; simp [phB, List.append_assoc]) (by (try simp only [List.length_cons, List.length_nil, Nat.add_mul]); omega)⟩
     case measure => simp [intOf]; omega
   · have hk' : phs.take k = phs := List.take_of_length_le (by omega)
     have hst := HST.out.eq (m' := 932) (congrArg (fun l => L1 ++ List.flatMap phB l) hk') (by omega)
     clear HST hk'
     try dsimp only at hst
     have HST := Lib.hid hst; clear hst
     have hst := HST.out.eq (m' := 1000) rfl (by (try simp only [List.length_cons, List.length_nil]); omega)
     clear HST
     generalize hL2 : L1 ++ phs.flatMap phB = L2 at hst
     have HL2 := Lib.hid hL2; clear hL2
     have HST := Lib.hid hst; clear hst
     have hc0 := HST.out.at1 (v := (.slice ga gvs.length gcp)) 104 c104.out
     go_wp2_with fail
     refine (enc_puts HST.out (by exact ((Ext.refl _).alloc _)) 1 [(gvs.length : Int)] (by exact rowIn_at _ _ _ _ _ (by first | rfl | simp)) (by (try simp only [List.length_cons, List.length_nil]); omega)).mono ?_
     rintro e w2 ⟨rfl, hst⟩
     clear hc0
     clear HST
     have HST := Lib.hid hst; clear hst
     have hst := HST.out.eq (m' := 2000) rfl (by (try simp only [List.length_cons, List.length_nil]); omega)
     clear HST
     generalize hL3 : L2 ++ beAll 1 [(gvs.length : Int)] = L3 at hst
     have HL3 := Lib.hid hL3; clear hL3
     have HST := Lib.hid hst; clear hst
     have hc0 := HST.out.at1 (v := (.slice ga gvs.length gcp)) 104 c104.out
     go_wp2_with fail
     clear hc0
     go_loopw [76] (fun i wr => ∃ k : Nat, k ≤ gvs.length ∧ i = .int .i64 k ∧ EncSt w cells B wr (L3 ++ (gvs.take k).flatMap (fun g => grB g.g)) (2000 + k * 16016) w.heap.size cells) (fun i _ => gvs.length - (intOf i).toNat)
     case atStart => exact ⟨0, Nat.zero_le _, rfl, HST.out.eq (by simp) (by omega)⟩
     case round =>
      obtain ⟨k, hk, rfl, hst⟩ := hrel
      clear HST
      have HST := Lib.hid hst; clear hst
      by_cases hlt : k < gvs.length
      · have HSN := Lib.hid (flatMap_snoc (fun g => grB g.g) gvs k hlt)
        rcases GR.out with ⟨h0, _⟩ | ⟨b, off, rfl, hb, hc⟩
        · omega
        have hrg : wr.rangeAt b (off + k * 2) (GV.cells gvs[k]) := fun j v hj => by
          rw [Nat.add_assoc]
          exact (HST.out.x.cell (p := ⟨b, off + (k * 2 + j), none⟩) hb).trans (hc (k * 2 + j) v (flat_get GV.cells 2 gvs (fun _ _ => rfl) k hlt j v hj))
        clear hc
        have hok := GOK.out gvs[k] (by simp)
        generalize gvs[k] = x at hrg HSN hok
        obtain ⟨va, vb, gl, gr⟩ := x
        obtain ⟨hok1, hok2, hok3, hok4⟩ := hok
        obtain ⟨a1, cp1, h1, hok1⟩ := hok1
        obtain ⟨a2, cp2, h2, hok2⟩ := hok2
        dsimp only at h1 h2 hok1 hok2 hok3 hok4
        subst h1 h2
        have OK1 := Lib.hid (show RowIn w (.slice a1 gl.length cp1) gl.length (ints gl) from ⟨_, _, rfl, hok1⟩)
        have OK2 := Lib.hid (show RowIn w (.slice a2 gr.length cp2) gr.length (ints gr) from ⟨_, _, rfl, hok2⟩)
        clear hok1 hok2
        have HRG := Lib.hid hrg; clear hrg
        have HIN := Lib.hid (show (Tryz.prog.info? 65).map (·.size) = some 2 by kernel_rfl)
        have HON := Lib.hid (show (GV.cells ⟨.slice a1 gl.length cp1, .slice a2 gr.length cp2, gl, gr⟩).toArray.all (·.oneCell') = true from all_oneCell_toArray (by simp [GV.cells, Value.oneCell']))
        have HSZ := Lib.hid (show (GV.cells ⟨.slice a1 gl.length cp1, .slice a2 gr.length cp2, gl, gr⟩).toArray.size = 2 from rfl)
        have HNB := Lib.hid (HST.out.newBox 65 (GV.cells ⟨.slice a1 gl.length cp1, .slice a2 gr.length cp2, gl, gr⟩))
        go_wp2_with (first
          | ((with_reducible refine atLoad _ rfl ?_); refine wpList_load_mid rfl 65 _ rfl _ _ rfl _ _ HRG.out Tryz.underlying65 rfl HIN.out ?_)
          | ((with_reducible refine atStore _ rfl ?_); refine wpList_store_new 65 _ _ rfl rfl wr _ (GV.cells ⟨.slice a1 gl.length cp1, .slice a2 gr.length cp2, gl, gr⟩).toArray rfl _ rfl rfl rfl HIN.out HSZ.out.symm HON.out (halt ?_)))
        unfold Halt
        have hst := HNB.out
        clear HNB HIN HON HSZ HST
        generalize wr.alloc (.cells (GV.cells ⟨.slice a1 gl.length cp1, .slice a2 gr.length cp2, gl, gr⟩).toArray 65) = W at hst ⊢
        generalize wr.heap.size = pb at hst ⊢
        have HST := Lib.hid hst; clear hst
        clear HRG
        have hc0 := HST.out.at2 (v :=  (.slice a1 gl.length cp1)) 0 rfl
        go_wp2_with fail
        refine (enc_row HST.out gl (OK1.out.ext HST.out.x) (by (try simp only [List.length_cons, List.length_nil]); omega)).mono ?_
        rintro e w2 ⟨rfl, hst⟩
        clear hc0
        clear HST
        have HST := Lib.hid hst; clear hst
        have hc0 := HST.out.at2 (v :=  (.slice a2 gr.length cp2)) 1 rfl
        go_wp2_with fail
        refine (enc_row HST.out gr (OK2.out.ext HST.out.x) (by (try simp only [List.length_cons, List.length_nil]); omega)).mono ?_
        rintro e w2 ⟨rfl, hst⟩
        clear hc0
        clear HST
        have HST := Lib.hid hst; clear hst
        go_wp2
        go_roundw
        case rel => exact ⟨k + 1, by omega, by go_num, HST.out.main.eq (by rw [HSN.out, ← List.append_assoc]; simp [grB, GV.g, List.append_assoc]) (by (try simp only [List.length_cons, List.length_nil, Nat.add_mul]); omega)⟩
        case measure => simp [intOf]; omega
      · have hk' : gvs.take k = gvs := List.take_of_length_le (by omega)
        have hst := HST.out.eq (m' := 16018000) (congrArg (fun l => L3 ++ List.flatMap (fun g => grB g.g) l) hk') (by omega)
        clear HST hk'
        try dsimp only at hst
        have HST := Lib.hid hst; clear hst
        have hst := HST.out.eq (m' := 17000000) rfl (by (try simp only [List.length_cons, List.length_nil]); omega)
        clear HST
        generalize hL4 : L3 ++ gvs.flatMap (fun g => grB g.g) = L4 at hst
        have HL4 := Lib.hid hL4; clear hL4
        have HST := Lib.hid hst; clear hst
        go_wp2_with fail
        refine (enc_puts HST.out (by exact Ext.refl _) 1 (arr8 t.conflict) (by exact rowIn_piece _ _ 105 8 8 _ (by have := HST.out.hB; have := HST.out.wr.lt; omega) (fun i c hi => HST.out.at1 _ (CONF.out i c hi))) (by simp only [arr8, List.length_map, List.length_range]; omega)).mono ?_
        rintro e w2 ⟨rfl, hst⟩
        clear HST
        have HST := Lib.hid hst; clear hst
        have harr : (arr8 t.conflict).length = 8 := by simp [arr8]
        have hst := HST.out.eq (m' := 18000000) rfl (by (try simp only [List.length_cons, List.length_nil]); omega)
        clear HST
        generalize hL5 : L4 ++ beAll 1 (arr8 t.conflict) = L5 at hst
        have HL5 := Lib.hid hL5; clear hL5
        have HST := Lib.hid hst; clear hst
        have hc0 := HST.out.at1 (v := (.slice da dets.length dcp)) 113 c113.out
        go_wp2_with fail
        refine (enc_puts HST.out (by exact ((Ext.refl _).alloc _)) 1 [(dets.length : Int)] (by exact rowIn_at _ _ _ _ _ (by first | rfl | simp)) (by (try simp only [List.length_cons, List.length_nil]); omega)).mono ?_
        rintro e w2 ⟨rfl, hst⟩
        clear hc0
        clear HST
        have HST := Lib.hid hst; clear hst
        have hst := HST.out.eq (m' := 19000000) rfl (by (try simp only [List.length_cons, List.length_nil]); omega)
        clear HST
        generalize hL6 : L5 ++ beAll 1 [(dets.length : Int)] = L6 at hst
        have HL6 := Lib.hid hL6; clear hL6
        have HST := Lib.hid hst; clear hst
        have hc0 := HST.out.at1 (v := (.slice da dets.length dcp)) 113 c113.out
        go_wp2_with fail
        clear hc0
        go_loopw [102] (fun i wr => ∃ k : Nat, k ≤ dets.length ∧ i = .int .i64 k ∧ EncSt w cells B wr (L6 ++ (dets.take k).flatMap deB) (19000000 + k * 56) w.heap.size cells) (fun i _ => dets.length - (intOf i).toNat)
        case atStart => exact ⟨0, Nat.zero_le _, rfl, HST.out.eq (by simp) (by omega)⟩
        case round =>
         obtain ⟨k, hk, rfl, hst⟩ := hrel
         clear HST
         have HST := Lib.hid hst; clear hst
         by_cases hlt : k < dets.length
         · have HSN := Lib.hid (flatMap_snoc deB dets k hlt)
           rcases DR.out with ⟨h0, _⟩ | ⟨b, off, rfl, hb, hc⟩
           · omega
           have hrg : wr.rangeAt b (off + k * 7) (Det.cells dets[k]) := fun j v hj => by
             rw [Nat.add_assoc]
             exact (HST.out.x.cell (p := ⟨b, off + (k * 7 + j), none⟩) hb).trans (hc (k * 7 + j) v (flat_get Det.cells 7 dets (fun _ _ => rfl) k hlt j v hj))
           clear hc
           generalize dets[k] = x at hrg HSN
           have HRG := Lib.hid hrg; clear hrg
           have HIN := Lib.hid (show (Tryz.prog.info? 68).map (·.size) = some 7 by kernel_rfl)
           have HON := Lib.hid (show (Det.cells x).toArray.all (·.oneCell') = true from all_oneCell_toArray (by simp [Det.cells, Value.oneCell']))
           have HSZ := Lib.hid (show (Det.cells x).toArray.size = 7 from rfl)
           have HNB := Lib.hid (HST.out.newBox 68 (Det.cells x))
           go_wp2_with (first
             | ((with_reducible refine atLoad _ rfl ?_); refine wpList_load_mid rfl 68 _ rfl _ _ rfl _ _ HRG.out Tryz.underlying68 rfl HIN.out ?_)
             | ((with_reducible refine atStore _ rfl ?_); refine wpList_store_new 68 _ _ rfl rfl wr _ (Det.cells x).toArray rfl _ rfl rfl rfl HIN.out HSZ.out.symm HON.out (halt ?_)))
           unfold Halt
           have hst := HNB.out
           clear HNB HIN HON HSZ HST
           generalize wr.alloc (.cells (Det.cells x).toArray 68) = W at hst ⊢
           generalize wr.heap.size = pb at hst ⊢
           have HST := Lib.hid hst; clear hst
           clear HRG
           have hc0 := HST.out.at2 (v := .int .i64 x.phase) 0 rfl
           go_wp2_with fail
           refine (enc_puts HST.out (by exact ((Ext.refl _).alloc _)) 1 [x.phase] (by exact rowIn_at _ _ _ _ _ (by first | rfl | simp)) (by (try simp only [List.length_cons, List.length_nil]); omega)).mono ?_
           rintro e w2 ⟨rfl, hst⟩
           clear hc0
           clear HST
           have HST := Lib.hid hst; clear hst
           have hc0 := HST.out.at2 (v := .float .f64 x.on) 1 rfl
           have hc1 := HST.out.at2 (v := .float .f64 x.off) 2 rfl
           have hc2 := HST.out.at2 (v := .float .f64 x.delay) 3 rfl
           have hc3 := HST.out.at2 (v := .float .f64 x.extend) 4 rfl
           go_wp2_with fail
           refine (enc_floats HST.out (by exact ((Ext.refl _).alloc _))  [x.on, x.off, x.delay, x.extend] (by exact rowIn_at _ _ _ _ _ (by first | rfl | simp)) (by (try simp only [List.length_cons, List.length_nil]); omega)).mono ?_
           rintro e w2 ⟨rfl, hst⟩
           clear hc0 hc1 hc2 hc3
           clear HST
           have HST := Lib.hid hst; clear hst
           have hc0 := HST.out.at2 (v := .int .i64 x.maxOn) 5 rfl
           have hc1 := HST.out.at2 (v := .int .i64 x.maxOff) 6 rfl
           go_wp2_with fail
           refine (enc_puts HST.out (by exact ((Ext.refl _).alloc _)) 2 [x.maxOn, x.maxOff] (by exact rowIn_at _ _ _ _ _ (by first | rfl | simp)) (by (try simp only [List.length_cons, List.length_nil]); omega)).mono ?_
           rintro e w2 ⟨rfl, hst⟩
           clear hc0 hc1
           clear HST
           have HST := Lib.hid hst; clear hst
           go_wp2
           go_roundw
           case rel => exact ⟨k + 1, by omega, by go_num, HST.out.main.eq (by rw [HSN.out, ← List.append_assoc]; simp [deB, List.append_assoc]) (by (try simp only [List.length_cons, List.length_nil, Nat.add_mul]); omega)⟩
           case measure => simp [intOf]; omega
         · have hk' : dets.take k = dets := List.take_of_length_le (by omega)
           have hst := HST.out.eq (m' := 19056000) (congrArg (fun l => L6 ++ List.flatMap deB l) hk') (by omega)
           clear HST hk'
           try dsimp only at hst
           have HST := Lib.hid hst; clear hst
           have hst := HST.out.eq (m' := 20000000) rfl (by (try simp only [List.length_cons, List.length_nil]); omega)
           clear HST
           generalize hL7 : L6 ++ dets.flatMap deB = L7 at hst
           have HL7 := Lib.hid hL7; clear hL7
           have HST := Lib.hid hst; clear hst
           have hc0 := HST.out.at1 (v := (.slice ra rails.length rcp)) 114 c114.out
           go_wp2_with fail
           refine (enc_puts HST.out (by exact ((Ext.refl _).alloc _)) 1 [(rails.length : Int)] (by exact rowIn_at _ _ _ _ _ (by first | rfl | simp)) (by (try simp only [List.length_cons, List.length_nil]); omega)).mono ?_
           rintro e w2 ⟨rfl, hst⟩
           clear hc0
           clear HST
           have HST := Lib.hid hst; clear hst
           have hst := HST.out.eq (m' := 21000000) rfl (by (try simp only [List.length_cons, List.length_nil]); omega)
           clear HST
           generalize hL8 : L7 ++ beAll 1 [(rails.length : Int)] = L8 at hst
           have HL8 := Lib.hid hL8; clear hL8
           have HST := Lib.hid hst; clear hst
           have hc0 := HST.out.at1 (v := (.slice ra rails.length rcp)) 114 c114.out
           go_wp2_with fail
           clear hc0
           go_loopw [139] (fun i wr => ∃ k : Nat, k ≤ rails.length ∧ i = .int .i64 k ∧ EncSt w cells B wr (L8 ++ (rails.take k).flatMap raB) (21000000 + k * 88) w.heap.size cells) (fun i _ => rails.length - (intOf i).toNat)
           case atStart => exact ⟨0, Nat.zero_le _, rfl, HST.out.eq (by simp) (by omega)⟩
           case round =>
            obtain ⟨k, hk, rfl, hst⟩ := hrel
            clear HST
            have HST := Lib.hid hst; clear hst
            by_cases hlt : k < rails.length
            · have HSN := Lib.hid (flatMap_snoc raB rails k hlt)
              rcases RR.out with ⟨h0, _⟩ | ⟨b, off, rfl, hb, hc⟩
              · omega
              have hrg : wr.rangeAt b (off + k * 11) (Ra.cells rails[k]) := fun j v hj => by
                rw [Nat.add_assoc]
                exact (HST.out.x.cell (p := ⟨b, off + (k * 11 + j), none⟩) hb).trans (hc (k * 11 + j) v (flat_get Ra.cells 11 rails (fun _ _ => rfl) k hlt j v hj))
              clear hc
              generalize rails[k] = x at hrg HSN
              have HRG := Lib.hid hrg; clear hrg
              have HIN := Lib.hid (show (Tryz.prog.info? 72).map (·.size) = some 11 by kernel_rfl)
              have HON := Lib.hid (show (Ra.cells x).toArray.all (·.oneCell') = true from all_oneCell_toArray (by simp [Ra.cells, Value.oneCell']))
              have HSZ := Lib.hid (show (Ra.cells x).toArray.size = 11 from rfl)
              have HNB := Lib.hid (HST.out.newBox 72 (Ra.cells x))
              go_wp2_with (first
                | ((with_reducible refine atLoad _ rfl ?_); refine wpList_load_mid rfl 72 _ rfl _ _ rfl _ _ HRG.out Tryz.underlying72 rfl HIN.out ?_)
                | ((with_reducible refine atStore _ rfl ?_); refine wpList_store_new 72 _ _ rfl rfl wr _ (Ra.cells x).toArray rfl _ rfl rfl rfl HIN.out HSZ.out.symm HON.out (halt ?_)))
              unfold Halt
              have hst := HNB.out
              clear HNB HIN HON HSZ HST
              generalize wr.alloc (.cells (Ra.cells x).toArray 72) = W at hst ⊢
              generalize wr.heap.size = pb at hst ⊢
              have HST := Lib.hid hst; clear hst
              clear HRG
              have hc0 := HST.out.at2 (v := .int .i64 x.bars) 0 rfl
              have hc1 := HST.out.at2 (v := .int .i64 x.clear) 1 rfl
              have hc2 := HST.out.at2 (v := .int .i64 x.dwell) 2 rfl
              have hc3 := HST.out.at2 (v := .int .i64 x.exit) 3 rfl
              go_wp2_with fail
              refine (enc_puts HST.out (by exact ((Ext.refl _).alloc _)) 1 [x.bars, x.clear, x.dwell, x.exit] (by exact rowIn_at _ _ _ _ _ (by first | rfl | simp)) (by (try simp only [List.length_cons, List.length_nil]); omega)).mono ?_
              rintro e w2 ⟨rfl, hst⟩
              clear hc0 hc1 hc2 hc3
              clear HST
              have HST := Lib.hid hst; clear hst
              have hc0 := HST.out.at2 (v := .int .i64 x.delay) 4 rfl
              have hc1 := HST.out.at2 (v := .int .i64 x.green) 5 rfl
              have hc2 := HST.out.at2 (v := .int .i64 x.foot) 6 rfl
              have hc3 := HST.out.at2 (v := .int .i64 x.hold) 7 rfl
              have hc4 := HST.out.at2 (v := .int .i64 x.stay) 8 rfl
              have hc5 := HST.out.at2 (v := .int .i64 x.most) 9 rfl
              go_wp2_with fail
              refine (enc_puts HST.out (by exact ((Ext.refl _).alloc _)) 2 [x.delay, x.green, x.foot, x.hold, x.stay, x.most] (by exact rowIn_at _ _ _ _ _ (by first | rfl | simp)) (by (try simp only [List.length_cons, List.length_nil]); omega)).mono ?_
              rintro e w2 ⟨rfl, hst⟩
              clear hc0 hc1 hc2 hc3 hc4 hc5
              clear HST
              have HST := Lib.hid hst; clear hst
              have hc0 := HST.out.at2 (v := .int .i64 x.limit) 10 rfl
              go_wp2_with fail
              refine (enc_puts HST.out (by exact ((Ext.refl _).alloc _)) 4 [x.limit] (by exact rowIn_at _ _ _ _ _ (by first | rfl | simp)) (by (try simp only [List.length_cons, List.length_nil]); omega)).mono ?_
              rintro e w2 ⟨rfl, hst⟩
              clear hc0
              clear HST
              have HST := Lib.hid hst; clear hst
              go_wp2
              go_roundw
              case rel => exact ⟨k + 1, by omega, by go_num, HST.out.main.eq (by rw [HSN.out, ← List.append_assoc]; simp [raB, List.append_assoc]) (by (try simp only [List.length_cons, List.length_nil, Nat.add_mul]); omega)⟩
              case measure => simp [intOf]; omega
            · have hk' : rails.take k = rails := List.take_of_length_le (by omega)
              have hst := HST.out.eq (m' := 21088000) (congrArg (fun l => L8 ++ List.flatMap raB l) hk') (by omega)
              clear HST hk'
              try dsimp only at hst
              have HST := Lib.hid hst; clear hst
              have hst := HST.out.eq (m' := 22000000) rfl (by (try simp only [List.length_cons, List.length_nil]); omega)
              clear HST
              generalize hL9 : L8 ++ rails.flatMap raB = L9 at hst
              have HL9 := Lib.hid hL9; clear hL9
              have HST := Lib.hid hst; clear hst
              have hc0 := HST.out.at1 (v := (.slice ba buses.length bcp)) 115 c115.out
              go_wp2_with fail
              refine (enc_puts HST.out (by exact ((Ext.refl _).alloc _)) 1 [(buses.length : Int)] (by exact rowIn_at _ _ _ _ _ (by first | rfl | simp)) (by (try simp only [List.length_cons, List.length_nil]); omega)).mono ?_
              rintro e w2 ⟨rfl, hst⟩
              clear hc0
              clear HST
              have HST := Lib.hid hst; clear hst
              have hst := HST.out.eq (m' := 23000000) rfl (by (try simp only [List.length_cons, List.length_nil]); omega)
              clear HST
              generalize hL10 : L9 ++ beAll 1 [(buses.length : Int)] = L10 at hst
              have HL10 := Lib.hid hL10; clear hL10
              have HST := Lib.hid hst; clear hst
              have hc0 := HST.out.at1 (v := (.slice ba buses.length bcp)) 115 c115.out
              go_wp2_with fail
              clear hc0
              go_loopw [184] (fun i wr => ∃ k : Nat, k ≤ buses.length ∧ i = .int .i64 k ∧ EncSt w cells B wr (L10 ++ (buses.take k).flatMap buB) (23000000 + k * 16) w.heap.size cells) (fun i _ => buses.length - (intOf i).toNat)
              case atStart => exact ⟨0, Nat.zero_le _, rfl, HST.out.eq (by simp) (by omega)⟩
              case round =>
               obtain ⟨k, hk, rfl, hst⟩ := hrel
               clear HST
               have HST := Lib.hid hst; clear hst
               by_cases hlt : k < buses.length
               · have HSN := Lib.hid (flatMap_snoc buB buses k hlt)
                 rcases BR.out with ⟨h0, _⟩ | ⟨b, off, rfl, hb, hc⟩
                 · omega
                 have hrg : wr.rangeAt b (off + k * 2) (Bu.cells buses[k]) := fun j v hj => by
                   rw [Nat.add_assoc]
                   exact (HST.out.x.cell (p := ⟨b, off + (k * 2 + j), none⟩) hb).trans (hc (k * 2 + j) v (flat_get Bu.cells 2 buses (fun _ _ => rfl) k hlt j v hj))
                 clear hc
                 generalize buses[k] = x at hrg HSN
                 have HRG := Lib.hid hrg; clear hrg
                 have HIN := Lib.hid (show (Tryz.prog.info? 74).map (·.size) = some 2 by kernel_rfl)
                 have HON := Lib.hid (show (Bu.cells x).toArray.all (·.oneCell') = true from all_oneCell_toArray (by simp [Bu.cells, Value.oneCell']))
                 have HSZ := Lib.hid (show (Bu.cells x).toArray.size = 2 from rfl)
                 have HNB := Lib.hid (HST.out.newBox 74 (Bu.cells x))
                 go_wp2_with (first
                   | ((with_reducible refine atLoad _ rfl ?_); refine wpList_load_mid rfl 74 _ rfl _ _ rfl _ _ HRG.out Tryz.underlying74 rfl HIN.out ?_)
                   | ((with_reducible refine atStore _ rfl ?_); refine wpList_store_new 74 _ _ rfl rfl wr _ (Bu.cells x).toArray rfl _ rfl rfl rfl HIN.out HSZ.out.symm HON.out (halt ?_)))
                 unfold Halt
                 have hst := HNB.out
                 clear HNB HIN HON HSZ HST
                 generalize wr.alloc (.cells (Bu.cells x).toArray 74) = W at hst ⊢
                 generalize wr.heap.size = pb at hst ⊢
                 have HST := Lib.hid hst; clear hst
                 clear HRG
                 have hc0 := HST.out.at2 (v := .int .i64 x.set) 0 rfl
                 go_wp2_with fail
                 refine (enc_puts HST.out (by exact ((Ext.refl _).alloc _)) 1 [x.set] (by exact rowIn_at _ _ _ _ _ (by first | rfl | simp)) (by (try simp only [List.length_cons, List.length_nil]); omega)).mono ?_
                 rintro e w2 ⟨rfl, hst⟩
                 clear hc0
                 clear HST
                 have HST := Lib.hid hst; clear hst
                 have hc0 := HST.out.at2 (v := .int .i64 x.lock) 1 rfl
                 go_wp2_with fail
                 refine (enc_puts HST.out (by exact ((Ext.refl _).alloc _)) 2 [x.lock] (by exact rowIn_at _ _ _ _ _ (by first | rfl | simp)) (by (try simp only [List.length_cons, List.length_nil]); omega)).mono ?_
                 rintro e w2 ⟨rfl, hst⟩
                 clear hc0
                 clear HST
                 have HST := Lib.hid hst; clear hst
                 go_wp2
                 go_roundw
                 case rel => exact ⟨k + 1, by omega, by go_num, HST.out.main.eq (by rw [HSN.out, ← List.append_assoc]; simp [buB, List.append_assoc]) (by (try simp only [List.length_cons, List.length_nil, Nat.add_mul]); omega)⟩
                 case measure => simp [intOf]; omega
               · have hk' : buses.take k = buses := List.take_of_length_le (by omega)
                 have hst := HST.out.eq (m' := 23016000) (congrArg (fun l => L10 ++ List.flatMap buB l) hk') (by omega)
                 clear HST hk'
                 try dsimp only at hst
                 have HST := Lib.hid hst; clear hst
                 have hst := HST.out.eq (m' := 24000000) rfl (by (try simp only [List.length_cons, List.length_nil]); omega)
                 clear HST
                 generalize hL11 : L10 ++ buses.flatMap buB = L11 at hst
                 have HL11 := Lib.hid hL11; clear hL11
                 have HST := Lib.hid hst; clear hst
                 have hc0 := HST.out.at1 116 c116.out
                 have hc1 := HST.out.at1 117 c117.out
                 have hc2 := HST.out.at1 118 c118.out
                 have hc3 := HST.out.at1 119 c119.out
                 have hc4 := HST.out.at1 120 c120.out
                 go_wp2_with fail
                 refine (enc_puts HST.out (by exact ((Ext.refl _).alloc _)) 2 [t.extend, t.budget, t.start, t.revert, t.least] (by exact rowIn_at _ _ _ _ _ (by first | rfl | simp)) (by (try simp only [List.length_cons, List.length_nil]); omega)).mono ?_
                 rintro e w2 ⟨rfl, hst⟩
                 clear hc0 hc1 hc2 hc3 hc4
                 clear HST
                 have HST := Lib.hid hst; clear hst
                 have hst := HST.out.eq (m' := 25000000) rfl (by (try simp only [List.length_cons, List.length_nil]); omega)
                 clear HST
                 generalize hL12 : L11 ++ beAll 2 [t.extend, t.budget, t.start, t.revert, t.least] = L12 at hst
                 have HL12 := Lib.hid hL12; clear hL12
                 have HST := Lib.hid hst; clear hst
                 go_wp2_with fail
                 refine (enc_puts HST.out (by exact Ext.refl _) 1 (arr8 t.flash) (by exact rowIn_piece _ _ 121 8 8 _ (by have := HST.out.hB; have := HST.out.wr.lt; omega) (fun i c hi => HST.out.at1 _ (FLASH.out i c hi))) (by simp only [arr8, List.length_map, List.length_range]; omega)).mono ?_
                 rintro e w2 ⟨rfl, hst⟩
                 clear HST
                 have HST := Lib.hid hst; clear hst
                 have harr2 : (arr8 t.flash).length = 8 := by simp [arr8]
                 have hst := HST.out.eq (m' := 26000000) rfl (by (try simp only [List.length_cons, List.length_nil]); omega)
                 clear HST
                 generalize hL13 : L12 ++ beAll 1 (arr8 t.flash) = L13 at hst
                 have HL13 := Lib.hid hL13; clear hL13
                 have HST := Lib.hid hst; clear hst
                 have hc0 := HST.out.at1 129 c129.out
                 have hc1 := HST.out.at1 130 c130.out
                 go_wp2_with fail
                 refine (enc_puts HST.out (by exact ((Ext.refl _).alloc _)) 4 [t.window, t.share] (by exact rowIn_at _ _ _ _ _ (by first | rfl | simp)) (by (try simp only [List.length_cons, List.length_nil]); omega)).mono ?_
                 rintro e w2 ⟨rfl, hst⟩
                 clear hc0 hc1
                 clear HST
                 have HST := Lib.hid hst; clear hst
                 have hst := HST.out.eq (m' := 27000000) rfl (by (try simp only [List.length_cons, List.length_nil]); omega)
                 clear HST
                 generalize hL14 : L13 ++ beAll 4 [t.window, t.share] = L14 at hst
                 have HL14 := Lib.hid hL14; clear hL14
                 have HST := Lib.hid hst; clear hst
                 have hbody : L14 = BD := by rw [HBD.out, ← HL14.out, ← HL13.out, ← HL12.out, ← HL11.out, ← HL10.out, ← HL9.out, ← HL8.out, ← HL7.out, ← HL6.out, ← HL5.out, ← HL4.out, ← HL3.out, ← HL2.out, ← HL1.out]; simp only [List.nil_append, List.append_assoc]
                 subst hbody
                 have hlen := HST.out.len
                 obtain ⟨p, q, r, hcell, hrow, _⟩ := HST.out.wr
                 have hcB : w2.cell? ⟨B, 0, none⟩ = some (.slice p q r) := by rw [cell_of_row w2 B 0 _ _ _ hcell]; rfl
                 clear hcell
                 have HO := Lib.hid (Of_crc w2 (.slice p q r) L14 hrow (by omega)); clear hrow
                 go_wp2_with fail
                 refine HO.out.mono ?_
                 rintro e w3 ⟨rfl, hx3⟩
                 clear HO hcB
                 have hcb := crcFrom_bd 65535 (by omega) (by omega) L14
                 generalize hcr : crcFrom 65535 L14 = cr at hcb
                 have HCR := Lib.hid hcr; clear hcr
                 have hst := HST.out.ext hx3
                 clear HST hx3
                 have HST := Lib.hid hst; clear hst
                 go_wp2_with fail
                 refine (enc_puts HST.out (by exact ((Ext.refl _).alloc _)) 2 [cr] (by exact rowIn_at _ _ _ _ _ (by first | rfl | simp)) (by (try simp only [List.length_cons, List.length_nil]); omega)).mono ?_
                 rintro e w2 ⟨rfl, hst⟩
                 clear HST
                 have HST := Lib.hid hst; clear hst
                 obtain ⟨p, q, r, hcell, hrow, hqr⟩ := HST.out.wr
                 have hcB : w2.cell? ⟨B, 0, none⟩ = some (.slice p q r) := by rw [cell_of_row w2 B 0 _ _ _ hcell]; rfl
                 have hEE : L14 ++ beAll 2 [cr] = E := by rw [HE.out, ← HCR.out]
                 rw [hEE] at hrow
                 clear hcell
                 have HR := Lib.hid hrow; clear hrow
                 have HQR := Lib.hid hqr; clear hqr
                 go_wp2
                 go_ret2
                 exact ⟨_, rfl, ⟨HR.out, HQR.out⟩, HST.out.x⟩

theorem Encode_c (w : World) (gv dv rv bv : Value) (t : Tab) (hT : TabAt w gv dv rv bv t) : Calls Tryz.prog 8 #[tabV t gv dv rv bv] w (RetEnc w t) := by
  cases h : mayOk t
  · exact Encode_no w gv dv rv bv t hT h
  · exact Encode_yes w gv dv rv bv t hT h
end Go.Proofs.YtpopnmelcplbbaaGreat
