/-
  wire.Put and its kin: bytes, and a number behind them. The writer of package code: bytes behind one another.
-/
import Derived.Laws.CopyOwn
import Derived.Test.YtpopnmelcplbbaaGreatCrc
set_option linter.unusedVariables false
set_option linter.unusedSimpArgs false
namespace Go.Proofs.YtpopnmelcplbbaaGreat
open Go.RowKit

/-! ### Laws -/
theorem rowIn_own {w : World} {base : Nat} {e : TypeId} {v : Value} {n : Nat} {xs : List Value} (h : w.ownsRow base e 1 v n xs) : RowIn w v n xs := by
  obtain ⟨hl, h⟩ := h
  rcases h with ⟨rfl, rfl⟩ | ⟨g, cap, cur, rfl, hg, hh, h1, h2, h3, h4⟩
  · exact ⟨none, 0, rfl, .inl ⟨rfl, List.eq_nil_of_length_eq_zero (by simpa using hl)⟩⟩
  · refine ⟨_, _, rfl, .inr ⟨g, 0, rfl, ?_, ?_⟩⟩
    · exact (Array.getElem?_eq_some_iff.1 hh).1
    · intro i c hi
      have hlt : i < xs.length := (List.getElem?_eq_some_iff.1 hi).1
      rw [Nat.zero_add, cell_of_row w g i cur e (0, 0) hh]
      rw [← h4, List.getElem?_take] at hi
      split at hi
      · simpa using hi
      · cases hi

theorem Ext.grown {a w w' : World} {row : Option Nat} (h : Ext a w) (hg : w.grownBy w' row) (hr : ∀ k, row = some k → a.heap.size ≤ k) : Ext a w' := ⟨h.below.grown hg h.size hr⟩

/-- make([]T, len, cap) -/
theorem wpList_make_lc {P : Program} (w : World) {ops : Array Oper} {rest : List Oper} {o : Oper} {a : Act} {Q : Exit → Act → World → Prop}
    (l c : Operand) (t : TypeId) (hop : o.op = Op.makeSlice t l c) (hg : o.guard = none)
    (e : TypeId) (i : TypeInfo) (z : Value) (h1 : P.underlying t = some (.slice e)) (h2 : P.info? e = some i) (h3 : i.zero = some z) (h4 : i.size = 1)
    (kl kc : IntKind) (L C : Nat) (hl : a.eval l = .int kl L) (CI : Int) (hc : a.eval c = .int kc CI) (hCI : CI = (C : Int)) (hLC : L ≤ C) (b2 : i.bytes * C ≤ 281474976710656) (b3 : C ≤ maxLen)
    (hK : wpList P ops Q rest (a.put o.dst (.slice (some ⟨w.heap.size, 0, none⟩) L C)) (w.alloc (.cells (madeCells z.cells C) e))) :
    wpList P ops Q (o :: rest) a w := by
  subst hCI
  refine wpList_plain hg fun K hK' => ?_
  have h63 : (C : Int) ≤ 9223372036854775807 := by have h := b3; simp [maxLen] at h; omega
  have hb' : (i.bytes : Int) * (C : Int) ≤ 281474976710656 := by
    have h : ((i.bytes * C : Nat) : Int) ≤ 281474976710656 := by omega
    rwa [Int.natCast_mul] at h
  have hr := run_make (P := P) w t e i z h1 h2 h3 kl kc L C (by omega) (by omega) hb' h63
  simp only [Int.toNat_natCast, h4, Nat.mul_one] at hr
  unfold Oper.wp
  simp [execOp, hop, hl, hc, hr, Result.andThen]
  exact hK' _ _ hK

theorem Tryz.infoByte : (Tryz.prog.info? 5).map (fun i => (i.zero, i.size, i.bytes)) = some (some (.int .u8 0), 1, 1) := by kernel_rfl

/-! ### The bytes of a number -/
def byteAt (n : Int) (i : Nat) : UInt8 := UInt8.ofNat ((n / 2 ^ (8 * i)) % 256).toNat
/-- the i-th one first, down to the 0-th -/
def beN (n : Int) : Nat → List UInt8
  | 0 => []
  | i + 1 => byteAt n i :: beN n i
theorem beN_length (n : Int) (k : Nat) : (beN n k).length = k := by induction k <;> simp [beN, *]
theorem byteAt_toNat (n : Int) (i : Nat) : ((byteAt n i).toNat : Int) = (n / 2 ^ (8 * i)) % 256 := by
  unfold byteAt
  have h0 : 0 ≤ (n / 2 ^ (8 * i)) % 256 := Int.emod_nonneg _ (by omega)
  have h1 : (n / 2 ^ (8 * i)) % 256 < 256 := Int.emod_lt_of_pos _ (by omega)
  rw [UInt8.toNat_ofNat']
  omega
def cut8 (s : Int) : Nat := (min (max s 0) 8).toNat
theorem bytes8_append (a b : List UInt8) : bytes8 (a ++ b) = bytes8 a ++ bytes8 b := by simp [bytes8]
theorem bytes8_length (a : List UInt8) : (bytes8 a).length = a.length := by simp [bytes8]
theorem bytes8_one (a : List UInt8) : ∀ v ∈ bytes8 a, v.oneCell' = true := by intro v hv; simp only [bytes8, List.mem_map] at hv; obtain ⟨j, _, rfl⟩ := hv; rfl

/-- a slice has room for its elements -/
def Fit (v : Value) : Prop := match v with | .slice _ n c => n ≤ c | _ => True
theorem fit_own {w : World} {base : Nat} {e : TypeId} {v : Value} {s n : Nat} {xs : List Value} (h : w.ownsRow base e s v n xs) : Fit v := by
  obtain ⟨hl, h⟩ := h
  rcases h with ⟨rfl, rfl⟩ | ⟨g, cap, cur, rfl, hg, hh, h1, h2, h3, h4⟩
  · exact Nat.le_refl _
  · exact h1
/-- returns bytes -/
def RetBytes (w : World) (l : List UInt8) : Ending → World → Prop := fun e w' => ∃ v, e = .returned v ∧ (RowIn w' v l.length (bytes8 l) ∧ Fit v) ∧ Ext w w'

set_option maxHeartbeats 1000000 in
set_option maxRecDepth 100000 in
theorem Put_c (w : World) (v : Value) (l : List UInt8) (hv : RowIn w v l.length (bytes8 l)) (hl : l.length ≤ 140737488351232) (size n : Int) :
    Calls Tryz.prog 83 #[v, .int .i64 size, .int .i64 n] w (RetBytes w (l ++ beN n (cut8 size))) := by
  obtain ⟨a, cp, rfl, hrow⟩ := hv
  obtain ⟨i0, hi, hz0, hz1, hz2⟩ := info_parts Tryz.infoByte
  have hs : min (max size 0) 8 = (cut8 size : Int) := by unfold cut8; omega
  have hs8 : cut8 size ≤ 8 := by unfold cut8; omega
  generalize hS : cut8 size = S at hs hs8 ⊢
  clear hS
  have hbytes : i0.bytes * (l.length + S) ≤ 281474976710656 := by rw [hz2]; omega
  have hmx : l.length + S ≤ maxLen := by unfold maxLen; omega
  have HB := Lib.hid hbytes; clear hbytes
  have HM := Lib.hid hmx; clear hmx
  have HI := Lib.hid hi; clear hi
  have HZ := Lib.hid hz0; clear hz0
  have HZ1 := Lib.hid hz1; clear hz1
  clear hz2
  have hone : (Tryz.prog.info? 5).map (·.size) = some 1 := by kernel_rfl
  have HONE := Lib.hid hone; clear hone
  -- what lies in the new block
  have hblk : (w.alloc (.cells (madeCells #[.int .u8 0] (l.length + S)) 5)).heap[w.heap.size]? = some (.cells (madeCells #[.int .u8 0] (l.length + S)).toList.toArray 5 (0, 0)) := by
    rw [Array.toArray_toList]; exact heap_alloc_last _ _
  have HBLK := Lib.hid hblk; clear hblk
  have hsrc : 0 < (bytes8 l).length → (some ⟨w.heap.size, 0, none⟩ : Option Addr) = some ⟨w.heap.size, 0, none⟩ ∧ ∃ ad, a = some ad ∧ ∀ j v, (bytes8 l)[j]? = some v → (w.alloc (.cells (madeCells #[.int .u8 0] (l.length + S)) 5)).cell? (ad.add j) = some v := by
    intro h
    rcases hrow with ⟨_, h0⟩ | ⟨b, off, rfl, hb, hc⟩
    · rw [h0] at h; simp at h
    · exact ⟨rfl, _, rfl, fun j v hj => by rw [addr_add, World.cell?_alloc_past _ _ _ hb]; exact hc j v hj⟩
  have HSRC := Lib.hid hsrc; clear hsrc hrow
  have hfit : 0 + (bytes8 l).length ≤ (madeCells #[.int .u8 0] (l.length + S)).toList.length := by simp [bytes8_length, size_madeCells]
  have HFIT := Lib.hid hfit; clear hfit
  have hown0 : ∀ W : World, Hid (W.heap[w.heap.size]? = some (.cells (splice (madeCells #[.int .u8 0] (l.length + S)).toList 0 (bytes8 l)).toArray 5 (0, 0))) →
      W.ownsRow w.heap.size 5 1 (.slice (some ⟨w.heap.size, 0, none⟩) l.length (l.length + S)) l.length (bytes8 l) := by
    intro W hW
    refine ⟨by rw [bytes8_length]; omega, .inr ⟨w.heap.size, l.length + S, _, rfl, Nat.le_refl _, hW.out, by omega, HM.out, ?_, ?_⟩⟩
    · rw [List.size_toArray, length_splice _ _ _ HFIT.out, Array.length_toList, size_madeCells]; omega
    · rw [Nat.mul_one]; simp only [splice, List.take_zero, List.nil_append]
      rw [List.take_append_of_le_length (by rw [bytes8_length]; omega), List.take_of_length_le (by rw [bytes8_length]; omega)]
  have HOWN := Lib.hid hown0; clear hown0
  go_enter Tryz.func83, Tryz.ntmps83
  go_wp2_with (first
    | (refine wpList_make_lc _ _ _ 22 rfl rfl 5 i0 (.int .u8 0) Tryz.underlying22 HI.out HZ.out HZ1.out _ _ l.length (l.length + S) rfl _ rfl (by simp) (by omega) HB.out HM.out ?_)
    | (refine wpList_copy_splice rfl _ _ 22 22 rfl 5 Tryz.underlying22 HONE.out _ _ _ _ _ _ rfl rfl w.heap.size 0 _ 5 HBLK.out (bytes8 l) (by rw [bytes8_length]; simp) HSRC.out HFIT.out (bytes8_one l) w.heap.size w ((Ext.refl w).alloc _).below (Nat.le_refl _) ?_; intro W hW hbW))
  have hx0 : Ext w W := ⟨hbW⟩
  have hown := HOWN.out W hW
  clear hbW hW HOWN HFIT HSRC HBLK
  go_loopw [7, 8] (fun v i wr => ∃ (m : Nat) (pre : List UInt8), pre ++ beN n m = beN n S ∧ i = .int .i64 ((m : Int) - 1) ∧ v = .slice (some ⟨w.heap.size, 0, none⟩) (l.length + pre.length) (l.length + S) ∧ Ext w wr ∧
    wr.ownsRow w.heap.size 5 1 v (l.length + pre.length) (bytes8 (l ++ pre))) (fun _ i _ => (intOf i + 1).toNat)
  case atStart => exact ⟨S, [], rfl, rfl, rfl, hx0, by simpa using hown⟩
  case round =>
    obtain ⟨m, pre, hpre, rfl, rfl, hx, hrow⟩ := hrel
    clear hx0 hown
    have hlen : pre.length + m = S := by have := congrArg List.length hpre; simpa [beN_length] using this
    cases m with
    | zero =>
      have hp : pre = beN n S := by simpa [beN] using hpre
      subst hp
      have hfin := rowIn_own hrow
      have HF := Lib.hid hfin
      have HFT := Lib.hid (fit_own hrow)
      clear hfin hrow hpre
      go_wp2
      go_ret
      exact ⟨_, rfl, ⟨by simpa [beN_length] using HF.out, HFT.out⟩, hx⟩
    | succ m =>
      have hm : (((m + 1 : Nat) : Int) - 1) = (m : Int) := by omega
      rw [hm]
      have HP := Lib.hid hpre; clear hpre hm
      have HR := Lib.hid hrow; clear hrow
      have hm8 : (m : Int) ≤ 7 := by omega
      have hby : bytes8 (l ++ pre) ++ [.int .u8 (n / 2 ^ (8 * m) % 256)] = bytes8 (l ++ (pre ++ [byteAt n m])) := by
        rw [← List.append_assoc, bytes8_append, bytes8_append (l ++ pre)]
        simp [bytes8, byteAt_toNat]
      have HBY := Lib.hid hby; clear hby
      go_wp2_with (at_builtin; refine wpList_append_fits _ rfl _ _ 22 rfl w.heap.size 5 i0 1 Tryz.underlying22 HI.out HZ1.out w.heap.size (l.length + pre.length) (l.length + S) (bytes8 (l ++ pre)) rfl (HR.out.alloc _) ⟨wr.heap.size, 0, none⟩ 1 1 [.int .u8 (n / 2 ^ (8 * m) % 256)] rfl rfl (cell_one_new _ _ _) (by simp [Value.oneCell']) (by omega) ?_; intro w2 hown2 hg2; rw [HBY.out] at hown2)
      have hx2 : Ext w w2 := (hx.alloc _).grown hg2 (fun k e => by cases e; exact Nat.le_refl _)
      have HX := Lib.hid hx2; clear hx2 hg2
      have HO := Lib.hid hown2; clear hown2
      go_roundw
      case rel => exact ⟨m, pre ++ [byteAt n m], by simpa [beN] using HP.out, rfl, by simp [Nat.add_assoc], HX.out, by simpa [Nat.add_assoc] using HO.out⟩
      case measure => simp [intOf]

theorem PutFloat_c (w : World) (v : Value) (l : List UInt8) (hv : RowIn w v l.length (bytes8 l)) (hl : l.length ≤ 140737488351232) (x : Nat) :
    Calls Tryz.prog 84 #[v, .float .f64 x] w (RetBytes w (l ++ beN (wrap64 (x : Int)) 8)) := by
  have hc := Put_c w v l hv hl 8 (wrap64 (x : Int))
  have hb := run_bits x
  rw [show cut8 8 = 8 from rfl] at hc
  obtain ⟨a, cp, rfl, _⟩ := hv
  have H := Lib.hid hc; clear hc
  go_enter Tryz.func84, Tryz.ntmps84
  go_wp2_with fail
  refine H.out.mono ?_
  rintro e w1 ⟨v1, rfl, hr, hx⟩
  have HR := Lib.hid hr
  clear H hr
  go_wp2
  go_ret
  exact ⟨_, rfl, HR.out, hx⟩
end Go.Proofs.YtpopnmelcplbbaaGreat
namespace Go.Proofs.YtpopnmelcplbbaaGreat
open Go.RowKit

/-- All that was there is as it was but for block B. -/
structure ExtB (B : Nat) (w w' : World) : Prop where
  os : w'.os = w.os
  tape : w'.tape = w.tape
  output : w'.output = w.output
  size : w.heap.size ≤ w'.heap.size
  block : ∀ k, k < w.heap.size → k ≠ B → w'.heap[k]? = w.heap[k]?

theorem ExtB.refl (B : Nat) (w : World) : ExtB B w w := ⟨rfl, rfl, rfl, Nat.le_refl _, fun _ _ _ => rfl⟩
theorem ExtB.trans {B : Nat} {a b c : World} (h : ExtB B a b) (k : ExtB B b c) : ExtB B a c :=
  ⟨k.os.trans h.os, k.tape.trans h.tape, k.output.trans h.output, Nat.le_trans h.size k.size, fun i hi hne => (k.block i (Nat.lt_of_lt_of_le hi h.size) hne).trans (h.block i hi hne)⟩
theorem Ext.toB {w w' : World} (h : Ext w w') (B : Nat) : ExtB B w w' := ⟨h.below.os, h.below.tape, h.below.output, h.size, fun k hk _ => h.below.block k hk⟩
theorem ExtB.setCell (w : World) (B o : Nat) (v : Value) : ExtB B w (w.setCell ⟨B, o, none⟩ v) :=
  ⟨rfl, rfl, rfl, by simp [World.setCell], fun k _ hne => Below.heap_setCell _ _ _ _ hne⟩
/-- What lies below B does not know of it. -/
theorem Ext.but {a W w' : World} {B : Nat} (h : Ext a W) (hB : a.heap.size ≤ B) (e : ExtB B W w') : Ext a w' :=
  ⟨h.below.trans ⟨e.os, e.tape, e.output, e.size, fun k hk => e.block k (Nat.lt_of_lt_of_le hk h.size) (by omega)⟩⟩

def Value.noSlice : Value → Bool
  | .slice .. => false
  | _ => true

theorem RowIn.extB {B : Nat} {w w' : World} {v : Value} {n : Nat} {cs : List Value} {p : Option Addr} {q r : Nat} {T : TypeId} {fr : Nat × Nat} (h : RowIn w v n cs) (e : ExtB B w w')
    (hB : w.heap[B]? = some (.cells #[.slice p q r] T fr)) (hcs : ∀ c ∈ cs, Value.noSlice c = true) : RowIn w' v n cs := by
  obtain ⟨a, cap, rfl, h⟩ := h
  refine ⟨a, cap, rfl, ?_⟩
  rcases h with h | ⟨b, off, rfl, hb, hc⟩
  · exact .inl h
  · refine .inr ⟨b, off, rfl, Nat.lt_of_lt_of_le hb e.size, fun i c hi => ?_⟩
    have h1 := hc i c hi
    by_cases hbB : b = B
    · subst hbB
      rw [cell_of_row w b (off + i) _ T fr hB] at h1
      have h2 : c = .slice p q r := by
        cases hoi : off + i with
        | zero => rw [hoi] at h1; simpa using h1.symm
        | succ m => rw [hoi] at h1; simp at h1
      have h3 := hcs c (List.mem_of_getElem? hi)
      rw [h2] at h3; simp [Value.noSlice] at h3
    · have := World.cell?_of_block (w := w) (w' := w') (a := ⟨b, off + i, none⟩) (e.block b hb hbB)
      rw [this]; exact h1

theorem ints_noSlice (xs : List Int) : ∀ c ∈ ints xs, Value.noSlice c = true := by intro c hc; simp only [ints, List.mem_map] at hc; obtain ⟨x, _, rfl⟩ := hc; rfl
theorem bytes8_noSlice (xs : List UInt8) : ∀ c ∈ bytes8 xs, Value.noSlice c = true := by intro c hc; simp only [bytes8, List.mem_map] at hc; obtain ⟨x, _, rfl⟩ := hc; rfl

/-- The writer lies at block B and holds l. -/
def WriterAt (w : World) (B : Nat) (l : List UInt8) : Prop :=
  ∃ p q r, w.heap[B]? = some (.cells #[.slice p q r] 78 (0, 0)) ∧ RowIn w (.slice p q r) l.length (bytes8 l) ∧ q ≤ r
theorem WriterAt.lt {w : World} {B : Nat} {l : List UInt8} (h : WriterAt w B l) : B < w.heap.size := by
  obtain ⟨p, q, r, h, _⟩ := h
  exact (Array.getElem?_eq_some_iff.1 h).1
theorem WriterAt.ext {w w' : World} {B : Nat} {l : List UInt8} (h : WriterAt w B l) (e : Ext w w') : WriterAt w' B l := by
  have hl := h.lt
  obtain ⟨p, q, r, h, hr, hf⟩ := h
  exact ⟨p, q, r, (e.below.block B hl).trans h, hr.ext e, hf⟩
theorem WriterAt.row {B : Nat} {w w' : World} {v : Value} {n : Nat} {cs : List Value} {l : List UInt8} (hW : WriterAt w B l) (h : RowIn w v n cs) (e : ExtB B w w') (hcs : ∀ c ∈ cs, Value.noSlice c = true) : RowIn w' v n cs := by
  obtain ⟨p, q, r, h1, _⟩ := hW
  exact h.extB e h1 hcs

/-- after a call of a writer's: it holds l; nothing else has turned -/
def Wrote (w : World) (B : Nat) (l : List UInt8) : Ending → World → Prop := fun e w' => e = .returned (.tuple #[]) ∧ WriterAt w' B l ∧ ExtB B w w'

/-- The step that each of them makes: new bytes are laid into the writer. -/
theorem WriterAt.put {w w2 : World} {B : Nat} {l l' : List UInt8} {v : Value} (hW : WriterAt w B l) (hx : Ext w w2) (hr : RowIn w2 v l'.length (bytes8 l') ∧ Fit v) : WriterAt (w2.setCell ⟨B, 0, none⟩ v) B l' := by
  have h2 := hW.ext hx
  have hrow := h2.row hr.1 (ExtB.setCell w2 B 0 v) (bytes8_noSlice l')
  obtain ⟨p, q, r, h1, _⟩ := h2
  obtain ⟨⟨a, cap, rfl, _⟩, hf⟩ := hr
  refine ⟨a, _, cap, ?_, hrow, hf⟩
  simp [World.setCell, Array.getElem?_modify, h1]

def beAll (size : Int) (xs : List Int) : List UInt8 := xs.flatMap fun x => beN x (cut8 size)
theorem beAll_snoc (size : Int) (xs : List Int) (k : Nat) (h : k < xs.length) : beAll size (xs.take (k + 1)) = beAll size (xs.take k) ++ beN xs[k] (cut8 size) := by
  unfold beAll; rw [List.take_succ_eq_append_getElem h, List.flatMap_append]; simp
theorem cut8_le (s : Int) : cut8 s ≤ 8 := by unfold cut8; omega
theorem beAll_len (size : Int) (xs : List Int) : (beAll size xs).length ≤ 8 * xs.length := by
  have := cut8_le size
  induction xs with
  | nil => simp [beAll]
  | cons x xs ih => simp only [beAll, List.flatMap_cons, List.length_append, beN_length, List.length_cons] at *; omega

set_option maxHeartbeats 1000000 in
theorem puts_c (w : World) (B : Nat) (l : List UInt8) (hW : WriterAt w B l) (size : Int) (sv : Value) (xs : List Int) (hs : RowIn w sv xs.length (ints xs)) (hl : l.length + 8 * xs.length ≤ 1000000000000) :
    Calls Tryz.prog 25 #[.pointer (some ⟨B, 0, none⟩), .int .i64 size, sv] w (Wrote w B (l ++ beAll size xs)) := by
  have hsl : ∃ (a : Option Addr) (cp : Nat), sv = .slice a xs.length cp := by obtain ⟨a, cp, h, _⟩ := hs; exact ⟨a, cp, h⟩
  obtain ⟨a, cp, rfl⟩ := hsl
  have HW := Lib.hid hW; clear hW
  have HS := Lib.hid hs; clear hs
  go_enter Tryz.func25, Tryz.ntmps25
  go_wp2
  go_loopw [10] (fun i wr => ∃ k : Nat, k ≤ xs.length ∧ i = .int .i64 k ∧ ExtB B w wr ∧ WriterAt wr B (l ++ beAll size (xs.take k))) (fun i _ => xs.length - (intOf i).toNat)
  case atStart => exact ⟨0, Nat.zero_le _, rfl, ExtB.refl _ _, by simpa [beAll] using HW.out⟩
  case round =>
    obtain ⟨k, hk, rfl, hx, hw⟩ := hrel
    by_cases hlt : k < xs.length
    · obtain ⟨a', cp', heq, hrow⟩ := HW.out.row HS.out hx (ints_noSlice xs)
      cases heq
      rcases hrow with ⟨h0, _⟩ | ⟨b, off, rfl, hb, hc⟩
      · omega
      have hc1 : wr.cell? ⟨b, off + k, none⟩ = some (.int .i64 xs[k]) := hc k _ (ints_get xs k hlt)
      have hst := beAll_snoc size xs k hlt
      have hlen := beAll_len size (xs.take k)
      rw [List.length_take, Nat.min_eq_left hk] at hlen
      have hbig : (l ++ beAll size (xs.take k)).length ≤ 140737488351232 := by rw [List.length_append]; omega
      generalize xs[k] = x at hc1 hst
      generalize beAll size (xs.take k) = done at hst hw hbig
      have HW2 := Lib.hid hw
      obtain ⟨p, q, r, hcell, hr, _⟩ := hw
      have hcB : wr.cell? ⟨B, 0, none⟩ = some (.slice p q r) := by rw [cell_of_row wr B 0 _ _ _ hcell]; rfl
      have hcall := Put_c wr (.slice p q r) (l ++ done) hr hbig size x
      have H := Lib.hid hcall; clear hcall hr hcell hlen hbig
      have HST := Lib.hid hst; clear hst hc
      go_wp2_with fail
      refine H.out.mono ?_
      rintro e w2 ⟨v2, rfl, hr2, hx2⟩
      clear H
      have hlt2 : B < wr.heap.size := HW2.out.lt
      have hcB2 : w2.cell? ⟨B, 0, none⟩ = some (.slice p q r) := (hx2.cell (p := ⟨B, 0, none⟩) hlt2).trans hcB
      have hfB2 : w2.frozen? ⟨B, 0, none⟩ = false := by
        obtain ⟨p', q', r', h, _⟩ := HW2.out.ext hx2
        simp [World.frozen?, h]
      have hnew := HW2.out.put hx2 hr2
      have hext := (hx.trans (hx2.toB B)).trans (ExtB.setCell w2 B 0 v2)
      obtain ⟨⟨a2, cp2, rfl, _⟩, _⟩ := hr2
      have HN := Lib.hid hnew; clear hnew
      have HE := Lib.hid hext; clear hext
      clear hcB hc1
      go_wp2
      go_roundw
      case rel => exact ⟨k + 1, by omega, by go_num, by have h := HE.out; simp only [List.length_append, Nat.add_assoc] at h; exact h, by rw [HST.out, ← List.append_assoc]; have h := HN.out; simp only [List.length_append, Nat.add_assoc] at h; exact h⟩
      case measure => simp [intOf]; omega
    · have hk' : xs.take k = xs := List.take_of_length_le (by omega)
      rw [hk'] at hw
      clear hk'
      go_wp2
      go_end0
      exact ⟨rfl, hw, hx⟩


/-! ### row, yes, floats -/
theorem WriterAt.cell {w : World} {B : Nat} {l : List UInt8} (h : WriterAt w B l) : ∃ p q r, w.cell? ⟨B, 0, none⟩ = some (.slice p q r) := by
  obtain ⟨p, q, r, h, _⟩ := h
  exact ⟨p, q, r, by rw [cell_of_row w B 0 _ _ _ h]; rfl⟩

theorem row_c (w : World) (B : Nat) (l : List UInt8) (hW : WriterAt w B l) (sv : Value) (xs : List Int) (hs : RowIn w sv xs.length (ints xs)) (hl : l.length + 8 + 8 * xs.length ≤ 1000000000000) :
    Calls Tryz.prog 27 #[.pointer (some ⟨B, 0, none⟩), sv] w (Wrote w B (l ++ beAll 1 [(xs.length : Int)] ++ beAll 1 xs)) := by
  have hsl : ∃ (a : Option Addr) (cp : Nat), sv = .slice a xs.length cp := by obtain ⟨a, cp, h, _⟩ := hs; exact ⟨a, cp, h⟩
  obtain ⟨a, cp, rfl⟩ := hsl
  have HW := Lib.hid hW; clear hW
  have HS := Lib.hid hs; clear hs
  have h8 := beAll_len 1 [(xs.length : Int)]
  simp only [List.length_cons, List.length_nil] at h8
  go_enter Tryz.func27, Tryz.ntmps27
  go_wp2_with fail
  refine (puts_c _ B l (by exact HW.out.ext ((Ext.refl w).alloc _)) 1 _ [(xs.length : Int)] (by exact rowIn_at _ _ _ _ _ (by first | rfl | simp)) (by simp; omega)).mono ?_
  rintro e w1 ⟨rfl, hw1, hx1⟩
  have hx := (((Ext.refl w).alloc (.cells #[.int .i64 (xs.length : Int)] 3)).toB B).trans hx1
  have hs1 := HW.out.row HS.out hx (ints_noSlice xs)
  have HS1 := Lib.hid hs1; clear hs1
  have HW1 := Lib.hid hw1; clear hw1
  have HX := Lib.hid hx; clear hx hx1
  go_wp2_with fail
  refine (puts_c _ B _ HW1.out 1 _ xs HS1.out (by rw [List.length_append]; omega)).mono ?_
  rintro e w2 ⟨rfl, hw2, hx2⟩
  have HW2 := Lib.hid hw2; clear hw2
  have HX2 := Lib.hid hx2; clear hx2
  go_wp2
  go_end0
  exact ⟨rfl, HW2.out, HX.out.trans HX2.out⟩

def bit1 (b : Bool) : Int := if b then 1 else 0
def bools (bs : List Bool) : List Value := bs.map fun b => .bool b
theorem bools_get (xs : List Bool) (k : Nat) (h : k < xs.length) : (bools xs)[k]? = some (.bool xs[k]) := by simp [bools, h]
theorem bools_noSlice (xs : List Bool) : ∀ c ∈ bools xs, Value.noSlice c = true := by intro c hc; simp only [bools, List.mem_map] at hc; obtain ⟨x, _, rfl⟩ := hc; rfl
theorem beAll_map_snoc (size : Int) {α : Type} (f : α → Int) (xs : List α) (k : Nat) (h : k < xs.length) : beAll size ((xs.take (k + 1)).map f) = beAll size ((xs.take k).map f) ++ beAll size [f xs[k]] := by
  rw [List.take_succ_eq_append_getElem h, List.map_append]; unfold beAll; rw [List.flatMap_append]; rfl

set_option maxHeartbeats 1000000 in
theorem yes_c (w : World) (B : Nat) (l : List UInt8) (hW : WriterAt w B l) (sv : Value) (bs : List Bool) (hs : RowIn w sv bs.length (bools bs)) (hl : l.length + 8 * bs.length ≤ 100000000000) :
    Calls Tryz.prog 26 #[.pointer (some ⟨B, 0, none⟩), sv] w (Wrote w B (l ++ beAll 1 (bs.map bit1))) := by
  have hsl : ∃ (a : Option Addr) (cp : Nat), sv = .slice a bs.length cp := by obtain ⟨a, cp, h, _⟩ := hs; exact ⟨a, cp, h⟩
  obtain ⟨a, cp, rfl⟩ := hsl
  have HW := Lib.hid hW; clear hW
  have HS := Lib.hid hs; clear hs
  go_enter Tryz.func26, Tryz.ntmps26
  go_wp2
  go_loopw [9] (fun i wr => ∃ k : Nat, k ≤ bs.length ∧ i = .int .i64 k ∧ ExtB B w wr ∧ WriterAt wr B (l ++ beAll 1 ((bs.take k).map bit1))) (fun i _ => bs.length - (intOf i).toNat)
  case atStart => exact ⟨0, Nat.zero_le _, rfl, ExtB.refl _ _, by simpa [beAll] using HW.out⟩
  case round =>
    obtain ⟨k, hk, rfl, hx, hw⟩ := hrel
    by_cases hlt : k < bs.length
    · obtain ⟨a', cp', heq, hrow⟩ := HW.out.row HS.out hx (bools_noSlice bs)
      cases heq
      rcases hrow with ⟨h0, _⟩ | ⟨b, off, rfl, hb, hc⟩
      · omega
      have hc1 : wr.cell? ⟨b, off + k, none⟩ = some (.bool bs[k]) := hc k _ (bools_get bs k hlt)
      have hst := beAll_map_snoc 1 bit1 bs k hlt
      have hlen := beAll_len 1 ((bs.take k).map bit1)
      rw [List.length_map, List.length_take, Nat.min_eq_left hk] at hlen
      generalize bs[k] = x at hc1 hst
      generalize beAll 1 ((bs.take k).map bit1) = done at hst hw hlen
      have HW2 := Lib.hid hw; clear hw
      have HST := Lib.hid hst; clear hst hc
      have HX := Lib.hid hx; clear hx
      cases x
      · go_wp2_with fail
        refine (puts_c _ B (l ++ done) (by exact HW2.out.ext ((Ext.refl wr).alloc _)) 1 _ [0] (by exact rowIn_at _ _ _ _ _ (by first | rfl | simp)) (by rw [List.length_append]; simp; omega)).mono ?_
        rintro e w2 ⟨rfl, hw2, hx2⟩
        have hext := (HX.out.trans (((Ext.refl wr).alloc _).toB B)).trans hx2
        have HN := Lib.hid hw2; clear hw2
        have HE := Lib.hid hext; clear hext hx2
        clear hc1
        go_wp2
        go_roundw
        case rel => exact ⟨k + 1, by omega, by go_num, HE.out, by rw [HST.out, ← List.append_assoc]; exact HN.out⟩
        case measure => simp [intOf]; omega
      · go_wp2_with fail
        refine (puts_c _ B (l ++ done) (by exact HW2.out.ext ((Ext.refl wr).alloc _)) 1 _ [1] (by exact rowIn_at _ _ _ _ _ (by first | rfl | simp)) (by rw [List.length_append]; simp; omega)).mono ?_
        rintro e w2 ⟨rfl, hw2, hx2⟩
        have hext := (HX.out.trans (((Ext.refl wr).alloc _).toB B)).trans hx2
        have HN := Lib.hid hw2; clear hw2
        have HE := Lib.hid hext; clear hext hx2
        clear hc1
        go_wp2
        go_roundw
        case rel => exact ⟨k + 1, by omega, by go_num, HE.out, by rw [HST.out, ← List.append_assoc]; exact HN.out⟩
        case measure => simp [intOf]; omega
    · have hk' : bs.take k = bs := List.take_of_length_le (by omega)
      rw [hk'] at hw
      clear hk'
      go_wp2
      go_end0
      exact ⟨rfl, hw, hx⟩

/-! ### floats -/
def floats (xs : List Nat) : List Value := xs.map fun x => .float .f64 x
theorem floats_get (xs : List Nat) (k : Nat) (h : k < xs.length) : (floats xs)[k]? = some (.float .f64 xs[k]) := by simp [floats, h]
theorem floats_noSlice (xs : List Nat) : ∀ c ∈ floats xs, Value.noSlice c = true := by intro c hc; simp only [floats, List.mem_map] at hc; obtain ⟨x, _, rfl⟩ := hc; rfl
def beF (xs : List Nat) : List UInt8 := xs.flatMap fun (x : Nat) => beN (wrap64 (x : Int)) 8
theorem beF_snoc (xs : List Nat) (k : Nat) (h : k < xs.length) : beF (xs.take (k + 1)) = beF (xs.take k) ++ beN (wrap64 (xs[k] : Int)) 8 := by
  unfold beF; rw [List.take_succ_eq_append_getElem h, List.flatMap_append]; simp
theorem beF_len (xs : List Nat) : (beF xs).length = 8 * xs.length := by
  induction xs with
  | nil => simp [beF]
  | cons x xs ih => simp only [beF, List.flatMap_cons, List.length_append, beN_length, List.length_cons] at *; omega

set_option maxHeartbeats 1000000 in
theorem floats_c (w : World) (B : Nat) (l : List UInt8) (hW : WriterAt w B l) (sv : Value) (xs : List Nat) (hs : RowIn w sv xs.length (floats xs)) (hl : l.length + 8 * xs.length ≤ 1000000000000) :
    Calls Tryz.prog 28 #[.pointer (some ⟨B, 0, none⟩), sv] w (Wrote w B (l ++ beF xs)) := by
  have hsl : ∃ (a : Option Addr) (cp : Nat), sv = .slice a xs.length cp := by obtain ⟨a, cp, h, _⟩ := hs; exact ⟨a, cp, h⟩
  obtain ⟨a, cp, rfl⟩ := hsl
  have HW := Lib.hid hW; clear hW
  have HS := Lib.hid hs; clear hs
  go_enter Tryz.func28, Tryz.ntmps28
  go_wp2
  go_loopw [8] (fun i wr => ∃ k : Nat, k ≤ xs.length ∧ i = .int .i64 k ∧ ExtB B w wr ∧ WriterAt wr B (l ++ beF (xs.take k))) (fun i _ => xs.length - (intOf i).toNat)
  case atStart => exact ⟨0, Nat.zero_le _, rfl, ExtB.refl _ _, by simpa [beF] using HW.out⟩
  case round =>
    obtain ⟨k, hk, rfl, hx, hw⟩ := hrel
    by_cases hlt : k < xs.length
    · obtain ⟨a', cp', heq, hrow⟩ := HW.out.row HS.out hx (floats_noSlice xs)
      cases heq
      rcases hrow with ⟨h0, _⟩ | ⟨b, off, rfl, hb, hc⟩
      · omega
      have hc1 : wr.cell? ⟨b, off + k, none⟩ = some (.float .f64 xs[k]) := hc k _ (floats_get xs k hlt)
      have hst := beF_snoc xs k hlt
      have hlen := beF_len (xs.take k)
      rw [List.length_take, Nat.min_eq_left hk] at hlen
      have hbig : (l ++ beF (xs.take k)).length ≤ 140737488351232 := by rw [List.length_append]; omega
      generalize xs[k] = x at hc1 hst
      generalize beF (xs.take k) = done at hst hw hbig
      have HW2 := Lib.hid hw
      obtain ⟨p, q, r, hcell, hr, _⟩ := hw
      have hcB : wr.cell? ⟨B, 0, none⟩ = some (.slice p q r) := by rw [cell_of_row wr B 0 _ _ _ hcell]; rfl
      have hcall := PutFloat_c wr (.slice p q r) (l ++ done) hr hbig x
      have H := Lib.hid hcall; clear hcall hr hcell hlen hbig
      have HST := Lib.hid hst; clear hst hc
      go_wp2_with fail
      refine H.out.mono ?_
      rintro e w2 ⟨v2, rfl, hr2, hx2⟩
      clear H
      have hlt2 : B < wr.heap.size := HW2.out.lt
      have hcB2 : w2.cell? ⟨B, 0, none⟩ = some (.slice p q r) := (hx2.cell (p := ⟨B, 0, none⟩) hlt2).trans hcB
      have hfB2 : w2.frozen? ⟨B, 0, none⟩ = false := by
        obtain ⟨p', q', r', h, _⟩ := HW2.out.ext hx2
        simp [World.frozen?, h]
      have hnew := HW2.out.put hx2 hr2
      have hext := (hx.trans (hx2.toB B)).trans (ExtB.setCell w2 B 0 v2)
      obtain ⟨⟨a2, cp2, rfl, _⟩, _⟩ := hr2
      have HN := Lib.hid hnew; clear hnew
      have HE := Lib.hid hext; clear hext
      clear hcB hc1
      go_wp2
      go_roundw
      case rel => exact ⟨k + 1, by omega, by go_num, by have h := HE.out; simp only [List.length_append, Nat.add_assoc] at h; exact h, by rw [HST.out, ← List.append_assoc]; have h := HN.out; simp only [List.length_append, Nat.add_assoc] at h; exact h⟩
      case measure => simp [intOf]; omega
    · have hk' : xs.take k = xs := List.take_of_length_le (by omega)
      rw [hk'] at hw
      clear hk'
      go_wp2
      go_end0
      exact ⟨rfl, hw, hx⟩

end Go.Proofs.YtpopnmelcplbbaaGreat
