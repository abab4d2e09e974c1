/-
  wire.Reader: bytes in. wire.Reader.Num, Bool, Float: with what recovers. wire.Reader.Float; code's reading: numbers that end in a panic behind a fault.
-/
import Derived.Defers
import Derived.Recover
import Derived.Laws.Bits64
import Derived.Test.YtpopnmelcplbbaaGreatGWriter
import Derived.Test.YtpopnmelcplbbaaGreatGMay
set_option linter.unusedVariables false
set_option linter.unusedSimpArgs false
namespace Go.Proofs.YtpopnmelcplbbaaGreat
open Go.RowKit

/-! ### Where a reader stands -/
/-- The reader lies at block B, reads l, has read so many, and bears the fault (c, f). -/
def RdAt (w : World) (B : Nat) (l : List UInt8) (n : Nat) (c f : Int) : Prop :=
  n ≤ l.length ∧ ∃ p q r, w.heap[B]? = some (.cells #[.slice p q r, .int .i64 n, .int .i64 c, .int .i64 f] 102 (0, 0)) ∧ RowIn w (.slice p q r) l.length (bytes8 l) ∧ l.length ≤ r ∧ ∀ a, p = some a → a.block < B

def Value.noByte : Value → Bool
  | .int .u8 _ => false
  | _ => true

theorem RowIn.keepB {B : Nat} {w w' : World} {v : Value} {n : Nat} {l : List UInt8} {cs : Array Value} {T : TypeId} {fr : Nat × Nat} (h : RowIn w v n (bytes8 l)) (e : ExtB B w w')
    (hB : w.heap[B]? = some (.cells cs T fr)) (hcs : ∀ c ∈ cs, Value.noByte c = true) : RowIn w' v n (bytes8 l) := by
  obtain ⟨a, cap, rfl, h⟩ := h
  refine ⟨a, cap, rfl, ?_⟩
  rcases h with h | ⟨b, off, rfl, hb, hc⟩
  · exact .inl h
  · refine .inr ⟨b, off, rfl, Nat.lt_of_lt_of_le hb e.size, fun i c hi => ?_⟩
    have h1 := hc i c hi
    by_cases hbB : b = B
    · subst hbB
      rw [cell_of_row w b (off + i) _ T fr hB] at h1
      have h3 := hcs c (Array.mem_of_getElem? h1)
      have h4 := List.mem_of_getElem? hi
      simp only [bytes8, List.mem_map] at h4
      obtain ⟨x, _, rfl⟩ := h4
      simp [Value.noByte] at h3
    · have := World.cell?_of_block (w := w) (w' := w') (a := ⟨b, off + i, none⟩) (e.block b hb hbB)
      rw [this]; exact h1

theorem RdAt.lt {w : World} {B : Nat} {l : List UInt8} {n : Nat} {c f : Int} (h : RdAt w B l n c f) : B < w.heap.size := by
  obtain ⟨_, p, q, r, h, _⟩ := h
  exact (Array.getElem?_eq_some_iff.1 h).1
theorem RdAt.ext {w w' : World} {B : Nat} {l : List UInt8} {n : Nat} {c f : Int} (h : RdAt w B l n c f) (e : Ext w w') : RdAt w' B l n c f := by
  have hl := h.lt
  obtain ⟨hn, p, q, r, h, hr, hc⟩ := h
  exact ⟨hn, p, q, r, (e.below.block B hl).trans h, hr.ext e, hc⟩
theorem RdAt.cells {w : World} {B : Nat} {l : List UInt8} {n : Nat} {c f : Int} (h : RdAt w B l n c f) :
    ∃ p r, (w.cell? ⟨B, 0, none⟩ = some (.slice p l.length r) ∧ w.cell? ⟨B, 1, none⟩ = some (.int .i64 n) ∧ w.cell? ⟨B, 2, none⟩ = some (.int .i64 c) ∧ w.cell? ⟨B, 3, none⟩ = some (.int .i64 f)) ∧ RowIn w (.slice p l.length r) l.length (bytes8 l) ∧ l.length ≤ r := by
  obtain ⟨hn, p, q, r, h, hr, hc⟩ := h
  obtain ⟨a, cap, he, _⟩ := id hr
  cases he
  exact ⟨p, r, ⟨by rw [cell_of_row w B 0 _ _ _ h]; rfl, by rw [cell_of_row w B 1 _ _ _ h]; rfl, by rw [cell_of_row w B 2 _ _ _ h]; rfl, by rw [cell_of_row w B 3 _ _ _ h]; rfl⟩, hr, hc.1⟩
theorem RdAt.unfrozen {w : World} {B : Nat} {l : List UInt8} {n : Nat} {c f : Int} (h : RdAt w B l n c f) (o : Nat) : w.frozen? ⟨B, o, none⟩ = false := by
  obtain ⟨hn, p, q, r, h, hr⟩ := h
  simp [World.frozen?, h]
theorem RdAt.keep {w w' : World} {B : Nat} {l : List UInt8} {n n' : Nat} {c f c' f' : Int} (h : RdAt w B l n c f) (e : ExtB B w w') (hn : n' ≤ l.length)
    (hh : ∀ p q r, w.heap[B]? = some (.cells #[.slice p q r, .int .i64 n, .int .i64 c, .int .i64 f] 102 (0, 0)) → w'.heap[B]? = some (.cells #[.slice p q r, .int .i64 n', .int .i64 c', .int .i64 f'] 102 (0, 0))) : RdAt w' B l n' c' f' := by
  obtain ⟨_, p, q, r, h, hr, hc⟩ := h
  exact ⟨hn, p, q, r, hh p q r h, hr.keepB e h (by intro x hx; simp only [List.mem_toArray, List.mem_cons, List.not_mem_nil, or_false] at hx; rcases hx with rfl | rfl | rfl | rfl <;> rfl), hc⟩
/-- what lies above B does not bear on it -/
theorem RdAt.above {w w' : World} {B : Nat} {l : List UInt8} {n : Nat} {c f : Int} (h : RdAt w B l n c f) (hb : ∀ k, k ≤ B → w'.heap[k]? = w.heap[k]?) : RdAt w' B l n c f := by
  have hlt := h.lt
  obtain ⟨hn, p, q, r, h, hr, hc, hp⟩ := h
  have hB := (hb B (Nat.le_refl _)).trans h
  refine ⟨hn, p, q, r, hB, ?_, hc, hp⟩
  have hlt' : B < w'.heap.size := (Array.getElem?_eq_some_iff.1 hB).1
  obtain ⟨a, cap, he, hr⟩ := hr
  cases he
  refine ⟨_, _, rfl, ?_⟩
  rcases hr with hr | ⟨b, off, rfl, hbl, hcl⟩
  · exact .inl hr
  · have hlb : b < B := hp _ rfl
    exact .inr ⟨b, off, rfl, by omega, fun i c hi => (World.cell?_of_block (w := w) (w' := w') (a := ⟨b, off + i, none⟩) (hb b (by omega))).trans (hcl i c hi)⟩
theorem RdAt.step {w : World} {B : Nat} {l : List UInt8} {n n' : Nat} {c f : Int} (h : RdAt w B l n c f) (hn : n' ≤ l.length) : RdAt (w.setCell ⟨B, 1, none⟩ (.int .i64 n')) B l n' c f :=
  h.keep (ExtB.setCell w B 1 _) hn fun p q r h => by simp [World.setCell, Array.getElem?_modify, h]
theorem RdAt.fault {w : World} {B : Nat} {l : List UInt8} {n : Nat} {c f : Int} (h : RdAt w B l n c f) (c' f' : Int) : RdAt ((w.setCell ⟨B, 2, none⟩ (.int .i64 c')).setCell ⟨B, 3, none⟩ (.int .i64 f')) B l n c' f' :=
  h.keep ((ExtB.setCell w B 2 _).trans (ExtB.setCell _ B 3 _)) h.1 fun p q r h => by simp [World.setCell, Array.getElem?_modify, h]

/-- the fault as it is thrown -/
def faultV (c f : Int) : Value := .iface 37 (.agg #[.int .i64 c, .int .i64 f])
def chainOf (c f : Int) : List PanicEntry := [{ v := faultV c f, recovered := false }]

theorem rangeAt_new (w : World) (cs : List Value) (T : TypeId) : (w.alloc (.cells cs.toArray T)).rangeAt w.heap.size 0 cs := fun j v hj => by
  rw [Nat.zero_add, World.cell?_alloc_at _ _ _ _ rfl]; simpa using hj

/-! ### At, Left, Fault -/
theorem At_c (w : World) (B : Nat) (l : List UInt8) (n : Nat) (c f : Int) (h : RdAt w B l n c f) : Calls Tryz.prog 19 #[.pointer (some ⟨B, 0, none⟩)] w (Ret w (.int .i64 n)) := by
  obtain ⟨p, r, ⟨h0, h1, h2, h3⟩, _⟩ := h.cells
  clear h
  go_enter Tryz.func19, Tryz.ntmps19
  go_wp2
  go_ret
  exact ⟨rfl, Ext.refl _⟩

theorem Left_c (w : World) (B : Nat) (l : List UInt8) (n : Nat) (c f : Int) (h : RdAt w B l n c f) (hl : l.length ≤ 4611686018427387904) :
    Calls Tryz.prog 21 #[.pointer (some ⟨B, 0, none⟩)] w (Ret w (.int .i64 ((l.length : Int) - n))) := by
  obtain ⟨p, r, ⟨h0, h1, h2, h3⟩, _⟩ := h.cells
  have hn := h.1
  clear h
  go_enter Tryz.func21, Tryz.ntmps21
  go_wp2
  go_region
  go_wp2
  go_ret
  exact ⟨rfl, (Ext.refl _).drew⟩

theorem Fault_c (w : World) (B : Nat) (l : List UInt8) (n : Nat) (c f : Int) (h : RdAt w B l n c f) :
    Calls Tryz.prog 100 #[.pointer (some ⟨B, 0, none⟩)] w (Ret w (.agg #[.int .i64 c, .int .i64 f])) := by
  obtain ⟨p, r, ⟨h0, h1, h2, h3⟩, _⟩ := h.cells
  have hlt := h.lt
  clear h
  go_enter Tryz.func100, Tryz.ntmps100
  go_wp2
  exact bodyPost_ret (results_agg rfl _ _ _ _ rfl [.int .i64 c, .int .i64 f] _ (rangeAt_new _ _ _) Tryz.underlying37 rfl (by kernel_rfl)) rfl ⟨rfl, (Ext.refl _).alloc _⟩

theorem fails_c (w : World) (B : Nat) (l : List UInt8) (n : Nat) (f0 c f : Int) (h : RdAt w B l n 0 f0) :
    Calls Tryz.prog 99 #[.pointer (some ⟨B, 0, none⟩), .int .i64 c, .int .i64 f] w fun e w' => e = .panicked (chainOf c f) ∧ RdAt w' B l n c f ∧ ExtB B w w' := by
  obtain ⟨p, r, ⟨h0, h1, h2, h3⟩, _⟩ := h.cells
  have hz := h.unfrozen
  have hf := h.fault c f
  have hx := (ExtB.setCell w B 2 (.int .i64 c)).trans (ExtB.setCell _ B 3 (.int .i64 f))
  have HF := Lib.hid hf; clear hf h
  have HX := Lib.hid hx; clear hx
  go_enter Tryz.func99, Tryz.ntmps99
  go_wp2
  exact ⟨rfl, rfl, HF.out, HX.out⟩

theorem bytes8_piece (l : List UInt8) (n s i : Nat) (c : Value) (h : (bytes8 ((l.drop n).take s))[i]? = some c) : (bytes8 l)[n + i]? = some c := by
  simp only [bytes8, List.getElem?_map, List.getElem?_take, List.getElem?_drop] at *
  split at h
  · exact h
  · simp at h

/-! ### next -/
theorem next_over (w : World) (B : Nat) (l : List UInt8) (n : Nat) (f0 : Int) (h : RdAt w B l n 0 f0) (s : Nat) (hl : l.length ≤ 1000000000) (_hs : s ≤ 8) (hover : l.length < n + s) :
    Calls Tryz.prog 132 #[.pointer (some ⟨B, 0, none⟩), .int .i64 s] w fun e w' => e = .panicked (chainOf 2 l.length) ∧ RdAt w' B l n 2 l.length ∧ ExtB B w w' := by
  have hleft := Left_c w B l n 0 f0 h (by omega)
  have hfails := fun w1 (hx : Ext w w1) => fails_c w1 B l n f0 2 l.length (h.ext hx)
  have hn := h.1
  have hlt := h.lt
  obtain ⟨p, r, ⟨h0, h1, h2, h3⟩, _⟩ := h.cells
  clear h
  have HL := Lib.hid hleft; clear hleft
  have HF := Lib.hid hfails; clear hfails
  go_enter Tryz.func132, Tryz.ntmps132
  go_wp2_with fail
  refine HL.out.mono ?_
  rintro e w1 ⟨rfl, hx⟩
  clear HL
  obtain ⟨hc, hf⟩ := hx.reads
  go_wp2_with fail
  refine (HF.out _ hx).mono ?_
  rintro e w2 ⟨rfl, hr2, hx2⟩
  go_wp2
  exact ⟨rfl, rfl, hr2, (hx.toB B).trans hx2⟩

theorem next_in (w : World) (B : Nat) (l : List UInt8) (n : Nat) (f0 : Int) (h : RdAt w B l n 0 f0) (s : Nat) (hl : l.length ≤ 1000000000) (hin : n + s ≤ l.length) :
    Calls Tryz.prog 132 #[.pointer (some ⟨B, 0, none⟩), .int .i64 s] w fun e w' => ∃ v, e = .returned v ∧ RowIn w' v s (bytes8 ((l.drop n).take s)) ∧ Ext w w' := by
  have hleft := Left_c w B l n 0 f0 h (by omega)
  have hn := h.1
  have hlt := h.lt
  obtain ⟨p, r, ⟨h0, h1, h2, h3⟩, hrow, hcap⟩ := h.cells
  clear h
  have HL := Lib.hid hleft; clear hleft
  obtain ⟨a', cap', heq, hrow⟩ := hrow
  cases heq
  have hnr : (n : Int) + s ≤ r := by omega
  by_cases hs0 : s = 0
  · subst hs0
    clear hrow
    go_enter Tryz.func132, Tryz.ntmps132
    go_wp2_with fail
    refine HL.out.mono ?_
    rintro e w1 ⟨rfl, hx⟩
    clear HL
    obtain ⟨hc, hf⟩ := hx.reads
    go_wp2_with fail
    go_region
    go_wp2 <;> (go_ret; exact ⟨_, rfl, ⟨_, _, rfl, .inl ⟨rfl, by simp [bytes8]⟩⟩, hx.drew⟩)
  · rcases hrow with ⟨h00, _⟩ | ⟨b, off, rfl, hb, hcl⟩
    · omega
    have HCL := Lib.hid hcl; clear hcl
    have hne : ¬ r = n := by omega
    go_enter Tryz.func132, Tryz.ntmps132
    go_wp2_with fail
    refine HL.out.mono ?_
    rintro e w1 ⟨rfl, hx⟩
    clear HL
    obtain ⟨hc, hf⟩ := hx.reads
    go_wp2_with fail
    go_region
    go_wp2
    go_ret
    refine ⟨_, rfl, ?_, hx.drew⟩
    rw [show n + s - n = s by omega]
    exact ⟨_, _, rfl, .inr ⟨b, off + n, rfl, Nat.lt_of_lt_of_le hb hx.drew.size, fun i c hi => by
      rw [hx.drew.cell (p := ⟨b, off + n + i, none⟩) hb, Nat.add_assoc]; exact HCL.out (n + i) c (bytes8_piece l n s i c hi)⟩⟩

/-! ### whole -/
/-- the number that bytes are, the first one the greatest -/
def beVal (l : List UInt8) : Nat := l.foldl (fun v x => v * 256 + x.toNat) 0
theorem beVal_snoc (l : List UInt8) (k : Nat) (h : k < l.length) : beVal (l.take (k + 1)) = beVal (l.take k) * 256 + l[k].toNat := by
  unfold beVal; rw [List.take_succ_eq_append_getElem h, List.foldl_append]; rfl
theorem beVal_lt (l : List UInt8) : beVal l < 256 ^ l.length := by
  have : ∀ (l : List UInt8) (v k : Nat), v < 256 ^ k → l.foldl (fun v x => v * 256 + x.toNat) v < 256 ^ (k + l.length) := by
    intro l
    induction l with
    | nil => intro v k h; simpa using h
    | cons x l ih =>
      intro v k h
      have hx : x.toNat < 256 := x.toNat_lt
      have := ih (v * 256 + x.toNat) (k + 1) (by rw [Nat.pow_succ]; omega)
      simpa [Nat.add_assoc, Nat.add_comm 1] using this
  simpa [beVal] using this l 0 0 (by simp)

theorem or_u64 (v x : Nat) (h : v < 72057594037927936) (hx : x < 256) : bits .or .u64 ((v : Int) * 256) (x : Int) = ((v * 256 + x : Nat) : Int) := by
  have h1 : (BitVec.ofInt 64 ((v : Int) * 256)).toNat = v * 256 := by
    rw [show (v : Int) * 256 = ((v * 256 : Nat) : Int) by simp, BitVec.ofInt_natCast, BitVec.toNat_ofNat]; exact Nat.mod_eq_of_lt (by omega)
  have h2 : (BitVec.ofInt 64 (x : Int)).toNat = x := by
    rw [BitVec.ofInt_natCast, BitVec.toNat_ofNat]; exact Nat.mod_eq_of_lt (by omega)
  have h3 : v * 256 ||| x = v * 256 + x := by
    have := Nat.shiftLeft_add_eq_or_of_lt (show x < 2 ^ 8 by omega) v
    rw [Nat.shiftLeft_eq] at this
    exact this.symm
  show IntKind.u64.wrap ((BitVec.ofInt 64 ((v : Int) * 256) ||| BitVec.ofInt 64 (x : Int)).toNat : Int) = _
  rw [BitVec.toNat_or, h1, h2, h3, IntKind.wrap_u64]
  omega

theorem whole_over (w : World) (B : Nat) (l : List UInt8) (n : Nat) (f0 : Int) (h : RdAt w B l n 0 f0) (s : Nat) (hl : l.length ≤ 1000000000) (hs : s ≤ 8) (hover : l.length < n + s) :
    Calls Tryz.prog 98 #[.pointer (some ⟨B, 0, none⟩), .int .i64 s] w fun e w' => e = .panicked (chainOf 2 l.length) ∧ RdAt w' B l n 2 l.length ∧ ExtB B w w' := by
  have hc := next_over w B l n f0 h s hl hs hover
  have H := Lib.hid hc; clear hc h
  go_enter Tryz.func98, Tryz.ntmps98
  go_wp2_with fail
  refine H.out.mono ?_
  rintro e w1 ⟨rfl, hr, hx⟩
  go_wp2
  exact ⟨rfl, rfl, hr, hx⟩

set_option maxHeartbeats 1000000 in
theorem whole_in (w : World) (B : Nat) (l : List UInt8) (n : Nat) (f0 : Int) (h : RdAt w B l n 0 f0) (s : Nat) (hl : l.length ≤ 1000000000) (hs : s ≤ 8) (hin : n + s ≤ l.length) :
    Calls Tryz.prog 98 #[.pointer (some ⟨B, 0, none⟩), .int .i64 s] w (Ret w (.int .u64 (beVal ((l.drop n).take s)))) := by
  have hc := next_in w B l n f0 h s hl hin
  have hlen : ((l.drop n).take s).length = s := by rw [List.length_take, List.length_drop]; omega
  generalize (l.drop n).take s = xs at hc hlen
  have H := Lib.hid hc; clear hc h hin hl
  go_enter Tryz.func98, Tryz.ntmps98
  go_wp2_with fail
  refine H.out.mono ?_
  rintro e w1 ⟨v, rfl, hr, hx⟩
  clear H
  obtain ⟨a, cap, rfl, hrow⟩ := hr
  go_wp2
  go_loopw [5, 12] (fun v i wr => ∃ k : Nat, k ≤ s ∧ i = .int .i64 k ∧ v = .int .u64 (beVal (xs.take k)) ∧ wr = w1) (fun _ i _ => s - (intOf i).toNat)
  case atStart => exact ⟨0, Nat.zero_le _, rfl, by simp [beVal], rfl⟩
  case round =>
    obtain ⟨k, hk, rfl, rfl, rfl⟩ := hrel
    by_cases hlt : k < s
    · rcases hrow with ⟨h0, _⟩ | ⟨b, off, rfl, hb, hc⟩
      · omega
      have hkx : k < xs.length := by omega
      have hc1 := hc k _ (bytes8_get xs k hkx)
      have hst := beVal_snoc xs k hkx
      have hv := beVal_lt (xs.take k)
      rw [List.length_take, Nat.min_eq_left (by omega)] at hv
      have hv2 : beVal (xs.take k) < 72057594037927936 := Nat.lt_of_lt_of_le hv (Nat.le_trans (Nat.pow_le_pow_right (by omega) (show k ≤ 7 by omega)) (by decide))
      have hxk : xs[k].toNat < 256 := xs[k].toNat_lt
      have hw2 := or_u64 _ _ hv2 hxk
      clear hc hv
      generalize beVal (xs.take k) = v at hst hv2 hw2
      generalize xs[k].toNat = x at hc1 hst hxk hw2
      have HST := Lib.hid hst; clear hst
      have HW2 := Lib.hid hw2; clear hw2
      go_wp2
      go_roundw
      case rel => exact ⟨k + 1, by omega, by go_num, by rw [HW2.out, HST.out], trivial⟩
      case measure => simp [intOf]; omega
    · have hk' : xs.take k = xs := List.take_of_length_le (by omega)
      rw [hk']
      go_wp2
      go_ret
      exact ⟨rfl, hx⟩
end Go.Proofs.YtpopnmelcplbbaaGreat
namespace Go.Proofs.YtpopnmelcplbbaaGreat
open Go.RowKit

@[go_sem] theorem run_store_float (P : Program) (w : World) (a : Addr) (m : Mode) (x : Nat) : (store a (.float .f64 x) m).run P w = stored P w a (.float .f64 x) m := run_store P w a _ m rfl

theorem assert_fault (c f : Int) (w : World) : (Instr.typeAssert (.iface 37 (.agg #[.int .i64 c, .int .i64 f])) 20 37 true).run Tryz.prog w = .ok (.tuple #[.agg #[.int .i64 c, .int .i64 f], .bool true]) w := by
  kernel_rfl
theorem assert_nil (w : World) : (Instr.typeAssert .nilIface 20 37 true).run Tryz.prog w = .ok (.tuple #[.agg #[.int .i64 0, .int .i64 0], .bool false]) w := by
  kernel_rfl

/-! ### what is deferred: a number is 0 behind a fault -/
theorem num_caught (p : Addr) (x : Int) (c f : Int) (w : World) (hc : w.cell? p = some (.int .i64 x)) (hz : w.frozen? p = false) :
    CallsD Tryz.prog 97 #[.pointer (some p)] (.panicking (chainOf c f)) w fun e u' w' =>
      e = .returned (.tuple #[]) ∧ u' = .panicking [{ v := faultV c f, recovered := true }] ∧ w' = (w.alloc (.cells #[.int .i64 c, .int .i64 f] 37)).setCell p (.int .i64 0) := by
  unfold chainOf faultV
  have ha := assert_fault c f
  have hlt : p.block < w.heap.size := World.block_lt_of_cell? w p hc
  have hc2 : ∀ o, (w.alloc o).cell? p = some (.int .i64 x) := fun o => by rw [World.cell?_alloc_lt _ _ _ hlt]; exact hc
  have hz2 : ∀ o, (w.alloc o).frozen? p = false := fun o => by rw [World.frozen?_alloc_old _ _ _ (Nat.ne_of_lt hlt)]; exact hz
  refine callsD_of_wpS Tryz.func97 rfl fun c₀ cs hu => ?_
  apply wpS_seq
  apply wpS_region
  simp [wpOpsS, go_sem, recoverD, hu, Tryz.ntmps97, Exit.thenS, ha]
  apply wpS_seq
  apply wpS_region
  simp [wpOpsS, go_sem, Exit.thenS]
  refine wpS_cond (t := true) (by simp [Act.eval, Array.replicate]) ?_
  simp only [if_true]
  apply wpS_region
  simp [wpOpsS, go_sem, hc2, hz2, bodyPostS, results, Tryz.results97]

theorem num_idle (p : Addr) (w : World) :
    CallsD Tryz.prog 97 #[.pointer (some p)] .returning w fun e u' w' => e = .returned (.tuple #[]) ∧ u' = .returning ∧ w' = w.alloc (.cells #[.int .i64 0, .int .i64 0] 37) := by
  have ha := assert_nil
  refine callsD_of_wpS Tryz.func97 rfl fun c₀ cs hu => ?_
  apply wpS_seq
  apply wpS_region
  simp [wpOpsS, go_sem, recoverD, hu, Tryz.ntmps97, Exit.thenS, ha]
  apply wpS_seq
  apply wpS_region
  simp [wpOpsS, go_sem, Exit.thenS]
  refine wpS_cond (t := false) (by simp [Act.eval, Array.replicate]) ?_
  simp only [Bool.false_eq_true, if_false]
  refine wpS_of_wp (wp_skip ?_)
  cases c₀
  simp_all [bodyPostS, results, Tryz.results97]

theorem float_caught (p : Addr) (x : Nat) (c f : Int) (w : World) (hc : w.cell? p = some (.float .f64 x)) (hz : w.frozen? p = false) :
    CallsD Tryz.prog 146 #[.pointer (some p)] (.panicking (chainOf c f)) w fun e u' w' =>
      e = .returned (.tuple #[]) ∧ u' = .panicking [{ v := faultV c f, recovered := true }] ∧ w' = (w.alloc (.cells #[.int .i64 c, .int .i64 f] 37)).setCell p (.float .f64 0) := by
  unfold chainOf faultV
  have ha := assert_fault c f
  have hlt : p.block < w.heap.size := World.block_lt_of_cell? w p hc
  have hc2 : ∀ o, (w.alloc o).cell? p = some (.float .f64 x) := fun o => by rw [World.cell?_alloc_lt _ _ _ hlt]; exact hc
  have hz2 : ∀ o, (w.alloc o).frozen? p = false := fun o => by rw [World.frozen?_alloc_old _ _ _ (Nat.ne_of_lt hlt)]; exact hz
  refine callsD_of_wpS Tryz.func146 rfl fun c₀ cs hu => ?_
  apply wpS_seq
  apply wpS_region
  simp [wpOpsS, go_sem, recoverD, hu, Tryz.ntmps146, Exit.thenS, ha]
  apply wpS_seq
  apply wpS_region
  simp [wpOpsS, go_sem, Exit.thenS]
  refine wpS_cond (t := true) (by simp [Act.eval, Array.replicate]) ?_
  simp only [if_true]
  apply wpS_region
  simp [wpOpsS, go_sem, hc2, hz2, bodyPostS, results, Tryz.results146]

theorem float_idle (p : Addr) (w : World) :
    CallsD Tryz.prog 146 #[.pointer (some p)] .returning w fun e u' w' => e = .returned (.tuple #[]) ∧ u' = .returning ∧ w' = w.alloc (.cells #[.int .i64 0, .int .i64 0] 37) := by
  have ha := assert_nil
  refine callsD_of_wpS Tryz.func146 rfl fun c₀ cs hu => ?_
  apply wpS_seq
  apply wpS_region
  simp [wpOpsS, go_sem, recoverD, hu, Tryz.ntmps146, Exit.thenS, ha]
  apply wpS_seq
  apply wpS_region
  simp [wpOpsS, go_sem, Exit.thenS]
  refine wpS_cond (t := false) (by simp [Act.eval, Array.replicate]) ?_
  simp only [Bool.false_eq_true, if_false]
  refine wpS_of_wp (wp_skip ?_)
  cases c₀
  simp_all [bodyPostS, results, Tryz.results146]

/-! ### Num -/
/-- what a reading of a number gives: the number and where it ends, or the fault -/
def numS (l : List UInt8) (s : Nat) (lo hi : Int) (n : Nat) : Except (Int × Int) (Int × Nat) :=
  if l.length < n + s then .error (2, (l.length : Int))
  else if (beVal ((l.drop n).take s) : Int) < lo ∨ hi < (beVal ((l.drop n).take s) : Int) then .error (4, (n : Int))
  else .ok ((beVal ((l.drop n).take s) : Int), n + s)

theorem make_func (fn : Fn) (first cap : Array Value) (w : World) : (Instr.makeFunc fn first cap).run Tryz.prog w = .ok (.func fn first cap) w := rfl

theorem wrap_i64_nat (x : Nat) (h : x < 9223372036854775808) : IntKind.i64.wrap (x : Int) = x := by
  have : (x : Int) < 9223372036854775808 := by omega
  simp [IntKind.wrap, IntKind.bits, IntKind.signed]
  omega

theorem ExtB.reads {B : Nat} {w w' : World} (h : ExtB B w w') : (∀ b o, b < w.heap.size → ¬ b = B → w'.cell? ⟨b, o, none⟩ = w.cell? ⟨b, o, none⟩) :=
  fun b o hb hne => World.cell?_of_block (w := w) (w' := w') (a := ⟨b, o, none⟩) (h.block b hb hne)

/-! ### The named result's box, beside the reader -/
theorem RdAt.aside {w : World} {B g o : Nat} {l : List UInt8} {n : Nat} {c f : Int} {cs : Array Value} {T : TypeId} {fr : Nat × Nat} (h : RdAt w B l n c f) (hg : w.heap[g]? = some (.cells cs T fr)) (hcs : ∀ x ∈ cs, Value.noByte x = true) (hne : g ≠ B) (v : Value) :
    RdAt (w.setCell ⟨g, o, none⟩ v) B l n c f := by
  obtain ⟨hn, p, q, r, hb, hr, hc⟩ := h
  exact ⟨hn, p, q, r, by rw [Below.heap_setCell _ _ _ _ (Ne.symm hne)]; exact hb, hr.keepB (ExtB.setCell w g o v) hg hcs, hc⟩

/-- a box g with one cell that bears no byte, made behind w, beside the reader -/
structure Boxed (w : World) (B : Nat) (W : World) (g : Nat) (z : Value) : Prop where
  x : ExtB B w W
  new : w.heap.size ≤ g
  ne : g ≠ B
  at_ : ∃ T, W.heap[g]? = some (.cells #[z] T (0, 0))
  nb : Value.noByte z = true

section
variable {w W W' : World} {B g : Nat} {z : Value} {l : List UInt8} {n : Nat} {c f : Int}
theorem Boxed.lt (h : Boxed w B W g z) : g < W.heap.size := by obtain ⟨T, h⟩ := h.at_; exact (Array.getElem?_eq_some_iff.1 h).1
theorem Boxed.cell (h : Boxed w B W g z) : W.cell? ⟨g, 0, none⟩ = some z := by obtain ⟨T, h⟩ := h.at_; rw [cell_of_row W g 0 _ _ _ h]; rfl
theorem Boxed.free (h : Boxed w B W g z) : W.frozen? ⟨g, 0, none⟩ = false := by obtain ⟨T, h⟩ := h.at_; simp [World.frozen?, h]
theorem Boxed.step (h : Boxed w B W g z) (e : ExtB B W W') : Boxed w B W' g z :=
  ⟨h.x.trans e, h.new, h.ne, by obtain ⟨T, h1⟩ := h.at_; exact ⟨T, (e.block g h.lt h.ne).trans h1⟩, h.nb⟩
theorem Boxed.set (h : Boxed w B W g z) (v : Value) (hv : Value.noByte v = true) : Boxed w B (W.setCell ⟨g, 0, none⟩ v) g v :=
  ⟨⟨h.x.os, h.x.tape, h.x.output, Nat.le_trans h.x.size (by simp [World.setCell]), fun k hk hne => by
      rw [Below.heap_setCell _ _ _ _ (show k ≠ g by have := h.new; omega)]; exact h.x.block k hk hne⟩, h.new, h.ne,
    by obtain ⟨T, h1⟩ := h.at_; exact ⟨T, by simp [World.setCell, Array.getElem?_modify, h1]⟩, hv⟩
theorem Boxed.rd (h : Boxed w B W g z) (hr : RdAt W B l n c f) (v : Value) : RdAt (W.setCell ⟨g, 0, none⟩ v) B l n c f := by
  obtain ⟨T, h1⟩ := h.at_
  exact hr.aside h1 (by intro x hx; simp at hx; subst hx; exact h.nb) h.ne v
theorem Boxed.make (w : World) (B : Nat) (hB : B < w.heap.size) (z : Value) (T : TypeId) (hz : Value.noByte z = true) : Boxed w B (w.alloc (.cells #[z] T)) w.heap.size z :=
  ⟨((Ext.refl w).alloc _).toB B, Nat.le_refl _, by omega, ⟨T, heap_alloc_last _ _⟩, hz⟩
end

/-- The door of Num behind a fault. -/
theorem num_leave {w W : World} {B g : Nat} {x : Int} {l : List UInt8} {n : Nat} {c f : Int} {tmps : Array Value} (hb : Boxed w B W g (.int .i64 x)) (hr : RdAt W B l n c f) (ht : tmps[8]?.getD undef = .pointer (some ⟨g, 0, none⟩)) :
    Leaves Tryz.prog Tryz.f61 tmps (fun e w' => e = .returned (.int .i64 0) ∧ RdAt w' B l n c f ∧ ExtB B w w') [{ target := .fn (.func 97) #[.pointer (some ⟨g, 0, none⟩)], args := #[] }] (.panicking (chainOf c f)) W := by
  have hb2 := hb.step (((Ext.refl W).alloc (.cells #[.int .i64 c, .int .i64 f] 37)).toB B)
  have hr2 := hb2.rd (hr.ext ((Ext.refl W).alloc (.cells #[.int .i64 c, .int .i64 f] 37))) (.int .i64 0)
  have hb3 := hb2.set (.int .i64 0) rfl
  refine leaves_cons (f := 97) (args := #[.pointer (some ⟨g, 0, none⟩)]) (by simp [chainOf]) (by simp [go_sem]) ?_
  refine (num_caught ⟨g, 0, none⟩ x c f W hb.cell hb.free).mono ?_
  rintro e u' w'' ⟨rfl, rfl, rfl⟩
  have h0 := hb3.cell
  have HR := Lib.hid hr2; clear hr2
  have HX := Lib.hid hb3.x; clear hb3
  simp [Leaves, settle, results, Tryz.results61, go_sem, h0, ht]
  exact ⟨HR.out, HX.out⟩
theorem num_leave_ok {w W : World} {B g : Nat} {x : Int} {l : List UInt8} {n : Nat} {tmps : Array Value} (hb : Boxed w B W g (.int .i64 x)) (hr : RdAt W B l n 0 0) (ht : tmps[8]?.getD undef = .pointer (some ⟨g, 0, none⟩)) :
    Leaves Tryz.prog Tryz.f61 tmps (fun e w' => e = .returned (.int .i64 x) ∧ RdAt w' B l n 0 0 ∧ ExtB B w w') [{ target := .fn (.func 97) #[.pointer (some ⟨g, 0, none⟩)], args := #[] }] .returning W := by
  have hb2 := hb.step (((Ext.refl W).alloc (.cells #[.int .i64 0, .int .i64 0] 37)).toB B)
  have hr2 := hr.ext ((Ext.refl W).alloc (.cells #[.int .i64 0, .int .i64 0] 37))
  refine leaves_cons (f := 97) (args := #[.pointer (some ⟨g, 0, none⟩)]) (by simp) (by simp [go_sem]) ?_
  refine (num_idle ⟨g, 0, none⟩ W).mono ?_
  rintro e u' w'' ⟨rfl, rfl, rfl⟩
  have h0 := hb2.cell
  have HR := Lib.hid hr2; clear hr2
  have HX := Lib.hid hb2.x; clear hb2
  simp [Leaves, settle, results, Tryz.results61, go_sem, h0, ht]
  exact ⟨HR.out, HX.out⟩

theorem Num_over (w : World) (B : Nat) (l : List UInt8) (n : Nat) (f0 : Int) (h : RdAt w B l n 0 f0) (s : Nat) (lo hi : Int) (hl : l.length ≤ 1000000000) (hs : s ≤ 7) (hover : l.length < n + s) :
    Calls Tryz.prog 61 #[.pointer (some ⟨B, 0, none⟩), .int .i64 s, .int .i64 lo, .int .i64 hi] w fun e w' => e = .returned (.int .i64 0) ∧ RdAt w' B l n 2 l.length ∧ ExtB B w w' := by
  have hx0 := (Ext.refl w).alloc (.cells #[.int .i64 0] 3)
  have hc := whole_over _ B l n f0 (h.ext hx0) s hl (by omega) hover
  have hlt := h.lt
  have H := Lib.hid hc; clear hc h
  have hmf := make_func
  have hs7 : min (s : Int) 7 = s := by omega
  go_enter_defers Tryz.func61, Tryz.ntmps61
  go_wp2_with fail
  refine H.out.mono ?_
  rintro e w1 ⟨rfl, hr, hx⟩
  go_wp2
  exact num_leave ((Boxed.make w B hlt (.int .i64 0) 3 rfl).step hx) hr rfl

theorem Num_off (w : World) (B : Nat) (l : List UInt8) (n : Nat) (f0 : Int) (h : RdAt w B l n 0 f0) (s : Nat) (lo hi : Int) (hl : l.length ≤ 1000000000) (hs : s ≤ 7) (hin : n + s ≤ l.length) (v : Nat) (hv : v = beVal ((l.drop n).take s))
    (hoff : (v : Int) < lo ∨ hi < (v : Int)) :
    Calls Tryz.prog 61 #[.pointer (some ⟨B, 0, none⟩), .int .i64 s, .int .i64 lo, .int .i64 hi] w fun e w' => e = .returned (.int .i64 0) ∧ RdAt w' B l n 4 n ∧ ExtB B w w' := by
  have hx0 := (Ext.refl w).alloc (.cells #[.int .i64 0] 3)
  have hc := whole_in _ B l n f0 (h.ext hx0) s hl (by omega) hin
  have hvb := beVal_lt ((l.drop n).take s)
  have hlen : ((l.drop n).take s).length = s := by rw [List.length_take, List.length_drop]; omega
  rw [hlen, ← hv] at hvb
  rw [← hv] at hc
  have hv2 : v < 72057594037927936 := Nat.lt_of_lt_of_le hvb (Nat.le_trans (Nat.pow_le_pow_right (by omega) hs) (by decide))
  have hwr := wrap_i64_nat v (by omega)
  have hlt := h.lt
  have hb0 := Boxed.make w B hlt (.int .i64 0) 3 rfl
  have hr0 := h.ext hx0
  have H := Lib.hid hc; clear hc h hvb hv hlen hx0
  have hmf := make_func
  have hs7 : min (s : Int) 7 = s := by omega
  have HR0 := Lib.hid hr0; clear hr0
  have HB0 := Lib.hid hb0; clear hb0
  go_enter_defers Tryz.func61, Tryz.ntmps61
  go_wp2_with fail
  refine H.out.mono ?_
  rintro e w1 ⟨rfl, hx⟩
  clear H
  have hb1 := HB0.out.step (hx.toB B)
  have hr1 := HR0.out.ext hx
  clear HB0 HR0 hx
  have hc0 := hb1.cell
  have hz0 := hb1.free
  have hb2 := hb1.set (.int .i64 v) rfl
  have hr2 := hb1.rd hr1 (.int .i64 v)
  have hf := fails_c _ B l n f0 4 n hr2
  have HF := Lib.hid hf; clear hf
  obtain ⟨p, r, ⟨_, h1, _, _⟩, _⟩ := hr2.cells
  have hg : ¬ w.heap.size = B := by omega
  have HB2 := Lib.hid hb2; clear hb2
  clear hb1 hr1 hr2
  rcases hoff with hoff | hoff <;> (go_wp2_with fail) <;>
    (refine HF.out.mono ?_
     rintro e w2 ⟨rfl, hr3, hx3⟩
     go_wp2
     exact num_leave (HB2.out.step hx3) hr3 rfl)

theorem Num_ok (w : World) (B : Nat) (l : List UInt8) (n : Nat) (h : RdAt w B l n 0 0) (s : Nat) (lo hi : Int) (hl : l.length ≤ 1000000000) (hs : s ≤ 7) (hin : n + s ≤ l.length) (v : Nat) (hv : v = beVal ((l.drop n).take s))
    (hlo : lo ≤ (v : Int)) (hhi : (v : Int) ≤ hi) :
    Calls Tryz.prog 61 #[.pointer (some ⟨B, 0, none⟩), .int .i64 s, .int .i64 lo, .int .i64 hi] w fun e w' => e = .returned (.int .i64 v) ∧ RdAt w' B l (n + s) 0 0 ∧ ExtB B w w' := by
  have hx0 := (Ext.refl w).alloc (.cells #[.int .i64 0] 3)
  have hc := whole_in _ B l n 0 (h.ext hx0) s hl (by omega) hin
  have hvb := beVal_lt ((l.drop n).take s)
  have hlen : ((l.drop n).take s).length = s := by rw [List.length_take, List.length_drop]; omega
  rw [hlen, ← hv] at hvb
  rw [← hv] at hc
  have hv2 : v < 72057594037927936 := Nat.lt_of_lt_of_le hvb (Nat.le_trans (Nat.pow_le_pow_right (by omega) hs) (by decide))
  have hwr := wrap_i64_nat v (by omega)
  have hlt := h.lt
  have hb0 := Boxed.make w B hlt (.int .i64 0) 3 rfl
  have hr0 := h.ext hx0
  have H := Lib.hid hc; clear hc h hvb hv hlen hx0
  have hmf := make_func
  have hs7 : min (s : Int) 7 = s := by omega
  have HR0 := Lib.hid hr0; clear hr0
  have HB0 := Lib.hid hb0; clear hb0
  go_enter_defers Tryz.func61, Tryz.ntmps61
  go_wp2_with fail
  refine H.out.mono ?_
  rintro e w1 ⟨rfl, hx⟩
  clear H
  have hb1 := HB0.out.step (hx.toB B)
  have hr1 := HR0.out.ext hx
  clear HB0 HR0 hx
  have hc0 := hb1.cell
  have hz0 := hb1.free
  have hb2 := hb1.set (.int .i64 v) rfl
  have hr2 := hb1.rd hr1 (.int .i64 v)
  have hc2 := hb2.cell
  have hz2 := hb2.free
  obtain ⟨p, r, ⟨_, h1, _, _⟩, _⟩ := hr2.cells
  have hz1 := hr2.unfrozen 1
  have hr3 := hr2.step hin
  have hb3 := hb2.step (ExtB.setCell _ B 1 (.int .i64 ((n + s : Nat) : Int)))
  have hc3 := hb3.cell
  have hz3 := hb3.free
  have hb4 := hb3.set (.int .i64 v) rfl
  have hr4 := hb3.rd hr3 (.int .i64 v)
  have hg : ¬ w.heap.size = B := by omega
  have HB4 := Lib.hid hb4; clear hb4
  have HR4 := Lib.hid hr4; clear hr4
  clear hb1 hr1 hr2 hb2 hr3 hb3
  have hnn : (n : Int) + s ≤ 1000000000 := by omega
  go_wp2
  exact num_leave_ok HB4.out HR4.out rfl

theorem numS_over {l : List UInt8} {s : Nat} {lo hi : Int} {n : Nat} (h : l.length < n + s) : numS l s lo hi n = .error (2, (l.length : Int)) := by unfold numS; rw [if_pos h]
theorem numS_off {l : List UInt8} {s : Nat} {lo hi : Int} {n : Nat} (h : n + s ≤ l.length) (h2 : (beVal ((l.drop n).take s) : Int) < lo ∨ hi < (beVal ((l.drop n).take s) : Int)) : numS l s lo hi n = .error (4, (n : Int)) := by
  unfold numS; rw [if_neg (by omega), if_pos h2]
theorem numS_ok {l : List UInt8} {s : Nat} {lo hi : Int} {n : Nat} (h : n + s ≤ l.length) (h2 : lo ≤ (beVal ((l.drop n).take s) : Int)) (h3 : (beVal ((l.drop n).take s) : Int) ≤ hi) : numS l s lo hi n = .ok ((beVal ((l.drop n).take s) : Int), n + s) := by
  unfold numS; rw [if_neg (by omega), if_neg (by omega)]

/-- Num: the number, or 0 and the fault -/
theorem Num_c (w : World) (B : Nat) (l : List UInt8) (n : Nat) (h : RdAt w B l n 0 0) (s : Nat) (lo hi : Int) (hl : l.length ≤ 1000000000) (hs : s ≤ 7) :
    Calls Tryz.prog 61 #[.pointer (some ⟨B, 0, none⟩), .int .i64 s, .int .i64 lo, .int .i64 hi] w fun e w' => match numS l s lo hi n with
      | .ok (v, n') => e = .returned (.int .i64 v) ∧ RdAt w' B l n' 0 0 ∧ ExtB B w w'
      | .error (c, f) => c ≠ 0 ∧ e = .returned (.int .i64 0) ∧ RdAt w' B l n c f ∧ ExtB B w w' := by
  by_cases h1 : l.length < n + s
  · rw [numS_over h1]
    exact (Num_over w B l n 0 h s lo hi hl hs h1).mono fun e w' hh => ⟨by simp, hh⟩
  · by_cases h2 : (beVal ((l.drop n).take s) : Int) < lo ∨ hi < (beVal ((l.drop n).take s) : Int)
    · rw [numS_off (by omega) h2]
      exact (Num_off w B l n 0 h s lo hi hl hs (by omega) _ rfl h2).mono fun e w' hh => ⟨by simp, hh⟩
    · rw [numS_ok (by omega) (by omega) (by omega)]
      exact Num_ok w B l n h s lo hi hl hs (by omega) _ rfl (by omega) (by omega)

theorem Bool_c (w : World) (B : Nat) (l : List UInt8) (n : Nat) (h : RdAt w B l n 0 0) (hl : l.length ≤ 1000000000) :
    Calls Tryz.prog 133 #[.pointer (some ⟨B, 0, none⟩)] w fun e w' => match numS l 1 0 1 n with
      | .ok (v, n') => e = .returned (.bool (v == 1)) ∧ RdAt w' B l n' 0 0 ∧ ExtB B w w'
      | .error (c, f) => c ≠ 0 ∧ e = .returned (.bool false) ∧ RdAt w' B l n c f ∧ ExtB B w w' := by
  have hc := Num_c w B l n h 1 0 1 hl (by omega)
  generalize numS l 1 0 1 n = r at hc ⊢
  rcases r with ⟨c, f⟩ | ⟨v, n'⟩
  all_goals
    have H := Lib.hid hc; clear hc h
    go_enter Tryz.func133, Tryz.ntmps133
    go_wp2_with fail
    refine H.out.mono ?_
    clear H
  · rintro e w1 ⟨hc, rfl, hr, hx⟩
    go_wp2
    go_ret
    exact ⟨hc, rfl, hr, hx⟩
  · rintro e w1 ⟨rfl, hr, hx⟩
    go_wp2
    go_ret
    exact ⟨rfl, hr, hx⟩
end Go.Proofs.YtpopnmelcplbbaaGreat
namespace Go.Proofs.YtpopnmelcplbbaaGreat
open Go.RowKit

theorem run_frombits (x : Nat) (w : World) : (callFunc 147 #[.int .u64 (x : Int)]).run Tryz.prog w = .ok (.value (.float .f64 x)) w := by
  kernel_rfl

/-! ### right -/
theorem right_ok (w : World) (B : Nat) (l : List UInt8) (n : Nat) (h : RdAt w B l n 0 0) : Calls Tryz.prog 62 #[.agg #[.pointer (some ⟨B, 0, none⟩)]] w (Ret w (.tuple #[])) := by
  have hx0 := (Ext.refl w).alloc (.cells #[.pointer (some ⟨B, 0, none⟩)] 59)
  have hc := Fault_c _ B l n 0 0 (h.ext hx0)
  have H := Lib.hid hc; clear hc h
  go_enter Tryz.func62, Tryz.ntmps62
  go_wp2_with fail
  refine H.out.mono ?_
  rintro e w1 ⟨rfl, hx⟩
  clear H
  go_wp2
  go_end0
  exact ⟨rfl, (hx0.trans hx).alloc _⟩
theorem right_bad (w : World) (B : Nat) (l : List UInt8) (n : Nat) (c f : Int) (h : RdAt w B l n c f) (hc0 : ¬ c = 0) : Calls Tryz.prog 62 #[.agg #[.pointer (some ⟨B, 0, none⟩)]] w fun e w' => e = .panicked (chainOf c f) ∧ Ext w w' := by
  have hx0 := (Ext.refl w).alloc (.cells #[.pointer (some ⟨B, 0, none⟩)] 59)
  have hc := Fault_c _ B l n c f (h.ext hx0)
  have H := Lib.hid hc; clear hc h
  go_enter Tryz.func62, Tryz.ntmps62
  go_wp2_with fail
  refine H.out.mono ?_
  rintro e w1 ⟨rfl, hx⟩
  clear H
  go_wp2
  exact ⟨rfl, rfl, (hx0.trans hx).alloc _⟩

/-! ### what a reading of package code gives: a value, or the fault thrown -/
def RdPost {α : Type} (B : Nat) (l : List UInt8) (w : World) (V : World → α → Value → Prop) (r : Except (Int × Int) (α × Nat)) : Ending → World → Prop := fun e w' =>
  match r with
  | .ok (x, n') => ∃ v, e = .returned v ∧ V w' x v ∧ RdAt w' B l n' 0 0 ∧ ExtB B w w'
  | .error (c, f) => e = .panicked (chainOf c f) ∧ ExtB B w w'
def isInt : World → Int → Value → Prop := fun _ x v => v = .int .i64 x
def isBool : World → Bool → Value → Prop := fun _ x v => v = .bool x
def readerV (B : Nat) : Value := .agg #[.pointer (some ⟨B, 0, none⟩)]

theorem num_c (w : World) (B : Nat) (l : List UInt8) (n : Nat) (h : RdAt w B l n 0 0) (s : Nat) (lo hi : Int) (hl : l.length ≤ 1000000000) (hs : s ≤ 7) :
    Calls Tryz.prog 17 #[readerV B, .int .i64 s, .int .i64 lo, .int .i64 hi] w (RdPost B l w isInt (numS l s lo hi n)) := by
  have hx0 := (Ext.refl w).alloc (.cells #[.pointer (some ⟨B, 0, none⟩)] 59)
  have hc := Num_c _ B l n (h.ext hx0) s lo hi hl hs
  have hlt := h.lt
  have hg : ¬ w.heap.size = B := by omega
  unfold RdPost readerV
  generalize numS l s lo hi n = r at hc ⊢
  rcases r with ⟨c, f⟩ | ⟨v, n'⟩
  all_goals
    have H := Lib.hid hc; clear hc h
    go_enter Tryz.func17, Tryz.ntmps17
    go_wp2_with fail
    refine H.out.mono ?_
    clear H
  · rintro e w1 ⟨hc, rfl, hr, hx⟩
    obtain hrd := hx.reads
    go_wp2_with fail
    refine (right_bad _ B l n c f hr hc).mono ?_
    rintro e w2 ⟨rfl, hx2⟩
    go_wp2
    exact ⟨rfl, rfl, ((hx0.toB B).trans hx).trans (hx2.toB B)⟩
  · rintro e w1 ⟨rfl, hr, hx⟩
    obtain hrd := hx.reads
    go_wp2_with fail
    refine (right_ok _ B l n' hr).mono ?_
    rintro e w2 ⟨rfl, hx2⟩
    go_wp2
    go_ret
    exact ⟨_, rfl, rfl, hr.ext hx2, ((hx0.toB B).trans hx).trans (hx2.toB B)⟩

theorem time_c (w : World) (B : Nat) (l : List UInt8) (n : Nat) (h : RdAt w B l n 0 0) (hl : l.length ≤ 1000000000) :
    Calls Tryz.prog 68 #[readerV B] w (RdPost B l w isInt (numS l 2 0 9999 n)) := by
  have hx0 := (Ext.refl w).alloc (.cells #[.pointer (some ⟨B, 0, none⟩)] 59)
  have hc := num_c _ B l n (h.ext hx0) 2 0 9999 hl (by omega)
  unfold RdPost readerV at *
  generalize numS l 2 0 9999 n = r at hc ⊢
  rcases r with ⟨c, f⟩ | ⟨v, n'⟩
  all_goals
    have H := Lib.hid hc; clear hc h
    go_enter Tryz.func68, Tryz.ntmps68
    go_wp2_with fail
    refine H.out.mono ?_
    clear H
  · rintro e w1 ⟨rfl, hx⟩
    go_wp2
    exact ⟨rfl, rfl, (hx0.toB B).trans hx⟩
  · rintro e w1 ⟨_, rfl, rfl, hr, hx⟩
    go_wp2
    go_ret
    exact ⟨_, rfl, rfl, hr, (hx0.toB B).trans hx⟩

theorem set_c (w : World) (B : Nat) (l : List UInt8) (n : Nat) (h : RdAt w B l n 0 0) (hl : l.length ≤ 1000000000) :
    Calls Tryz.prog 65 #[readerV B] w (RdPost B l w isInt (numS l 1 0 255 n)) := by
  have hx0 := (Ext.refl w).alloc (.cells #[.pointer (some ⟨B, 0, none⟩)] 59)
  have hc := num_c _ B l n (h.ext hx0) 1 0 255 hl (by omega)
  unfold RdPost readerV at *
  generalize numS l 1 0 255 n = r at hc ⊢
  rcases r with ⟨c, f⟩ | ⟨v, n'⟩
  all_goals
    have H := Lib.hid hc; clear hc h
    go_enter Tryz.func65, Tryz.ntmps65
    go_wp2_with fail
    refine H.out.mono ?_
    clear H
  · rintro e w1 ⟨rfl, hx⟩
    go_wp2
    exact ⟨rfl, rfl, (hx0.toB B).trans hx⟩
  · rintro e w1 ⟨_, rfl, rfl, hr, hx⟩
    go_wp2
    go_ret
    exact ⟨_, rfl, rfl, hr, (hx0.toB B).trans hx⟩

def yesS (l : List UInt8) (n : Nat) : Except (Int × Int) (Bool × Nat) :=
  match numS l 1 0 1 n with
  | .ok (v, n') => .ok (v == 1, n')
  | .error e => .error e
theorem readYes_c (w : World) (B : Nat) (l : List UInt8) (n : Nat) (h : RdAt w B l n 0 0) (hl : l.length ≤ 1000000000) :
    Calls Tryz.prog 101 #[readerV B] w (RdPost B l w isBool (yesS l n)) := by
  have hx0 := (Ext.refl w).alloc (.cells #[.pointer (some ⟨B, 0, none⟩)] 59)
  have hc := Bool_c _ B l n (h.ext hx0) hl
  have hlt := h.lt
  have hg : ¬ w.heap.size = B := by omega
  unfold RdPost readerV yesS
  generalize numS l 1 0 1 n = r at hc ⊢
  rcases r with ⟨c, f⟩ | ⟨v, n'⟩
  all_goals
    have H := Lib.hid hc; clear hc h
    go_enter Tryz.func101, Tryz.ntmps101
    go_wp2_with fail
    refine H.out.mono ?_
    clear H
  · rintro e w1 ⟨hc, rfl, hr, hx⟩
    have hrd := hx.reads
    go_wp2_with fail
    refine (right_bad _ B l n c f hr hc).mono ?_
    rintro e w2 ⟨rfl, hx2⟩
    go_wp2
    exact ⟨rfl, rfl, ((hx0.toB B).trans hx).trans (hx2.toB B)⟩
  · rintro e w1 ⟨rfl, hr, hx⟩
    have hrd := hx.reads
    go_wp2_with fail
    refine (right_ok _ B l n' hr).mono ?_
    rintro e w2 ⟨rfl, hx2⟩
    go_wp2
    go_ret
    exact ⟨_, rfl, rfl, hr.ext hx2, ((hx0.toB B).trans hx).trans (hx2.toB B)⟩

/-! ### Float -/
theorem float_leave {w W : World} {B g : Nat} {x : Nat} {l : List UInt8} {n : Nat} {c f : Int} {tmps : Array Value} (hb : Boxed w B W g (.float .f64 x)) (hr : RdAt W B l n c f) (ht : tmps[2]?.getD undef = .pointer (some ⟨g, 0, none⟩)) :
    Leaves Tryz.prog Tryz.f134 tmps (fun e w' => e = .returned (.float .f64 0) ∧ RdAt w' B l n c f ∧ ExtB B w w') [{ target := .fn (.func 146) #[.pointer (some ⟨g, 0, none⟩)], args := #[] }] (.panicking (chainOf c f)) W := by
  have hb2 := hb.step (((Ext.refl W).alloc (.cells #[.int .i64 c, .int .i64 f] 37)).toB B)
  have hr2 := hb2.rd (hr.ext ((Ext.refl W).alloc (.cells #[.int .i64 c, .int .i64 f] 37))) (.float .f64 0)
  have hb3 := hb2.set (.float .f64 0) rfl
  refine leaves_cons (f := 146) (args := #[.pointer (some ⟨g, 0, none⟩)]) (by simp [chainOf]) (by simp [go_sem]) ?_
  refine (float_caught ⟨g, 0, none⟩ x c f W hb.cell hb.free).mono ?_
  rintro e u' w'' ⟨rfl, rfl, rfl⟩
  have h0 := hb3.cell
  have HR := Lib.hid hr2; clear hr2
  have HX := Lib.hid hb3.x; clear hb3
  simp [Leaves, settle, results, Tryz.results134, go_sem, h0, ht]
  exact ⟨HR.out, HX.out⟩
theorem float_leave_ok {w W : World} {B g : Nat} {x : Nat} {l : List UInt8} {n : Nat} {tmps : Array Value} (hb : Boxed w B W g (.float .f64 x)) (hr : RdAt W B l n 0 0) (ht : tmps[2]?.getD undef = .pointer (some ⟨g, 0, none⟩)) :
    Leaves Tryz.prog Tryz.f134 tmps (fun e w' => e = .returned (.float .f64 x) ∧ RdAt w' B l n 0 0 ∧ ExtB B w w') [{ target := .fn (.func 146) #[.pointer (some ⟨g, 0, none⟩)], args := #[] }] .returning W := by
  have hb2 := hb.step (((Ext.refl W).alloc (.cells #[.int .i64 0, .int .i64 0] 37)).toB B)
  have hr2 := hr.ext ((Ext.refl W).alloc (.cells #[.int .i64 0, .int .i64 0] 37))
  refine leaves_cons (f := 146) (args := #[.pointer (some ⟨g, 0, none⟩)]) (by simp) (by simp [go_sem]) ?_
  refine (float_idle ⟨g, 0, none⟩ W).mono ?_
  rintro e u' w'' ⟨rfl, rfl, rfl⟩
  have h0 := hb2.cell
  have HR := Lib.hid hr2; clear hr2
  have HX := Lib.hid hb2.x; clear hb2
  simp [Leaves, settle, results, Tryz.results134, go_sem, h0, ht]
  exact ⟨HR.out, HX.out⟩

theorem Float_over (w : World) (B : Nat) (l : List UInt8) (n : Nat) (f0 : Int) (h : RdAt w B l n 0 f0) (hl : l.length ≤ 1000000000) (hover : l.length < n + 8) :
    Calls Tryz.prog 134 #[.pointer (some ⟨B, 0, none⟩)] w fun e w' => e = .returned (.float .f64 0) ∧ RdAt w' B l n 2 l.length ∧ ExtB B w w' := by
  have hx0 := (Ext.refl w).alloc (.cells #[.float .f64 0] 66)
  have hc := whole_over _ B l n f0 (h.ext hx0) 8 hl (by omega) hover
  have hlt := h.lt
  have H := Lib.hid hc; clear hc h
  have hmf := make_func
  go_enter_defers Tryz.func134, Tryz.ntmps134
  go_wp2_with fail
  refine H.out.mono ?_
  rintro e w1 ⟨rfl, hr, hx⟩
  go_wp2
  exact float_leave ((Boxed.make w B hlt (.float .f64 0) 66 rfl).step hx) hr rfl

theorem Float_ok (w : World) (B : Nat) (l : List UInt8) (n : Nat) (h : RdAt w B l n 0 0) (hl : l.length ≤ 1000000000) (hin : n + 8 ≤ l.length) (v : Nat) (hv : v = beVal ((l.drop n).take 8)) :
    Calls Tryz.prog 134 #[.pointer (some ⟨B, 0, none⟩)] w fun e w' => e = .returned (.float .f64 v) ∧ RdAt w' B l (n + 8) 0 0 ∧ ExtB B w w' := by
  have hx0 := (Ext.refl w).alloc (.cells #[.float .f64 0] 66)
  have hc := whole_in _ B l n 0 (h.ext hx0) 8 hl (by omega) hin
  rw [← hv] at hc
  have hfb := run_frombits v
  have hlt := h.lt
  have hb0 := Boxed.make w B hlt (.float .f64 0) 66 rfl
  have hr0 := h.ext hx0
  have H := Lib.hid hc; clear hc h hv hx0
  have hmf := make_func
  have HR0 := Lib.hid hr0; clear hr0
  have HB0 := Lib.hid hb0; clear hb0
  go_enter_defers Tryz.func134, Tryz.ntmps134
  go_wp2_with fail
  refine H.out.mono ?_
  rintro e w1 ⟨rfl, hx⟩
  clear H
  have hb1 := HB0.out.step (hx.toB B)
  have hr1 := HR0.out.ext hx
  clear HB0 HR0 hx
  have hc0 := hb1.cell
  have hz0 := hb1.free
  have hb2 := hb1.set (.float .f64 v) rfl
  have hr2 := hb1.rd hr1 (.float .f64 v)
  have hc2 := hb2.cell
  have hz2 := hb2.free
  obtain ⟨p, r, ⟨_, h1, _, _⟩, _⟩ := hr2.cells
  have hz1 := hr2.unfrozen 1
  have hr3 := hr2.step hin
  have hb3 := hb2.step (ExtB.setCell _ B 1 (.int .i64 ((n + 8 : Nat) : Int)))
  have hc3 := hb3.cell
  have hz3 := hb3.free
  have hb4 := hb3.set (.float .f64 v) rfl
  have hr4 := hb3.rd hr3 (.float .f64 v)
  have hg : ¬ w.heap.size = B := by omega
  have HB4 := Lib.hid hb4; clear hb4
  have HR4 := Lib.hid hr4; clear hr4
  clear hb1 hr1 hr2 hb2 hr3 hb3
  have hnn : (n : Int) + 8 ≤ 1000000000 := by omega
  go_wp2
  exact float_leave_ok HB4.out HR4.out rfl
end Go.Proofs.YtpopnmelcplbbaaGreat
