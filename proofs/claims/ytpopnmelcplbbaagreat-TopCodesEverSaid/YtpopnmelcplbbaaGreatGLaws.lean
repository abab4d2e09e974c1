/-
  The plain law of Decode and Encode: a table that is read may be, and is written as the bytes that it was read from; a fault lies within the bytes. The plain law of the bounds: no wait is below nothing or as much as the greatest number; what check finds wrong, bound says. The sample, plainly: it may be, its bounds are there, and it is read again from its bytes.
-/
import Derived.Test.YtpopnmelcplbbaaGreatGDecode
import Derived.Test.YtpopnmelcplbbaaGreatGEnc
import Derived.Test.YtpopnmelcplbbaaGreatGAll
import Derived.Test.YtpopnmelcplbbaaGreatSample
import Derived.Test.YtpopnmelcplbbaaGreatSame
set_option linter.unusedVariables false
set_option linter.unusedSimpArgs false
namespace Go.Proofs.YtpopnmelcplbbaaGreat
open Go.RowKit

/-! ### numbers and their bytes -/
theorem foldl_be (l : List UInt8) : ∀ v : Nat, l.foldl (fun v x => v * 256 + x.toNat) v = v * 256 ^ l.length + beVal l := by
  induction l with
  | nil => intro v; simp [beVal]
  | cons x l ih =>
    intro v
    have h1 := ih (v * 256 + x.toNat)
    have h2 := ih x.toNat
    have h3 : beVal (x :: l) = l.foldl (fun v x => v * 256 + x.toNat) x.toNat := by simp [beVal]
    rw [List.foldl_cons, h1, h3, h2, List.length_cons, Nat.pow_succ, Nat.add_mul, Nat.mul_assoc, Nat.mul_comm 256, Nat.add_assoc]
theorem beVal_cons (x : UInt8) (l : List UInt8) : beVal (x :: l) = x.toNat * 256 ^ l.length + beVal l := by
  have := foldl_be l x.toNat
  simpa [beVal] using this
theorem byteAt_nat (n i : Nat) : byteAt (n : Int) i = UInt8.ofNat (n / 256 ^ i % 256) := by
  have h1 : ((2 : Int) ^ (8 * i)) = ((256 ^ i : Nat) : Int) := by
    rw [Int.pow_mul]; simp
  unfold byteAt
  rw [h1, show ((n : Int) / ((256 ^ i : Nat) : Int)) % 256 = ((n / 256 ^ i % 256 : Nat) : Int) by simp, Int.toNat_natCast]
theorem byteAt_low (a b k i : Nat) (h : i < k) : byteAt ((a * 256 ^ k + b : Nat) : Int) i = byteAt (b : Int) i := by
  rw [byteAt_nat, byteAt_nat]
  obtain ⟨d, rfl⟩ : ∃ d, k = i + (d + 1) := ⟨k - i - 1, by omega⟩
  have h0 : 0 < 256 ^ i := Nat.pow_pos (by omega)
  have h1 : a * 256 ^ (i + (d + 1)) + b = b + 256 ^ i * (a * 256 ^ d * 256) := by
    rw [Nat.pow_add, Nat.pow_succ, ← Nat.mul_assoc, Nat.mul_comm a, Nat.mul_assoc, Nat.mul_assoc]; omega
  rw [h1, Nat.add_mul_div_left _ _ h0, Nat.add_mul_mod_self_right]
theorem beN_low (a b k : Nat) : ∀ i, i ≤ k → beN ((a * 256 ^ k + b : Nat) : Int) i = beN (b : Int) i := by
  intro i
  induction i with
  | zero => intro _; rfl
  | succ i ih => intro h; rw [beN, beN, byteAt_low a b k i (by omega), ih (by omega)]
theorem beN_beVal (l : List UInt8) : beN (beVal l : Int) l.length = l := by
  induction l with
  | nil => rfl
  | cons x l ih =>
    rw [beVal_cons, List.length_cons, beN, beN_low _ _ _ _ (Nat.le_refl _), ih, byteAt_nat]
    have h0 : 0 < 256 ^ l.length := Nat.pow_pos (by omega)
    have h1 := beVal_lt l
    have hx : x.toNat < 256 := x.toNat_lt
    rw [Nat.mul_comm x.toNat, Nat.mul_add_div h0, Nat.div_eq_of_lt h1, Nat.add_zero, Nat.mod_eq_of_lt hx]
    simp

/-! ### a reading gives what the bytes are -/
structure Rd {α : Type} (l : List UInt8) (f : Nat → Rs α) (R : α → List UInt8 → Prop) : Prop where
  ok : ∀ {n x n'}, n ≤ l.length → f n = .ok (x, n') → n' ≤ l.length ∧ ∃ bs, l.take n' = l.take n ++ bs ∧ R x bs
  err : ∀ {n c p}, n ≤ l.length → f n = .error (c, p) → c ≠ 0 ∧ 0 ≤ p ∧ p ≤ (l.length : Int)
/-- the bytes are x's, and x is as it must be -/
def EP {α : Type} (enc : α → List UInt8) (P : α → Prop) : α → List UInt8 → Prop := fun x bs => bs = enc x ∧ P x

theorem Rd.mono {α : Type} {l : List UInt8} {f : Nat → Rs α} {R S : α → List UInt8 → Prop} (h : Rd l f R) (k : ∀ x bs, R x bs → S x bs) : Rd l f S := by
  refine ⟨?_, h.err⟩
  intro n x n' hn hf
  obtain ⟨a, bs, b, c⟩ := h.ok hn hf
  exact ⟨a, bs, b, k _ _ c⟩

theorem be_piece (l : List UInt8) (n s : Nat) (h : n + s ≤ l.length) : l.take (n + s) = l.take n ++ beN (beVal ((l.drop n).take s) : Int) s := by
  have hl : ((l.drop n).take s).length = s := by simp; omega
  have := beN_beVal ((l.drop n).take s)
  rw [hl] at this
  rw [List.take_add, this]

theorem Rd.num (l : List UInt8) (s : Nat) (lo hi : Int) : Rd l (numS l s lo hi) (EP (fun v => beN v s) (fun v => lo ≤ v ∧ v ≤ hi)) := by
  constructor
  · intro n x n' _ h
    have hb := numS_bd h
    unfold numS at h
    split at h
    · cases h
    · split at h
      · cases h
      · cases h
        exact ⟨by omega, _, be_piece l n s (by omega), rfl, hb⟩
  · intro n c p hn h
    unfold numS at h
    split at h
    · cases h; omega
    · split at h
      · cases h; omega
      · cases h

theorem Rd.yes (l : List UInt8) : Rd l (yesS l) (EP (fun b => beN (bit1 b) 1) (fun _ => True)) := by
  have hn := Rd.num l 1 0 1
  constructor
  · intro n x n' hm h
    unfold yesS at h
    rcases h1 : numS l 1 0 1 n with e | ⟨v, m⟩ <;> simp only [h1] at h <;> cases h
    obtain ⟨a, bs, b, c, d⟩ := hn.ok hm h1
    refine ⟨a, bs, b, ?_, trivial⟩
    rw [c]
    obtain rfl | rfl : v = 0 ∨ v = 1 := by omega
    · rfl
    · rfl
  · intro n c p hm h
    unfold yesS at h
    rcases h1 : numS l 1 0 1 n with ⟨c1, p1⟩ | ⟨v, m⟩ <;> simp only [h1] at h <;> cases h
    exact hn.err hm h1

theorem beN8 (n m : Int) (h : n = m ∨ n = m - 18446744073709551616) : beN n 8 = beN m 8 := by
  have : ∀ i, i < 8 → byteAt n i = byteAt m i := by
    intro i hi
    unfold byteAt
    congr 2
    obtain rfl | rfl | rfl | rfl | rfl | rfl | rfl | rfl : i = 0 ∨ i = 1 ∨ i = 2 ∨ i = 3 ∨ i = 4 ∨ i = 5 ∨ i = 6 ∨ i = 7 := by omega
    all_goals simp only [Nat.reduceMul, Int.reducePow] <;> omega
  simp only [beN, this 0 (by omega), this 1 (by omega), this 2 (by omega), this 3 (by omega), this 4 (by omega), this 5 (by omega), this 6 (by omega), this 7 (by omega)]

/-- a float's k-th place in a detector that is right but for it -/
theorem Rd.float (l : List UInt8) (k : Nat) : Rd l (floatS l k) (EP (fun v => beN (wrap64 (v : Int)) 8) (fun v => deOk (detWith k v) = true)) := by
  constructor
  · intro n x n' _ h
    unfold floatS at h
    split at h
    · cases h
    · split at h
      · rename_i h2
        cases h
        refine ⟨by omega, _, be_piece l n 8 (by omega), ?_, h2⟩
        have hlt := beVal_lt ((l.drop n).take 8)
        have hl : ((l.drop n).take 8).length = 8 := by simp; omega
        rw [hl] at hlt
        generalize beVal ((l.drop n).take 8) = v at hlt
        have h8 : v < 18446744073709551616 := hlt
        refine (beN8 _ _ ?_).symm
        unfold wrap64
        omega
      · cases h
  · intro n c p hn h
    unfold floatS at h
    split at h
    · cases h; omega
    · split at h
      · cases h
      · cases h; omega

theorem Rd.times {α : Type} {l : List UInt8} {f : Nat → Rs α} {enc : α → List UInt8} {P : α → Prop} (hf : Rd l f (EP enc P)) (k : Nat) :
    Rd l (timesS f k) (EP (fun xs => xs.flatMap enc) (fun xs => xs.length = k ∧ ∀ x ∈ xs, P x)) := by
  induction k with
  | zero =>
    constructor
    · intro n x n' hn h
      simp only [timesS] at h
      cases h
      exact ⟨hn, [], by simp, by simp, rfl, by simp⟩
    · intro n c p hn h
      cases h
  | succ k ih =>
    constructor
    · intro n x n' hn h
      simp only [timesS] at h
      rcases h1 : f n with e | ⟨y, m⟩ <;> simp only [h1] at h
      · cases h
      · rcases h2 : timesS f k m with e | ⟨ys, m2⟩ <;> simp only [h2] at h <;> cases h
        obtain ⟨a1, bs, a2, rfl, a3⟩ := hf.ok hn h1
        obtain ⟨b1, cs, b2, rfl, b3, b4⟩ := ih.ok a1 h2
        refine ⟨b1, _, by rw [b2, a2, List.append_assoc], by simp, by simp [b3], ?_⟩
        intro z hz
        rcases List.mem_cons.1 hz with rfl | hz
        · exact a3
        · exact b4 z hz
    · intro n c p hn h
      simp only [timesS] at h
      rcases h1 : f n with ⟨c1, p1⟩ | ⟨y, m⟩ <;> simp only [h1] at h
      · cases h; exact hf.err hn h1
      · rcases h2 : timesS f k m with ⟨c1, p1⟩ | ⟨ys, m2⟩ <;> simp only [h2] at h <;> cases h
        exact ih.err (hf.ok hn h1).1 h2

/-! ### the parts of a table -/
/-- two readings behind one another -/
def thenS {α β : Type} (f : Nat → Rs α) (g : α → Nat → Rs β) (n : Nat) : Rs β :=
  match f n with
  | .error e => .error e
  | .ok (x, m) => g x m
theorem Rd.then {α β : Type} {l : List UInt8} {f : Nat → Rs α} {g : α → Nat → Rs β} {R : α → List UInt8 → Prop} {S : α → β → List UInt8 → Prop} (hf : Rd l f R)
    (hg : ∀ x, Rd l (g x) (S x)) : Rd l (thenS f g) (fun y bs => ∃ x b1 b2, R x b1 ∧ S x y b2 ∧ bs = b1 ++ b2) := by
  constructor
  · intro n y n' hn h
    unfold thenS at h
    rcases h1 : f n with e | ⟨x, m⟩ <;> simp only [h1] at h
    · cases h
    · obtain ⟨a1, b1, a2, a3⟩ := hf.ok hn h1
      obtain ⟨c1, b2, c2, c3⟩ := (hg x).ok a1 h
      exact ⟨c1, b1 ++ b2, by rw [c2, a2, List.append_assoc], x, b1, b2, a3, c3, rfl⟩
  · intro n c p hn h
    unfold thenS at h
    rcases h1 : f n with ⟨c1, p1⟩ | ⟨x, m⟩ <;> simp only [h1] at h
    · cases h; exact hf.err hn h1
    · exact (hg x).err (hf.ok hn h1).1 h
/-- nothing more is read -/
theorem Rd.done {β : Type} (l : List UInt8) (y : β) : Rd l (fun n => .ok (y, n)) (fun z bs => z = y ∧ bs = []) :=
  ⟨by intro n x n' hn h; cases h; exact ⟨hn, [], by simp, rfl, rfl⟩, by intro n c p hn h; cases h⟩

theorem cut1 : cut8 1 = 1 := rfl
theorem cut2 : cut8 2 = 2 := rfl
theorem cut3 : cut8 3 = 3 := rfl
theorem cut4 : cut8 4 = 4 := rfl
theorem inUpto_iff (m n : Int) : inUpto m n = true ↔ 0 ≤ n ∧ n ≤ m := by simp [inUpto]

theorem Rd.row (l : List UInt8) : Rd l (rowS l) (EP rowB (fun xs => rowOk xs = true)) := by
  have h : rowS l = thenS (numS l 1 0 8) fun k => timesS (fun n => numS l 1 0 7 n) k.toNat := by funext n; kernel_rfl
  rw [h]
  refine (Rd.then (Rd.num l 1 0 8) fun k => Rd.times (Rd.num l 1 0 7) k.toNat).mono ?_
  rintro y bs ⟨k, b1, b2, ⟨rfl, h0, h1⟩, ⟨rfl, h2, h3⟩, rfl⟩
  have hk : k = (y.length : Int) := by omega
  subst hk
  refine ⟨by unfold rowB beAll; rw [show cut8 1 = 1 from rfl]; simp, ?_⟩
  unfold rowOk
  simp only [Bool.and_eq_true, decide_eq_true_eq, List.all_eq_true, inUpto_iff]
  exact ⟨h1, fun x hx => h3 x hx⟩

theorem Rd.group (l : List UInt8) : Rd l (groupS l) (EP grB (fun g => grOk g = true)) := by
  have h : groupS l = thenS (rowS l) fun a => thenS (rowS l) fun b n => .ok ((a, b), n) := by funext n; kernel_rfl
  rw [h]
  refine (Rd.then (Rd.row l) fun a => Rd.then (Rd.row l) fun b => Rd.done l (a, b)).mono ?_
  rintro y bs ⟨a, b1, b2, ⟨rfl, h1⟩, ⟨b, b3, b4, ⟨rfl, h2⟩, ⟨rfl, rfl⟩, rfl⟩, rfl⟩
  exact ⟨by simp [grB], by unfold grOk; simp [h1, h2]⟩

theorem Rd.bus (l : List UInt8) : Rd l (busS l) (EP buB (fun x => buOk x = true)) := by
  have h : busS l = thenS (numS l 1 0 255) fun s => thenS (numS l 2 0 9999) fun k n => .ok (⟨s, k⟩, n) := by funext n; kernel_rfl
  rw [h]
  refine (Rd.then (Rd.num l 1 0 255) fun a => Rd.then (Rd.num l 2 0 9999) fun b => Rd.done l (⟨a, b⟩ : Bu)).mono ?_
  rintro y bs ⟨a, b1, b2, ⟨rfl, h1⟩, ⟨b, b3, b4, ⟨rfl, h2⟩, ⟨rfl, rfl⟩, rfl⟩, rfl⟩
  exact ⟨by simp [buB, beAll, cut1, cut2], by simp [buOk, inUpto_iff, h1, h2]⟩

theorem Rd.det (l : List UInt8) : Rd l (detS l) (EP deB (fun x => deOk x = true)) := by
  have h : detS l = thenS (numS l 1 0 7) fun a => thenS (floatS l 1) fun b => thenS (floatS l 2) fun c => thenS (floatS l 3) fun d => thenS (floatS l 4) fun e =>
      thenS (numS l 2 0 9999) fun f => thenS (numS l 2 0 9999) fun g n => .ok (⟨a, b, c, d, e, f, g⟩, n) := by funext n; kernel_rfl
  rw [h]
  refine (Rd.then (Rd.num l 1 0 7) fun a => Rd.then (Rd.float l 1) fun b => Rd.then (Rd.float l 2) fun c => Rd.then (Rd.float l 3) fun d => Rd.then (Rd.float l 4) fun e =>
    Rd.then (Rd.num l 2 0 9999) fun f => Rd.then (Rd.num l 2 0 9999) fun g => Rd.done l (⟨a, b, c, d, e, f, g⟩ : Det)).mono ?_
  rintro y bs ⟨a, _, _, ⟨rfl, h1⟩, ⟨b, _, _, ⟨rfl, h2⟩, ⟨c, _, _, ⟨rfl, h3⟩, ⟨d, _, _, ⟨rfl, h4⟩, ⟨e, _, _, ⟨rfl, h5⟩, ⟨f, _, _, ⟨rfl, h6⟩, ⟨g, _, _, ⟨rfl, h7⟩, ⟨rfl, rfl⟩, rfl⟩, rfl⟩, rfl⟩, rfl⟩, rfl⟩, rfl⟩, rfl⟩
  refine ⟨by simp [deB, beAll, beF, cut1, cut2], ?_⟩
  unfold deOk at h2 h3 h4 h5 ⊢
  simp only [Bool.and_eq_true] at h2 h3 h4 h5 ⊢
  exact ⟨⟨⟨⟨⟨by simp [inUpto_iff, h1], h2.1.1.1.1.2⟩, h3.1.1.1.2⟩, h4.1.1.2⟩, h5.1.2⟩, by simp [inUpto_iff, h6, h7]⟩

theorem Rd.phase (l : List UInt8) : Rd l (phaseS l) (EP phB (fun x => phOk x = true)) := by
  have h : phaseS l = thenS (yesS l) fun a => thenS (timesS (fun n => numS l 2 0 9999 n) 9) fun b => thenS (numS l 1 0 3) fun c => thenS (yesS l) fun d => thenS (yesS l) fun e n => .ok (mkPh a b c d e, n) := by funext n; kernel_rfl
  rw [h]
  refine (Rd.then (Rd.yes l) fun a => Rd.then (Rd.times (Rd.num l 2 0 9999) 9) fun b => Rd.then (Rd.num l 1 0 3) fun c => Rd.then (Rd.yes l) fun d => Rd.then (Rd.yes l) fun e => Rd.done l (mkPh a b c d e)).mono ?_
  rintro y bs ⟨a, _, _, ⟨rfl, h1⟩, ⟨b, _, _, ⟨rfl, h2, h3⟩, ⟨c, _, _, ⟨rfl, h4⟩, ⟨d, _, _, ⟨rfl, h5⟩, ⟨e, _, _, ⟨rfl, h6⟩, ⟨rfl, rfl⟩, rfl⟩, rfl⟩, rfl⟩, rfl⟩, rfl⟩
  match b, h2, h3 with
  | [t1, t2, t3, t4, t5, t6, t7, t8, t9], _, h3 =>
    refine ⟨by simp [phB, mkPh, beAll, cut1, cut2], ?_⟩
    simp only [List.mem_cons, List.not_mem_nil, or_false, forall_eq_or_imp, forall_eq] at h3
    simp [phOk, mkPh, inUpto_iff, h3, h4]

theorem Rd.rail (l : List UInt8) : Rd l (railS l) (EP raB (fun x => raOk x = true)) := by
  have h : railS l = thenS (timesS (fun n => numS l 1 0 255 n) 4) fun a => thenS (timesS (fun n => numS l 2 0 9999 n) 6) fun b => thenS (numS l 4 0 2147483647) fun c n => .ok (mkRa a b c, n) := by funext n; kernel_rfl
  rw [h]
  refine (Rd.then (Rd.times (Rd.num l 1 0 255) 4) fun a => Rd.then (Rd.times (Rd.num l 2 0 9999) 6) fun b => Rd.then (Rd.num l 4 0 2147483647) fun c => Rd.done l (mkRa a b c)).mono ?_
  rintro y bs ⟨a, _, _, ⟨rfl, h1, h2⟩, ⟨b, _, _, ⟨rfl, h3, h4⟩, ⟨c, _, _, ⟨rfl, h5⟩, ⟨rfl, rfl⟩, rfl⟩, rfl⟩, rfl⟩
  match a, h1, h2, b, h3, h4 with
  | [s1, s2, s3, s4], _, h2, [t1, t2, t3, t4, t5, t6], _, h4 =>
    refine ⟨by simp [raB, mkRa, beAll, cut1, cut2, cut4], ?_⟩
    simp only [List.mem_cons, List.not_mem_nil, or_false, forall_eq_or_imp, forall_eq] at h2 h4
    simp [raOk, mkRa, inUpto_iff, h2, h4, h5]

/-- what stands between the magic number and the sum -/
def midB (t : Tab) : List UInt8 :=
  t.phs.flatMap phB ++ beAll 1 [(t.groups.length : Int)] ++ t.groups.flatMap grB ++ beAll 1 (arr8 t.conflict) ++ beAll 1 [(t.dets.length : Int)] ++ t.dets.flatMap deB ++
  beAll 1 [(t.rails.length : Int)] ++ t.rails.flatMap raB ++ beAll 1 [(t.buses.length : Int)] ++ t.buses.flatMap buB ++ beAll 2 [t.extend, t.budget, t.start, t.revert, t.least] ++ beAll 1 (arr8 t.flash) ++
  beAll 4 [t.window, t.share]

theorem Rd.table (l : List UInt8) : Rd l (tableS l) (EP midB (fun t => mayOk t = true)) := by
  have h : tableS l = thenS (timesS (phaseS l) 8) fun phs => thenS (numS l 1 0 4) fun gn => thenS (timesS (groupS l) gn.toNat) fun gs => thenS (timesS (fun n => numS l 1 0 255 n) 8) fun cf =>
      thenS (numS l 1 0 16) fun dn => thenS (timesS (detS l) dn.toNat) fun ds => thenS (numS l 1 0 4) fun rn => thenS (timesS (railS l) rn.toNat) fun rs => thenS (numS l 1 0 4) fun bn =>
      thenS (timesS (busS l) bn.toNat) fun bs => thenS (timesS (fun n => numS l 2 0 9999 n) 5) fun ts => thenS (timesS (fun n => numS l 1 0 2 n) 8) fun fl => thenS (numS l 4 0 2147483647) fun wn =>
      thenS (numS l 4 0 2147483647) fun sh n => .ok (mkTab phs gs cf ds rs bs ts fl wn sh, n) := by funext n; kernel_rfl
  rw [h]
  refine (Rd.then (Rd.times (Rd.phase l) 8) fun phs => Rd.then (Rd.num l 1 0 4) fun gn => Rd.then (Rd.times (Rd.group l) gn.toNat) fun gs => Rd.then (Rd.times (Rd.num l 1 0 255) 8) fun cf =>
    Rd.then (Rd.num l 1 0 16) fun dn => Rd.then (Rd.times (Rd.det l) dn.toNat) fun ds => Rd.then (Rd.num l 1 0 4) fun rn => Rd.then (Rd.times (Rd.rail l) rn.toNat) fun rs => Rd.then (Rd.num l 1 0 4) fun bn =>
    Rd.then (Rd.times (Rd.bus l) bn.toNat) fun bs => Rd.then (Rd.times (Rd.num l 2 0 9999) 5) fun ts => Rd.then (Rd.times (Rd.num l 1 0 2) 8) fun fl => Rd.then (Rd.num l 4 0 2147483647) fun wn =>
    Rd.then (Rd.num l 4 0 2147483647) fun sh => Rd.done l (mkTab phs gs cf ds rs bs ts fl wn sh)).mono ?_
  rintro y _ ⟨phs, _, _, ⟨rfl, p1, p2⟩, ⟨gn, _, _, ⟨rfl, g1, g2⟩, ⟨gs, _, _, ⟨rfl, g3, g4⟩, ⟨cf, _, _, ⟨rfl, c1, c2⟩, ⟨dn, _, _, ⟨rfl, d1, d2⟩, ⟨ds, _, _, ⟨rfl, d3, d4⟩, ⟨rn, _, _, ⟨rfl, r1, r2⟩, ⟨rs, _, _, ⟨rfl, r3, r4⟩,
    ⟨bn, _, _, ⟨rfl, b1, b2⟩, ⟨bs, _, _, ⟨rfl, b3, b4⟩, ⟨ts, _, _, ⟨rfl, t1, t2⟩, ⟨fl, _, _, ⟨rfl, f1, f2⟩, ⟨wn, _, _, ⟨rfl, w1⟩, ⟨sh, _, _, ⟨rfl, s1⟩, ⟨rfl, rfl⟩, rfl⟩, rfl⟩, rfl⟩, rfl⟩, rfl⟩, rfl⟩, rfl⟩, rfl⟩, rfl⟩, rfl⟩, rfl⟩, rfl⟩, rfl⟩, rfl⟩
  have e1 : (mkTab phs gs cf ds rs bs ts fl wn sh).phs = phs := list8 phs zeroPh p1
  have e2 : arr8 (mkTab phs gs cf ds rs bs ts fl wn sh).conflict = cf := list8 cf 0 c1
  have e3 : arr8 (mkTab phs gs cf ds rs bs ts fl wn sh).flash = fl := list8 fl 0 f1
  have k1 : gn = (gs.length : Int) := by omega
  have k2 : dn = (ds.length : Int) := by omega
  have k3 : rn = (rs.length : Int) := by omega
  have k4 : bn = (bs.length : Int) := by omega
  subst k1 k2 k3 k4
  match ts, t1, t2 with
  | [a1, a2, a3, a4, a5], _, t2 =>
    constructor
    · unfold midB
      rw [e1, e2, e3]
      simp [mkTab, beAll, cut1, cut2, cut4]
    · show mayOk _ = true
      unfold mayOk
      rw [e1, e2, e3]
      simp only [List.mem_cons, List.not_mem_nil, or_false, forall_eq_or_imp, forall_eq] at t2
      simp only [Bool.and_eq_true, decide_eq_true_eq, List.all_eq_true, inUpto_iff, mkTab]
      refine ⟨⟨⟨⟨⟨⟨⟨⟨⟨by omega, p2⟩, ⟨decide_eq_true g2, g4⟩⟩, fun x hx => c2 x hx⟩, ⟨decide_eq_true d2, d4⟩⟩, ⟨decide_eq_true r2, r4⟩⟩, ⟨decide_eq_true b2, b4⟩⟩, ?_⟩, fun x hx => f2 x hx⟩, ?_⟩
      · simpa using t2
      · simpa using ⟨w1, s1⟩

/-- a table that is read may be, and is written as these bytes -/
theorem decode_enc {l : List UInt8} {t : Tab} (h : decodeS l = .ok t) : mayOk t = true ∧ encB t = l := by
  unfold decodeS at h
  split at h
  · cases h
  · rcases h1 : numS l 3 0 16777215 0 with e | ⟨mg, n1⟩ <;> simp only [h1] at h
    · cases h
    · split at h
      · cases h
      · rename_i hm
        rcases h2 : tableS l n1 with e | ⟨t', n2⟩ <;> simp only [h2] at h
        · cases h
        · rcases h3 : numS l 2 0 65535 n2 with e | ⟨s, n3⟩ <;> simp only [h3] at h
          · cases h
          · split at h
            · cases h
            · rename_i hs
              split at h
              · cases h
              · rename_i hl
                cases h
                obtain ⟨a1, b1, a2, rfl, -⟩ := (Rd.num l 3 0 16777215).ok (Nat.zero_le _) h1
                obtain ⟨a3, b2, a4, rfl, hmay⟩ := (Rd.table l).ok a1 h2
                obtain ⟨a5, b3, a6, rfl, -⟩ := (Rd.num l 2 0 65535).ok a3 h3
                refine ⟨hmay, ?_⟩
                have e1 : mg = 5784065 := by omega
                have e2 : s = crcFrom 65535 (l.take n2) := by omega
                have e3 : n3 = l.length := by omega
                have e4 : l.take n2 = bodyB t := by
                  rw [a4, a2, e1]
                  unfold bodyB midB
                  simp [beAll, cut1, cut2, cut3, cut4]
                rw [e4] at e2 a6
                rw [e3, List.take_length] at a6
                rw [a6, e2]
                unfold encB
                simp [beAll, cut1, cut2, cut3, cut4]

/-- a fault is one, and lies within the bytes -/
theorem decode_fault {l : List UInt8} {c p : Int} (h : decodeS l = .error (c, p)) : c ≠ 0 ∧ 0 ≤ p ∧ p ≤ (l.length : Int) := by
  unfold decodeS at h
  split at h
  · cases h; omega
  · rcases h1 : numS l 3 0 16777215 0 with ⟨c1, p1⟩ | ⟨mg, n1⟩ <;> simp only [h1] at h
    · cases h; exact (Rd.num l 3 0 16777215).err (Nat.zero_le _) h1
    · have a1 := ((Rd.num l 3 0 16777215).ok (Nat.zero_le _) h1).1
      split at h
      · cases h; omega
      · rcases h2 : tableS l n1 with ⟨c1, p1⟩ | ⟨t', n2⟩ <;> simp only [h2] at h
        · cases h; exact (Rd.table l).err a1 h2
        · have a2 := ((Rd.table l).ok a1 h2).1
          rcases h3 : numS l 2 0 65535 n2 with ⟨c1, p1⟩ | ⟨s, n3⟩ <;> simp only [h3] at h
          · cases h; exact (Rd.num l 2 0 65535).err a2 h3
          · have a3 := ((Rd.num l 2 0 65535).ok a2 h3).1
            split at h
            · cases h; omega
            · split at h
              · cases h; omega
              · cases h
end Go.Proofs.YtpopnmelcplbbaaGreat
namespace Go.Proofs.YtpopnmelcplbbaaGreat
open Go.RowKit

theorem satAdd_lo (a b : Int) : 0 ≤ satAdd a b := cap_lo _
theorem passS_lo (t : Tab) (n : Int) (h : 0 ≤ n) (k : Nat) : 0 ≤ freeU t n k := by
  cases k with
  | zero => exact h
  | succ k => rw [freeU_succ]; exact satAdd_lo _ _
theorem passRow_lo (t : Tab) (xs : List Int) : ∀ n : Int, 0 ≤ n → 0 ≤ passRow t n xs := by
  unfold passRow
  induction xs with
  | nil => intro n h; exact h
  | cons x xs ih => intro n h; rw [List.foldl_cons]; exact ih _ (satAdd_lo _ _)
theorem freeS_lo (t : Tab) (p : Int) : 0 ≤ freeS t p := by
  unfold freeS
  split
  · refine passS_lo t _ ?_ _
    unfold passS passG
    exact passRow_lo t _ _ (passRow_lo t _ _ (by omega))
  · omega
theorem waitS_lo (t : Tab) (p : Int) : 0 ≤ waitS t p := by
  unfold waitS
  split
  · exact freeS_lo t p
  · exact satAdd_lo _ _

def InB (v : Int) : Prop := 0 ≤ v ∧ v < 2147483647
theorem inB_set (l : List Int) (k : Nat) (v : Int) (h : ∀ x ∈ l, InB x) (hv : InB v) : ∀ x ∈ l.set k v, InB x := by
  intro x hx
  rcases List.mem_or_eq_of_mem_set hx with h1 | rfl
  · exact h x h1
  · exact hv
theorem zeros_in : ∀ x ∈ zeros12, InB x := by
  intro x hx
  unfold zeros12 at hx
  rw [List.mem_replicate] at hx
  obtain ⟨_, rfl⟩ := hx
  exact ⟨by omega, by omega⟩
theorem waitsF_in (t : Tab) (pre : List (Fin 8)) (h : ∀ x ∈ pre, waitS t (x.val : Int) < 2147483647) : ∀ x ∈ waitsF t pre, InB x := by
  unfold waitsF
  suffices ∀ l : List Int, (∀ x ∈ l, InB x) → ∀ x ∈ pre.foldl (fun l x => l.set x.val (waitS t (x.val : Int))) l, InB x from this _ zeros_in
  induction pre with
  | nil => intro l hl; exact hl
  | cons y pre ih =>
    intro l hl
    rw [List.foldl_cons]
    exact ih (fun x hx => h x (List.mem_cons_of_mem _ hx)) _ (inB_set _ _ _ hl ⟨waitS_lo t _, h y (List.mem_cons_self ..)⟩)
theorem entF_in (t : Tab) (l : List Int) (n : Nat) (hl : ∀ x ∈ l, InB x) (h : ∀ k, k < n → InB (entryS t k)) : ∀ x ∈ entF t l n, InB x := by
  induction n with
  | zero => exact hl
  | succ n ih => rw [entF_succ]; exact inB_set _ _ _ (ih fun k hk => h k (by omega)) (h n (by omega))
theorem sumL_lo (l : List Int) : 0 ≤ sumL l := by
  unfold sumL
  suffices ∀ n : Int, 0 ≤ n → 0 ≤ l.foldl satAdd n from this 0 (by omega)
  induction l with
  | nil => intro n h; exact h
  | cons x xs ih => intro n h; rw [List.foldl_cons]; exact ih _ (satAdd_lo _ _)
theorem entryS_lo (t : Tab) (k : Nat) : 0 ≤ entryS t k := sumL_lo _
theorem allS_in (t : Tab) : ∀ x ∈ (allS t).1, InB x := by
  unfold allS
  split
  · exact zeros_in
  · split
    · exact zeros_in
    · rename_i h1
      split
      · exact zeros_in
      · rename_i h2
        split
        · exact zeros_in
        · refine entF_in t _ _ (waitsF_in t _ ?_) ?_
          · intro x hx
            have := List.find?_eq_none.1 h1 x hx
            simpa using this
          · intro k hk
            have := List.find?_eq_none.1 h2 k (List.mem_range.2 hk)
            exact ⟨entryS_lo t k, by simpa using this⟩
theorem allS_len (t : Tab) : (allS t).1.length = 12 := by
  unfold allS
  split
  · rfl
  · split
    · rfl
    · split
      · rfl
      · split
        · rfl
        · rw [entF_len, waitsF_len]
/-- what check finds wrong, bound says -/
theorem allS_check (t : Tab) (h : (checkS t).1 ≠ 0) : (allS t).2 = checkS t := by
  unfold allS; rw [if_pos h]
end Go.Proofs.YtpopnmelcplbbaaGreat
namespace Go.Proofs.YtpopnmelcplbbaaGreat
open Go.RowKit

theorem smT_may : mayOk smT = true := by kernel_rfl
theorem smT_all : (allS smT).2 = (0, 0) := by kernel_rfl
theorem smT_dec : decodeS (encB smT) = .ok smT := by kernel_rfl
theorem smT_len : (encB smT).length = 550 := by kernel_rfl
theorem smT_on (gv dv rv bv : Value) : (smT.cells gv dv rv bv)[0]? = some (.bool true) := by unfold Tab.cells; kernel_rfl
theorem smT_keyed : Keyed smT := by
  refine ⟨by kernel_rfl, by kernel_rfl, by kernel_rfl, ?_, ?_⟩
  · intro x hx
    simp only [smT, mkTab, List.mem_cons, List.not_mem_nil, or_false] at hx
    subst hx
    kernel_rfl
  · intro x hx
    simp only [smT, mkTab, List.mem_cons, List.not_mem_nil, or_false] at hx
    subst hx
    kernel_rfl
theorem zeroT_keyed : Keyed zeroT := by
  refine ⟨by kernel_rfl, by kernel_rfl, by kernel_rfl, ?_, ?_⟩
  · intro x hx; simp [zeroT] at hx
  · intro x hx; simp [zeroT] at hx
theorem zeroT_at (w : World) : TabAt w nilS nilS nilS nilS zeroT :=
  ⟨⟨[], rfl, ⟨none, 0, rfl, .inl ⟨rfl, rfl⟩⟩, by simp⟩, ⟨none, 0, rfl, .inl ⟨rfl, rfl⟩⟩, ⟨none, 0, rfl, .inl ⟨rfl, rfl⟩⟩, ⟨none, 0, rfl, .inl ⟨rfl, rfl⟩⟩, by simp [zeroT], by simp [zeroT], by simp [zeroT], by simp [zeroT]⟩
end Go.Proofs.YtpopnmelcplbbaaGreat
