/-
  the reference's Cut, Crc: what Seal comes to. the reference's Seal, SameInts, bits; the law's SameBytes.
-/
import Derived.Deep.AppendLies
import Derived.Test.YtpopnmelcplbbaaGreatNew
import Derived.Test.YtpopnmelcplbbaaGreatGRows
import Derived.Test.YtpopnmelcplbbaaGreatGHand
set_option linter.unusedVariables false
set_option linter.unusedSimpArgs false
namespace Go.Proofs.YtpopnmelcplbbaaGreat
open Go.RowKit

theorem Cut_c (n lo hi : Int) (w : World) : Calls Tryz.prog 59 #[.int .i64 n, .int .i64 lo, .int .i64 hi] w fun e w' => e = .returned (.int .i64 (if n < lo then lo else if hi < n then hi else n)) ∧ w = w' := by
  obtain ⟨r, hr⟩ : ∃ r, (if n < lo then lo else if hi < n then hi else n) = r := ⟨_, rfl⟩
  rw [hr]
  have HR := Lib.hid hr; clear hr
  by_cases h1 : n < lo
  · have d1 : decide (n < lo) = true := by simpa using h1
    have hr : lo = r := by rw [← HR.out, if_pos h1]
    subst hr
    go_enter Tryz.func59, Tryz.ntmps59
    go_wp2
    go_ret
    exact ⟨rfl, rfl⟩
  have d1 : decide (n < lo) = false := by simpa using h1
  by_cases h2 : hi < n
  · have d2 : decide (hi < n) = true := by simpa using h2
    have hr : hi = r := by rw [← HR.out, if_neg h1, if_pos h2]
    subst hr
    go_enter Tryz.func59, Tryz.ntmps59
    go_wp2
    go_ret
    exact ⟨rfl, rfl⟩
  · have d2 : decide (hi < n) = false := by simpa using h2
    have hr : n = r := by rw [← HR.out, if_neg h1, if_neg h2]
    subst hr
    go_enter Tryz.func59, Tryz.ntmps59
    go_wp2
    go_ret
    exact ⟨rfl, rfl⟩

set_option maxRecDepth 100000 in
set_option maxHeartbeats 2000000 in
theorem RefCrc_c (w : World) (v : Value) (l : List UInt8) (c : Int) (hv : RowIn w v l.length (bytes8 l)) (hl : l.length ≤ 1000000000) :
    Calls Tryz.prog 14 #[.int .u16 c, v] w fun e w' => (∃ c', e = .returned (.int .u16 c')) ∧ w = w' := by
  obtain ⟨a, cp, rfl, hrow⟩ := hv
  have HROW := Lib.hid hrow; clear hrow
  go_enter Tryz.func14, Tryz.ntmps14
  go_wp2
  go_loop [0, 5, 6, 7] (fun c i k q => ∃ (j : Nat) (c' : Int), j ≤ l.length ∧ i = .int .i64 j ∧ c = .int .u16 c') (fun _ i _ _ => l.length - (intOf i).toNat)
  case atStart => exact ⟨0, c, Nat.zero_le _, rfl, rfl⟩
  case round =>
    obtain ⟨j, c', hj, rfl, rfl⟩ := hrel
    by_cases hlj : j < l.length
    · rcases HROW.out with ⟨h0, _⟩ | ⟨b, off, rfl, hb, hc⟩
      · omega
      have hcj := hc j (.int .u8 (l[j]).toNat) (by simp [bytes8, hlj])
      have k0 : (0 : Int) ≤ (j : Int) := by omega
      have k1 : (j : Int) < (l.length : Int) := by omega
      clear hc HROW
      go_wp2
      go_loop [0, 6, 7] (fun c k q => ∃ (m : Nat) (c' : Int), m ≤ 8 ∧ k = .int .i64 ((m : Int) - 1) ∧ c = .int .u16 c') (fun _ k _ => (intOf k + 1).toNat)
      case atStart => exact ⟨8, c', by omega, by go_num, rfl⟩
      case round =>
        obtain ⟨m, c2, hm, rfl, rfl⟩ := hrel
        by_cases hm0 : m = 0
        · subst hm0
          go_wp2
          go_round
          case rel => exact ⟨j + 1, c2, by omega, by go_num, rfl⟩
          case measure => simp [intOf]; omega
        · obtain ⟨m', rfl⟩ : ∃ m', m = m' + 1 := ⟨m - 1, by omega⟩
          have hm1 : ((m' + 1 : Nat) : Int) - 1 = (m' : Int) := by omega
          rw [hm1]
          have k2 : (0 : Int) ≤ (m' : Int) := by omega
          have k3 : decide ((m' : Int) < 0) = false := by simp
          go_wp2
          all_goals exact ⟨⟨m', _, by omega, rfl, rfl⟩, by simp [intOf]⟩
    · have hjj : j = l.length := by omega
      subst hjj
      go_wp2
      go_ret
      exact ⟨⟨_, rfl⟩, rfl⟩

theorem byte_is (x : Int) (h0 : 0 ≤ x) (h1 : x < 256) : ((UInt8.ofNat x.toNat).toNat : Int) = x := by
  rw [UInt8.toNat_ofNat']; omega
set_option maxRecDepth 100000 in
set_option maxHeartbeats 2000000 in
theorem RefPut_c (w : World) (v : Value) (l : List UInt8) (n : Int) (hv : RowIn w v l.length (bytes8 l)) (hl : l.length ≤ 1000000000) :
    Calls Tryz.prog 13 #[v, .int .i64 2, .int .i64 n] w fun e w' => ∃ (l' : List UInt8) (p : Option Addr) (r : Nat), e = .returned (.slice p l'.length r) ∧ RowIn w' (.slice p l'.length r) l'.length (bytes8 l') ∧ l'.length ≤ r ∧ l'.length = l.length + 2 ∧ Ext w w' := by
  obtain ⟨a, cp, rfl, hrow⟩ := hv
  have hii := Tryz.infoByte
  cases hi : Tryz.prog.info? 5 with
  | none => rw [hi] at hii; cases hii
  | some i0 =>
  rw [hi] at hii
  simp only [Option.map_some, Option.some.injEq, Prod.mk.injEq] at hii
  obtain ⟨hz1, hz2, hz3⟩ := hii
  have HI := Lib.hid hi; clear hi
  have HZ1 := Lib.hid hz1; clear hz1
  have hcut := fun w => Cut_c 2 0 8 w
  rw [show (if (2 : Int) < 0 then 0 else if (8 : Int) < 2 then 8 else 2 : Int) = 2 from by decide] at hcut
  have HCUT := Lib.hid hcut; clear hcut
  cases a with
  | none =>
    rcases hrow with ⟨h0, h1⟩ | ⟨b, off, h, _⟩
    · have hl0 : l = [] := List.length_eq_zero_iff.1 h0
      subst hl0
      clear h0 h1
      go_enter Tryz.func13, Tryz.ntmps13
      go_wp2_with (go_at_call 59; refine (HCUT.out _).mono ?_; rintro e w2 ⟨rfl, rfl⟩)
      go_loopw [7, 8] (fun v i wr => ∃ (m : Nat) (xs : List UInt8), m ≤ 2 ∧ i = .int .i64 ((m : Int) - 1) ∧ wr.ownsRow w.heap.size 5 1 v xs.length (bytes8 xs) ∧ xs.length + m = 0 + 2 ∧ Ext w wr) (fun _ i _ => (intOf i + 1).toNat)
      case atStart => exact ⟨2, [], by omega, by go_num, ownsRow_nil w w.heap.size 5 1, rfl, Ext.refl _⟩
      case round =>
        obtain ⟨m, xs, hm, rfl, hown, hlen, hx⟩ := hrel
        have HX := Lib.hid hx; clear hx
        by_cases hm0 : m = 0
        · subst hm0
          have hrow := rowIn_own hown
          obtain ⟨hlen0, hcase⟩ := hown
          clear hlen0
          rcases hcase with ⟨rfl, h0⟩ | ⟨g, cap, cur, rfl, hbg, hg, hcap, hrest⟩
          · exfalso; omega
          have HROW := Lib.hid hrow; clear hrow
          clear hbg hg hrest
          go_wp2
          go_ret
          exact ⟨xs, _, _, rfl, HROW.out, hcap, by omega, HX.out⟩
        · obtain ⟨m', rfl⟩ : ∃ m', m = m' + 1 := ⟨m - 1, by omega⟩
          have hm1 : ((m' + 1 : Nat) : Int) - 1 = (m' : Int) := by omega
          rw [hm1]
          have k2 : (0 : Int) ≤ (m' : Int) := by omega
          have k3 : decide ((m' : Int) < 0) = false := by simp
          have k4 : decide ((8 : Int) * (m' : Int) < 0) = false := decide_eq_false (by omega)
          have HOWN := Lib.hid hown; clear hown
          obtain ⟨y, hy⟩ : ∃ y : UInt8, n / 2 ^ (8 * m') % 256 = (y.toNat : Int) := ⟨_, (byte_is (n / 2 ^ (8 * m') % 256) (Int.emod_nonneg _ (by decide)) (Int.emod_lt_of_pos _ (by decide))).symm⟩
          have hown2 := (HOWN.out).alloc (.cells #[.int .u8 (y.toNat : Int)] 5)
          have HOWN2 := Lib.hid hown2; clear hown2
          have HX2 := Lib.hid (HX.out.alloc (.cells #[.int .u8 (y.toNat : Int)] 5))
          have hlt3 := HX.out.size
          go_wp2_with (at_builtin; refine wpList_append_own _ rfl _ _ 22 rfl w.heap.size 5 i0 (.int .u8 0) 1 1 Tryz.underlying22 HI.out HZ1.out hz2 hz3 rfl (by omega) _ xs.length (bytes8 xs) rfl HOWN2.out ⟨wr.heap.size, 0, none⟩ 1 1 [.int .u8 (y.toNat : Int)] rfl rfl (cell_one_new _ _ _) (by simp [Value.oneCell']) (by simp [maxLen]; omega) (by omega) (by simp; omega) ?_; intro v3 w3 hown3 hg3 _)
          have hx3 := HX2.out.grown hg3 (fun k e => (HOWN2.out.lt k e).1)
          have HX3 := Lib.hid hx3; clear hx3 hg3 HX2 HOWN HOWN2
          go_roundw
          case rel => exact ⟨m', xs ++ [y], by omega, by go_num, by simpa [bytes8] using hown3, by simp; omega, HX3.out⟩
          case measure => simp [intOf]
    · cases h
  | some A =>
    have hsrc : ∀ j u, (bytes8 l)[j]? = some u → w.cell? (A.add j) = some u := by
      rcases hrow with ⟨h0, h1⟩ | ⟨b, off, h, _, hc⟩
      · intro j u hj; rw [h1] at hj; cases hj
      · cases h
        intro j u hj
        rw [addr_add]
        exact hc j u hj
    have HS := Lib.hid hsrc; clear hsrc hrow
    have HOWN := Lib.hid (ownsRow_nil w w.heap.size 5 1)
    go_enter Tryz.func13, Tryz.ntmps13
    go_wp2_with (at_builtin; refine wpList_append_own _ rfl _ _ 22 rfl w.heap.size 5 i0 (.int .u8 0) 1 1 Tryz.underlying22 HI.out HZ1.out hz2 hz3 rfl (by omega) _ 0 [] rfl HOWN.out A l.length cp (bytes8 l) rfl (by rw [bytes8_length]; omega) HS.out (by intro u hu; simp only [bytes8, List.mem_map] at hu; obtain ⟨x, _, rfl⟩ := hu; rfl) (by simp [maxLen]; omega) (by omega) (by simp) ?_; intro v1 w1 hown1 hg1 _)
    rw [Nat.zero_add, List.nil_append] at hown1
    have hx1 := (Ext.refl w).grown hg1 (fun k e => by cases e)
    clear hg1
    go_wp2_with (go_at_call 59; refine (HCUT.out _).mono ?_; rintro e w2 ⟨rfl, rfl⟩)
    go_loopw [7, 8] (fun v i wr => ∃ (m : Nat) (xs : List UInt8), m ≤ 2 ∧ i = .int .i64 ((m : Int) - 1) ∧ wr.ownsRow w.heap.size 5 1 v xs.length (bytes8 xs) ∧ xs.length + m = l.length + 2 ∧ Ext w wr) (fun _ i _ => (intOf i + 1).toNat)
    case atStart => exact ⟨2, l, by omega, by go_num, hown1, rfl, hx1⟩
    case round =>
      obtain ⟨m, xs, hm, rfl, hown, hlen, hx⟩ := hrel
      have HX := Lib.hid hx; clear hx
      by_cases hm0 : m = 0
      · subst hm0
        have hrow := rowIn_own hown
        obtain ⟨hlen0, hcase⟩ := hown
        clear hlen0
        rcases hcase with ⟨rfl, h0⟩ | ⟨g, cap, cur, rfl, hbg, hg, hcap, hrest⟩
        · exfalso; omega
        have HROW := Lib.hid hrow; clear hrow
        clear hbg hg hrest
        go_wp2
        go_ret
        exact ⟨xs, _, _, rfl, HROW.out, hcap, by omega, HX.out⟩
      · obtain ⟨m', rfl⟩ : ∃ m', m = m' + 1 := ⟨m - 1, by omega⟩
        have hm1 : ((m' + 1 : Nat) : Int) - 1 = (m' : Int) := by omega
        rw [hm1]
        have k2 : (0 : Int) ≤ (m' : Int) := by omega
        have k3 : decide ((m' : Int) < 0) = false := by simp
        have k4 : decide ((8 : Int) * (m' : Int) < 0) = false := decide_eq_false (by omega)
        have HOWN := Lib.hid hown; clear hown
        obtain ⟨y, hy⟩ : ∃ y : UInt8, n / 2 ^ (8 * m') % 256 = (y.toNat : Int) := ⟨_, (byte_is (n / 2 ^ (8 * m') % 256) (Int.emod_nonneg _ (by decide)) (Int.emod_lt_of_pos _ (by decide))).symm⟩
        have hown2 := (HOWN.out).alloc (.cells #[.int .u8 (y.toNat : Int)] 5)
        have HOWN2 := Lib.hid hown2; clear hown2
        have HX2 := Lib.hid (HX.out.alloc (.cells #[.int .u8 (y.toNat : Int)] 5))
        have hlt3 := HX.out.size
        go_wp2_with (at_builtin; refine wpList_append_own _ rfl _ _ 22 rfl w.heap.size 5 i0 (.int .u8 0) 1 1 Tryz.underlying22 HI.out HZ1.out hz2 hz3 rfl (by omega) _ xs.length (bytes8 xs) rfl HOWN2.out ⟨wr.heap.size, 0, none⟩ 1 1 [.int .u8 (y.toNat : Int)] rfl rfl (cell_one_new _ _ _) (by simp [Value.oneCell']) (by simp [maxLen]; omega) (by omega) (by simp; omega) ?_; intro v3 w3 hown3 hg3 _)
        have hx3 := HX2.out.grown hg3 (fun k e => (HOWN2.out.lt k e).1)
        have HX3 := Lib.hid hx3; clear hx3 hg3 HX2 HOWN HOWN2
        go_roundw
        case rel => exact ⟨m', xs ++ [y], by omega, by go_num, by simpa [bytes8] using hown3, by simp; omega, HX3.out⟩
        case measure => simp [intOf]
end Go.Proofs.YtpopnmelcplbbaaGreat
namespace Go.Proofs.YtpopnmelcplbbaaGreat
open Go.RowKit

theorem RefSeal_c (w : World) (v : Value) (l : List UInt8) (hv : RowIn w v l.length (bytes8 l)) (hl : l.length ≤ 1000000000) :
    Calls Tryz.prog 5 #[v] w fun e w' => ∃ (l' : List UInt8) (p : Option Addr) (r : Nat), e = .returned (.slice p l'.length r) ∧ RowIn w' (.slice p l'.length r) l'.length (bytes8 l') ∧ l'.length ≤ r ∧ l'.length = l.length + 2 ∧ Ext w w' := by
  have h1 := RefCrc_c w v l 65535 hv hl
  have h2 := fun n => RefPut_c w v l n hv hl
  have H1 := Lib.hid h1; clear h1
  have H2 := Lib.hid h2; clear h2
  clear hv
  go_enter Tryz.func5, Tryz.ntmps5
  go_wp2_with fail
  refine H1.out.mono ?_
  rintro e w1 ⟨⟨c, rfl⟩, rfl⟩
  go_wp2_with fail
  refine (H2.out _).mono ?_
  rintro e w2 ⟨l', p, r, rfl, hr, hlr, hlen, hx⟩
  have HR := Lib.hid hr; clear hr
  have HX := Lib.hid hx; clear hx
  go_wp2
  go_ret
  exact ⟨l', p, r, by rw [hlen]; rfl, HR.out, hlr, hlen, HX.out⟩

theorem load_byte {W : World} {A : Addr} {v : Int} (h : W.cell? A = some (.int .u8 v)) : (Instr.loadAt 5 (.pointer (some A))).run Tryz.prog W = .ok (.int .u8 v) W := by go_simp

set_option maxRecDepth 100000 in
set_option maxHeartbeats 2000000 in
theorem SameInts_c (w : World) (u v : Value) (l : List Int) (hu : RowIn w u l.length (ints l)) (hv : RowIn w v l.length (ints l)) (hl : l.length ≤ 1000000000) :
    Calls Tryz.prog 22 #[u, v] w (Ret w (.bool true)) := by
  obtain ⟨a, cp, rfl, hrow⟩ := hu
  obtain ⟨a2, cp2, rfl, hrow2⟩ := hv
  have HR1 := Lib.hid hrow; clear hrow
  have HR2 := Lib.hid hrow2; clear hrow2
  go_enter Tryz.func22, Tryz.ntmps22
  go_wp2
  go_loopw [5] (fun i wh => ∃ (j : Nat), j ≤ l.length ∧ i = .int .i64 j ∧ Ext w wh) (fun i _ => l.length - (intOf i).toNat)
  case atStart => exact ⟨0, Nat.zero_le _, rfl, Ext.refl _⟩
  case round =>
    obtain ⟨j, hj, rfl, hx⟩ := hrel
    by_cases hlj : j < l.length
    · rcases HR1.out with ⟨h0, _⟩ | ⟨b, off, rfl, hb, hc⟩
      · omega
      rcases HR2.out with ⟨h0, _⟩ | ⟨b2, off2, rfl, hb2, hc2⟩
      · omega
      have hcj := (hx.cell (p := ⟨b, off + j, none⟩) hb).trans (hc j (.int .i64 l[j]) (ints_get l j hlj))
      have hcj2 := (hx.cell (p := ⟨b2, off2 + j, none⟩) hb2).trans (hc2 j (.int .i64 l[j]) (ints_get l j hlj))
      have k0 : (0 : Int) ≤ (j : Int) := by omega
      have k1 : (j : Int) < (l.length : Int) := by omega
      have k2 : decide ((l.length : Int) ≤ (j : Int)) = false := by simp; omega
      have k3 : decide ((j : Int) < 0) = false := by simp
      have HX := Lib.hid hx.drew; clear hx
      clear hc hc2 HR1 HR2
      go_wp2
      refine wp_region_held_drew (S := fun w' => w'.cell? ⟨b, off + j, none⟩ = some (.int .i64 l[j]) ∧ w'.cell? ⟨b2, off2 + j, none⟩ = some (.int .i64 l[j])) (by kernel_rfl) ⟨by simpa using hcj, by simpa using hcj2⟩ (fun hS => ?_)
      refine wpAnyH_take (i := 0) (oi := _) (v := .slice (some ⟨b, off, none⟩) l.length cp) rfl (by kernel_rfl) (by kernel_rfl) (by kernel_rfl) (fun _ _ _ h => h) (Or.inl ⟨by kernel_rfl, fun _ _ => by kernel_rfl⟩) hS ?_
      refine wpAnyH_take (i := 1) (oi := _) (v := .int .i64 (j : Int)) rfl (by kernel_rfl) (by kernel_rfl) (by kernel_rfl) (fun _ _ _ h => h) (Or.inl ⟨by kernel_rfl, fun _ _ => by kernel_rfl⟩) hS ?_
      refine wpAnyH_take (i := 2) (oi := _) (v := .pointer (some ⟨b, off + j, none⟩)) rfl (by kernel_rfl) (by kernel_rfl) (by kernel_rfl) (fun _ _ _ h => h) (yields_v (Instr.indexAt 64 (.slice (some ⟨b, off, none⟩) l.length cp) (.int .i64 (j : Int))) (by kernel_rfl) (by kernel_rfl) (fun w' _ => by go_simp)) hS ?_
      refine wpAnyH_take (i := 3) (oi := _) (v := .int .i64 l[j]) rfl (by kernel_rfl) (by kernel_rfl) (by kernel_rfl) (fun _ _ _ h => h) (yields_v (Instr.loadAt 3 (.pointer (some ⟨b, off + j, none⟩))) (by kernel_rfl) (by kernel_rfl) (fun W h => load_int (h.1))) hS ?_
      refine wpAnyH_take (i := 4) (oi := _) (v := .slice (some ⟨b2, off2, none⟩) l.length cp2) rfl (by kernel_rfl) (by kernel_rfl) (by kernel_rfl) (fun _ _ _ h => h) (Or.inl ⟨by kernel_rfl, fun _ _ => by kernel_rfl⟩) hS ?_
      refine wpAnyH_take (i := 5) (oi := _) (v := .int .i64 (j : Int)) rfl (by kernel_rfl) (by kernel_rfl) (by kernel_rfl) (fun _ _ _ h => h) (Or.inl ⟨by kernel_rfl, fun _ _ => by kernel_rfl⟩) hS ?_
      refine wpAnyH_take (i := 6) (oi := _) (v := .pointer (some ⟨b2, off2 + j, none⟩)) rfl (by kernel_rfl) (by kernel_rfl) (by kernel_rfl) (fun _ _ _ h => h) (yields_v (Instr.indexAt 64 (.slice (some ⟨b2, off2, none⟩) l.length cp2) (.int .i64 (j : Int))) (by kernel_rfl) (by kernel_rfl) (fun w' _ => by go_simp)) hS ?_
      refine wpAnyH_take (i := 7) (oi := _) (v := .int .i64 l[j]) rfl (by kernel_rfl) (by kernel_rfl) (by kernel_rfl) (fun _ _ _ h => h) (yields_v (Instr.loadAt 3 (.pointer (some ⟨b2, off2 + j, none⟩))) (by kernel_rfl) (by kernel_rfl) (fun W h => load_int (h.2))) hS ?_
      refine wpAnyH_take (i := 8) (oi := _) (v := .bool false) rfl (by kernel_rfl) (by kernel_rfl) (by kernel_rfl) (fun _ _ _ h => h) (Or.inl ⟨by kernel_rfl, fun W _ => by go_simp⟩) hS ?_
      refine wpAnyH_done (by kernel_rfl) ?_ _
      go_simp
      go_wp2
      go_roundw
      case rel => exact ⟨j + 1, by omega, by go_num, HX.out⟩
      case measure => simp [intOf]; omega
    · have hjj : j = l.length := by omega
      subst hjj
      have HX := Lib.hid hx; clear hx
      go_wp2
      go_ret
      exact ⟨rfl, HX.out⟩

set_option maxRecDepth 100000 in
set_option maxHeartbeats 2000000 in
theorem SameBytes_c (w : World) (u v : Value) (l : List UInt8) (hu : RowIn w u l.length (bytes8 l)) (hv : RowIn w v l.length (bytes8 l)) (hl : l.length ≤ 1000000000) :
    Calls Tryz.prog 10 #[u, v] w (Ret w (.bool true)) := by
  obtain ⟨a, cp, rfl, hrow⟩ := hu
  obtain ⟨a2, cp2, rfl, hrow2⟩ := hv
  have HR1 := Lib.hid hrow; clear hrow
  have HR2 := Lib.hid hrow2; clear hrow2
  go_enter Tryz.func10, Tryz.ntmps10
  go_wp2
  go_loopw [5] (fun i wh => ∃ (j : Nat), j ≤ l.length ∧ i = .int .i64 j ∧ Ext w wh) (fun i _ => l.length - (intOf i).toNat)
  case atStart => exact ⟨0, Nat.zero_le _, rfl, Ext.refl _⟩
  case round =>
    obtain ⟨j, hj, rfl, hx⟩ := hrel
    by_cases hlj : j < l.length
    · rcases HR1.out with ⟨h0, _⟩ | ⟨b, off, rfl, hb, hc⟩
      · omega
      rcases HR2.out with ⟨h0, _⟩ | ⟨b2, off2, rfl, hb2, hc2⟩
      · omega
      have hcj := (hx.cell (p := ⟨b, off + j, none⟩) hb).trans (hc j (.int .u8 (l[j].toNat : Int)) (by simp [bytes8, hlj]))
      have hcj2 := (hx.cell (p := ⟨b2, off2 + j, none⟩) hb2).trans (hc2 j (.int .u8 (l[j].toNat : Int)) (by simp [bytes8, hlj]))
      have k0 : (0 : Int) ≤ (j : Int) := by omega
      have k1 : (j : Int) < (l.length : Int) := by omega
      have k2 : decide ((l.length : Int) ≤ (j : Int)) = false := by simp; omega
      have k3 : decide ((j : Int) < 0) = false := by simp
      have HX := Lib.hid hx.drew; clear hx
      clear hc hc2 HR1 HR2
      go_wp2
      refine wp_region_held_drew (S := fun w' => w'.cell? ⟨b, off + j, none⟩ = some (.int .u8 (l[j].toNat : Int)) ∧ w'.cell? ⟨b2, off2 + j, none⟩ = some (.int .u8 (l[j].toNat : Int))) (by kernel_rfl) ⟨by simpa using hcj, by simpa using hcj2⟩ (fun hS => ?_)
      refine wpAnyH_take (i := 0) (oi := _) (v := .slice (some ⟨b, off, none⟩) l.length cp) rfl (by kernel_rfl) (by kernel_rfl) (by kernel_rfl) (fun _ _ _ h => h) (Or.inl ⟨by kernel_rfl, fun _ _ => by kernel_rfl⟩) hS ?_
      refine wpAnyH_take (i := 1) (oi := _) (v := .int .i64 (j : Int)) rfl (by kernel_rfl) (by kernel_rfl) (by kernel_rfl) (fun _ _ _ h => h) (Or.inl ⟨by kernel_rfl, fun _ _ => by kernel_rfl⟩) hS ?_
      refine wpAnyH_take (i := 2) (oi := _) (v := .pointer (some ⟨b, off + j, none⟩)) rfl (by kernel_rfl) (by kernel_rfl) (by kernel_rfl) (fun _ _ _ h => h) (yields_v (Instr.indexAt 22 (.slice (some ⟨b, off, none⟩) l.length cp) (.int .i64 (j : Int))) (by kernel_rfl) (by kernel_rfl) (fun w' _ => by go_simp)) hS ?_
      refine wpAnyH_take (i := 3) (oi := _) (v := .int .u8 (l[j].toNat : Int)) rfl (by kernel_rfl) (by kernel_rfl) (by kernel_rfl) (fun _ _ _ h => h) (yields_v (Instr.loadAt 5 (.pointer (some ⟨b, off + j, none⟩))) (by kernel_rfl) (by kernel_rfl) (fun W h => load_byte (h.1))) hS ?_
      refine wpAnyH_take (i := 4) (oi := _) (v := .slice (some ⟨b2, off2, none⟩) l.length cp2) rfl (by kernel_rfl) (by kernel_rfl) (by kernel_rfl) (fun _ _ _ h => h) (Or.inl ⟨by kernel_rfl, fun _ _ => by kernel_rfl⟩) hS ?_
      refine wpAnyH_take (i := 5) (oi := _) (v := .int .i64 (j : Int)) rfl (by kernel_rfl) (by kernel_rfl) (by kernel_rfl) (fun _ _ _ h => h) (Or.inl ⟨by kernel_rfl, fun _ _ => by kernel_rfl⟩) hS ?_
      refine wpAnyH_take (i := 6) (oi := _) (v := .pointer (some ⟨b2, off2 + j, none⟩)) rfl (by kernel_rfl) (by kernel_rfl) (by kernel_rfl) (fun _ _ _ h => h) (yields_v (Instr.indexAt 22 (.slice (some ⟨b2, off2, none⟩) l.length cp2) (.int .i64 (j : Int))) (by kernel_rfl) (by kernel_rfl) (fun w' _ => by go_simp)) hS ?_
      refine wpAnyH_take (i := 7) (oi := _) (v := .int .u8 (l[j].toNat : Int)) rfl (by kernel_rfl) (by kernel_rfl) (by kernel_rfl) (fun _ _ _ h => h) (yields_v (Instr.loadAt 5 (.pointer (some ⟨b2, off2 + j, none⟩))) (by kernel_rfl) (by kernel_rfl) (fun W h => load_byte (h.2))) hS ?_
      refine wpAnyH_take (i := 8) (oi := _) (v := .bool false) rfl (by kernel_rfl) (by kernel_rfl) (by kernel_rfl) (fun _ _ _ h => h) (Or.inl ⟨by kernel_rfl, fun W _ => by go_simp⟩) hS ?_
      refine wpAnyH_done (by kernel_rfl) ?_ _
      go_simp
      go_wp2
      go_roundw
      case rel => exact ⟨j + 1, by omega, by go_num, HX.out⟩
      case measure => simp [intOf]; omega
    · have hjj : j = l.length := by omega
      subst hjj
      have HX := Lib.hid hx; clear hx
      go_wp2
      go_ret
      exact ⟨rfl, HX.out⟩

set_option maxRecDepth 100000 in
theorem Bits_c (x : Nat) (w : World) : Calls Tryz.prog 23 #[.float .f64 x] w fun e w' => e = .returned (.int .u64 x) ∧ w = w' := by
  have hb := run_bits x
  go_enter Tryz.func23, Tryz.ntmps23
  go_wp2
  go_ret
  exact ⟨rfl, rfl⟩
end Go.Proofs.YtpopnmelcplbbaaGreat
