/-
  Package crc, and the reference's sum.
-/
import Derived.Test.YtpopnmelcplbbaaGreatGMay
import Derived.Test.YtpopnmelcplbbaaGreatGBase
set_option linter.unusedVariables false
set_option linter.unusedSimpArgs false
namespace Go.Proofs.YtpopnmelcplbbaaGreat
open Go.RowKit

def sh1 (c : Int) : Int := if bits .and .u16 c 32768 != 0 then bits .xor .u16 (IntKind.u16.wrap (c * 2)) 4129 else IntKind.u16.wrap (c * 2)
def shN : Nat → Int → Int
  | 0, c => c
  | k + 1, c => sh1 (shN k c)
def rowC (i : Nat) : Int := shN 4 ((i : Int) * 4096)
def rowsUpto (k : Nat) : List Value := (List.range 16).map fun j => .int .u16 (if j < k then rowC j else 0)

theorem rows_len (k : Nat) : (rowsUpto k).length = 16 := by simp [rowsUpto]

theorem rows_at (k j : Nat) (hj : j < 16) : (rowsUpto k)[j]? = some (.int .u16 (if j < k then rowC j else 0)) := by
  simp [rowsUpto, hj]
theorem rows_set (w : World) (B k : Nat) (hk : k < 16) (h : w.rangeAt B 0 (rowsUpto k)) : (w.setCell ⟨B, k, none⟩ (.int .u16 (rowC k))).rangeAt B 0 (rowsUpto (k + 1)) := by
  intro j v hv
  have hj : j < 16 := by have := (List.getElem?_eq_some_iff.1 hv).1; rwa [rows_len] at this
  rw [rows_at _ _ hj] at hv
  rw [Nat.zero_add]
  by_cases e : j = k
  · subst e
    rw [if_pos (by omega)] at hv
    cases hv
    have := h j _ (rows_at j j hj)
    rw [Nat.zero_add] at this
    exact World.cell?_setCell_same _ _ _ this
  · have := h j _ (rows_at k j hj)
    rw [Nat.zero_add] at this
    rw [World.cell?_setCell_other _ _ _ _ (by intro h; injection h with _ h2; exact e h2.symm), this, ← hv]
    by_cases h1 : j < k
    · rw [if_pos h1, if_pos (by omega)]
    · rw [if_neg h1, if_neg (by omega)]
theorem there_set {w : World} {B o n : Nat} (h : w.there B o n) (a : Addr) (v : Value) : (w.setCell a v).there B o n := fun j hj => by
  have h1 := h j hj
  refine ⟨?_, by rw [World.frozen?_setCell]; exact h1.2⟩
  obtain ⟨u, hu⟩ := Option.isSome_iff_exists.1 h1.1
  by_cases e : a = ⟨B, o + j, none⟩
  · subst e; rw [World.cell?_setCell_same _ _ _ hu]; rfl
  · rw [World.cell?_setCell_other _ _ _ _ e, hu]; rfl
theorem there_new (w : World) (cs : Array Value) (t : TypeId) (n : Nat) (hn : n ≤ cs.size) : (w.alloc (.cells cs t)).there w.heap.size 0 n := fun j hj => by
  rw [Nat.zero_add]
  exact ⟨by rw [World.cell?_alloc_at _ _ _ _ rfl, Array.getElem?_eq_getElem (by omega)]; rfl, World.frozen?_alloc_at _ _ _ _ rfl⟩

set_option maxHeartbeats 1000000 in
theorem rows_c (w : World) : Calls Tryz.prog 107 #[] w (Ret w (.agg (rowsUpto 16).toArray)) := by
  go_enter Tryz.func107, Tryz.ntmps107
  go_wp2
  go_loopw [4] (fun i wr => ∃ k : Nat, k ≤ 16 ∧ i = .int .i64 k ∧ Ext w wr ∧ wr.rangeAt (w.heap.size + 1) 0 (rowsUpto k) ∧ wr.there (w.heap.size + 1) 0 16 ∧ wr.there w.heap.size 0 16) (fun i _ => 16 - (intOf i).toNat)
  case atStart =>
    refine ⟨0, by omega, rfl, ((Ext.refl _).alloc _).alloc _, ?_, ?_, ?_⟩
    · intro j v hv
      rw [Nat.zero_add]
      refine (World.cell?_alloc_at _ _ _ _ (by simp)).trans ?_
      have hj : j < 16 := by have := (List.getElem?_eq_some_iff.1 hv).1; rwa [rows_len] at this
      have : j = 0 ∨ j = 1 ∨ j = 2 ∨ j = 3 ∨ j = 4 ∨ j = 5 ∨ j = 6 ∨ j = 7 ∨ j = 8 ∨ j = 9 ∨ j = 10 ∨ j = 11 ∨ j = 12 ∨ j = 13 ∨ j = 14 ∨ j = 15 := by omega
      rcases this with rfl | rfl | rfl | rfl | rfl | rfl | rfl | rfl | rfl | rfl | rfl | rfl | rfl | rfl | rfl | rfl <;> exact hv
    · have := there_new (w.alloc (.cells #[.int .u16 0, .int .u16 0, .int .u16 0, .int .u16 0, .int .u16 0, .int .u16 0, .int .u16 0, .int .u16 0, .int .u16 0, .int .u16 0, .int .u16 0, .int .u16 0, .int .u16 0, .int .u16 0, .int .u16 0, .int .u16 0] 134)) #[.int .u16 0, .int .u16 0, .int .u16 0, .int .u16 0, .int .u16 0, .int .u16 0, .int .u16 0, .int .u16 0, .int .u16 0, .int .u16 0, .int .u16 0, .int .u16 0, .int .u16 0, .int .u16 0, .int .u16 0, .int .u16 0] 134 16 (by simp)
      simpa using this
    · exact World.there_alloc (there_new w _ _ 16 (by simp)) _
  case round =>
    obtain ⟨k, hk, rfl, hx, hr, ht1, ht0⟩ := hrel
    by_cases hlt : k < 16
    · have hs := ht1 k hlt
      obtain ⟨u, hu⟩ := Option.isSome_iff_exists.1 hs.1
      have hf := hs.2
      rw [Nat.zero_add] at hu hf
      have hr' := rows_set wr _ k hlt hr
      have HR := Lib.hid hr'; clear hr' hr
      have HT1 := Lib.hid ht1; clear ht1
      have HT0 := Lib.hid ht0; clear ht0
      clear hs
      go_wp2
      go_loop [10, 3] (fun i c => ∃ m : Nat, m ≤ 4 ∧ i = .int .i64 m ∧ c = .int .u16 (shN m ((k : Int) * 4096))) (fun i _ => 4 - (intOf i).toNat)
      case atStart => exact ⟨0, by omega, rfl, rfl⟩
      case round =>
        obtain ⟨m, hm, rfl, rfl⟩ := hrel
        by_cases hlm : m < 4
        · generalize hc : shN m ((k : Int) * 4096) = c
          have hs1 : shN (m + 1) ((k : Int) * 4096) = sh1 c := by rw [shN, hc]
          have HC := Lib.hid hc; clear hc
          have HS := Lib.hid hs1; clear hs1
          cases hb : (bits .and .u16 c 32768 != 0)
          · have hs2 : sh1 c = IntKind.u16.wrap (c * 2) := by unfold sh1; rw [hb]; rfl
            have HS2 := Lib.hid hs2; clear hs2
            go_wp2
            go_round
            case rel => exact ⟨m + 1, by omega, by go_num, by rw [HS.out, HS2.out]⟩
            case measure => simp [intOf]; omega
          · have hs2 : sh1 c = bits .xor .u16 (IntKind.u16.wrap (c * 2)) 4129 := by unfold sh1; rw [hb]; rfl
            have HS2 := Lib.hid hs2; clear hs2
            go_wp2
            go_round
            case rel => exact ⟨m + 1, by omega, by go_num, by rw [HS.out, HS2.out]⟩
            case measure => simp [intOf]; omega
        · have hm4 : shN m ((k : Int) * 4096) = rowC k := by rw [show m = 4 by omega]; rfl
          rw [hm4]
          clear hm4
          go_wp2
          go_roundw
          case rel => exact ⟨k + 1, by omega, by go_num, hx.set (by simp) _, HR.out, there_set HT1.out _ _, there_set HT0.out _ _⟩
          case measure => simp [intOf]; omega
    · have hk16 : k = 16 := by omega
      subst hk16
      have HR := Lib.hid hr; clear hr
      have hsz : (rowsUpto 16).toArray.size = 16 := by rw [List.size_toArray, rows_len]
      have ht0' : wr.there w.heap.size 0 (rowsUpto 16).toArray.size := by rw [hsz]; exact ht0
      have hi : (Tryz.prog.info? 134).map (·.size) = some (rowsUpto 16).toArray.size := by rw [hsz]; kernel_rfl
      have hi' : (Tryz.prog.info? 134).map (·.size) = some (rowsUpto 16).length := by rw [rows_len]; kernel_rfl
      have h1 : (rowsUpto 16).toArray.all (·.oneCell') = true := all_oneCell_toArray (by intro v hv; simp only [rowsUpto, List.mem_map] at hv; obtain ⟨j, _, rfl⟩ := hv; rfl)
      have hr2 := World.rangeAt_setCells_same wr w.heap.size 0 (rowsUpto 16) (by rw [rows_len]; exact ht0)
      have hx2 : Ext w (wr.setCells w.heap.size 0 (rowsUpto 16)) := hx.setCells (Nat.le_refl _) _ _
      have HT0 := Lib.hid ht0'; clear ht0 ht0' hsz
      have HI := Lib.hid hi; clear hi
      have HI' := Lib.hid hi'; clear hi'
      have H1 := Lib.hid h1; clear h1
      have HR2 := Lib.hid hr2; clear hr2
      clear ht1
      go_wp2_with (first
        | (refine wpList_load_mid rfl 134 _ rfl _ _ rfl _ _ HR.out Tryz.underlying134 rfl HI'.out ?_)
        | (refine wpList_store_mid rfl 134 _ _ rfl w.heap.size 0 (rowsUpto 16).toArray rfl rfl HT0.out HI.out H1.out ?_))
      exact bodyPost_ret (results_agg rfl _ _ _ _ rfl _ _ HR2.out Tryz.underlying134 rfl HI'.out) rfl ⟨rfl, hx2⟩

/-! ### Add, Of -/
def rowVal (i : Nat) : Int := rowC i
def half (c : Int) : Int := bits .xor .u16 (IntKind.u16.wrap (c * 16)) (rowC (c / 4096).toNat)
def crcStep (c : Int) (x : UInt8) : Int := half (half (bits .xor .u16 c (x.toNat * 256)))
def crcFrom (c : Int) (l : List UInt8) : Int := l.foldl crcStep c
def bytes8 (l : List UInt8) : List Value := l.map fun x => .int .u8 x.toNat
theorem bytes8_get (l : List UInt8) (k : Nat) (h : k < l.length) : (bytes8 l)[k]? = some (.int .u8 (l[k].toNat : Int)) := by simp [bytes8, h]

theorem half_lo (c : Int) : 0 ≤ half c := bits_u16_lo _ _ _
theorem half_hi (c : Int) : half c < 65536 := bits_u16_hi _ _ _
theorem crcFrom_bd (c : Int) (h0 : 0 ≤ c) (h1 : c < 65536) (l : List UInt8) : 0 ≤ crcFrom c l ∧ crcFrom c l < 65536 := by
  induction l generalizing c with
  | nil => exact ⟨h0, h1⟩
  | cons x l ih => exact ih _ (half_lo _) (half_hi _)
theorem crcFrom_snoc (c : Int) (l : List UInt8) (k : Nat) (h : k < l.length) : crcFrom c (l.take (k + 1)) = crcStep (crcFrom c (l.take k)) l[k] := by
  rw [List.take_succ_eq_append_getElem h]; unfold crcFrom; rw [List.foldl_append]; rfl

set_option maxHeartbeats 1000000 in
set_option maxRecDepth 100000 in
theorem Add_crc (w : World) (c : Int) (h0 : 0 ≤ c) (h1 : c < 65536) (v : Value) (l : List UInt8) (hv : RowIn w v l.length (bytes8 l)) (hl : l.length ≤ 4611686018427387904) :
    Calls Tryz.prog 69 #[.int .u16 c, v] w (Ret w (.int .u16 (crcFrom c l))) := by
  obtain ⟨a, cp, rfl, hrow⟩ := hv
  have hsz : (rowsUpto 16).toArray.size = 16 := by rw [List.size_toArray, rows_len]
  have hi : (Tryz.prog.info? 134).map (·.size) = some (rowsUpto 16).toArray.size := by rw [hsz]; kernel_rfl
  have ho : (rowsUpto 16).toArray.all (·.oneCell') = true := all_oneCell_toArray (by intro v hv; simp only [rowsUpto, List.mem_map] at hv; obtain ⟨j, _, rfl⟩ := hv; rfl)
  have HI := Lib.hid hi; clear hi
  have HO := Lib.hid ho; clear ho
  have HS := Lib.hid hsz; clear hsz
  go_enter Tryz.func69, Tryz.ntmps69
  go_wp2_with fail
  refine (rows_c _).mono ?_
  rintro e w1 ⟨rfl, hx1⟩
  go_wp2_with (refine wpList_store_new 134 _ _ rfl rfl _ _ _ rfl _ rfl rfl rfl HI.out HS.out.symm HO.out ?_)
  have hx2 : Ext w (w1.alloc (.cells (rowsUpto 16).toArray 134)) := hx1.alloc _
  obtain ⟨W, hW⟩ : ∃ W, w1.alloc (.cells (rowsUpto 16).toArray 134) = W := ⟨_, rfl⟩
  have hrow2 : ∀ j, j < 16 → W.cell? ⟨w1.heap.size, j, none⟩ = some (.int .u16 (rowC j)) := fun j hj => by
    rw [← hW, World.cell?_alloc_at _ _ _ _ rfl]
    have := rows_at 16 j hj
    rw [if_pos hj] at this
    simpa using this
  rw [hW] at hx2 ⊢
  generalize w1.heap.size = B at hrow2 ⊢
  clear hW hx1
  go_loop [0, 11] (fun c' i => ∃ k : Nat, k ≤ l.length ∧ i = .int .i64 k ∧ c' = .int .u16 (crcFrom c (l.take k))) (fun _ i => l.length - (intOf i).toNat)
  case atStart => exact ⟨0, Nat.zero_le _, rfl, rfl⟩
  case round =>
    obtain ⟨k, hk, rfl, rfl⟩ := hrel
    by_cases hlt : k < l.length
    · rcases hrow with ⟨h0, _⟩ | ⟨b, off, rfl, hb, hc⟩
      · omega
      have hcell := (hx2.cell (p := ⟨b, off + k, none⟩) hb).trans (hc k _ (bytes8_get l k hlt))
      have hbd := crcFrom_bd c h0 h1 (l.take k)
      have hst := crcFrom_snoc c l k hlt
      have hxb : (l[k].toNat : Int) ≤ 255 := by have := l[k].toNat_lt; omega
      generalize l[k] = x at hcell hst hxb
      generalize crcFrom c (l.take k) = y at hbd hst
      obtain ⟨hy0, hy1⟩ := hbd
      -- the two looks into the table
      have z1a := bits_u16_lo .xor y ((x.toNat : Int) * 256)
      have z1b := bits_u16_hi .xor y ((x.toNat : Int) * 256)
      have hs1 : crcStep y x = half (half (bits .xor .u16 y ((x.toNat : Int) * 256))) := rfl
      have q1 := hrow2 ((bits .xor .u16 y ((x.toNat : Int) * 256)) / 4096).toNat (by omega)
      have z2a := half_lo (bits .xor .u16 y ((x.toNat : Int) * 256))
      have z2b := half_hi (bits .xor .u16 y ((x.toNat : Int) * 256))
      have q2 := hrow2 (half (bits .xor .u16 y ((x.toNat : Int) * 256)) / 4096).toNat (by omega)
      unfold half at q2 z2a z2b
      have HS1 := Lib.hid hs1; clear hs1
      have HST := Lib.hid hst; clear hst
      clear hc hrow2
      go_wp2
      go_round
      case rel => exact ⟨k + 1, by omega, by go_num, by rw [HST.out, HS1.out]; rfl⟩
      case measure => simp [intOf]; omega
    · have hk' : l.take k = l := List.take_of_length_le (by omega)
      rw [hk']
      clear hk' hrow2
      go_wp2
      go_ret
      exact ⟨rfl, hx2⟩

theorem Of_crc (w : World) (v : Value) (l : List UInt8) (hv : RowIn w v l.length (bytes8 l)) (hl : l.length ≤ 4611686018427387904) :
    Calls Tryz.prog 20 #[v] w (Ret w (.int .u16 (crcFrom 65535 l))) := by
  have hc := Add_crc w 65535 (by omega) (by omega) v l hv hl
  obtain ⟨a, cp, rfl, _⟩ := hv
  have H := Lib.hid hc; clear hc
  go_enter Tryz.func20, Tryz.ntmps20
  go_wp2_with fail
  refine H.out.mono ?_
  rintro e w1 ⟨rfl, hx⟩
  clear H
  go_wp2
  go_ret
  exact ⟨rfl, hx⟩
end Go.Proofs.YtpopnmelcplbbaaGreat
