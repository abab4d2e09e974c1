/-
  check: first, and the closures of Check.
-/
import Derived.Test.YtpopnmelcplbbaaGreatRings
set_option linter.unusedVariables false
set_option linter.unusedSimpArgs false
namespace Go.Proofs.YtpopnmelcplbbaaGreat
open Go.RowKit

def firstS (code : Int) (n : Nat) (wg : Nat → Bool) : Int × Int := match (List.range n).find? wg with
  | some i => (code, (i : Int))
  | none => (0, 0)
theorem firstS_at (code : Int) (n : Nat) (wg : Nat → Bool) (k : Nat) (hk : k < n) (h : wg k = true) (hn : ∀ j, j < k → wg j = false) : firstS code n wg = (code, (k : Int)) := by
  unfold firstS
  have : (List.range n).find? wg = some k := by
    rw [List.find?_range_eq_some]
    exact ⟨h, by simpa using hk, fun j hj => by simp [hn j hj]⟩
  rw [this]
theorem firstS_none (code : Int) (n : Nat) (wg : Nat → Bool) (hn : ∀ j, j < n → wg j = false) : firstS code n wg = (0, 0) := by
  unfold firstS
  have : (List.range n).find? wg = none := by
    rw [List.find?_eq_none]
    intro x hx
    rw [hn x (List.mem_range.1 hx)]; simp
  rw [this]

set_option maxHeartbeats 400000 in
theorem first_c (w : World) (code : Int) (n : Nat) (hn : n ≤ 1000000) (f : FuncId) (caps : Array Value) (hE : Enters f) (wg : Nat → Bool)
    (hC : ∀ i, i < n → ∀ w1, Ext w w1 → Calls Tryz.prog f (#[.int .i64 i] ++ caps) w1 (Ret w1 (.bool (wg i)))) :
    Calls Tryz.prog 37 #[.int .i64 code, .int .i64 n, .func (.func f) #[] caps] w (Ret w (faultA (firstS code n wg))) := by
  have hO := Own0.made (Ext.refl w) [.int .i64 0, .int .i64 0] 37
  have HIN := Lib.hid (show (Tryz.prog.info? 37).map (·.size) = some 2 by kernel_rfl)
  have HON := fun (c a : Int) => Lib.hid (show (#[.int .i64 c, .int .i64 a] : Array Value).all (·.oneCell') = true by simp [Value.oneCell'])
  have HO := Lib.hid hO; clear hO
  have HCC := Lib.hid hC; clear hC
  unfold Enters at hE
  go_enter Tryz.func37, Tryz.ntmps37
  go_wp2
  go_loopw [9] (fun i wg' => ∃ k : Nat, k ≤ n ∧ i = .int .i64 k ∧ Own0 w wg' w.heap.size [.int .i64 0, .int .i64 0] ∧ Hid (∀ j, j < k → wg j = false)) (fun i _ => n - (intOf i).toNat)
  case atStart => exact ⟨0, Nat.zero_le _, rfl, HO.out, Lib.hid fun _ h => absurd h (by omega)⟩
  case round =>
    obtain ⟨k, hk, rfl, hO, HNO⟩ := hrel
    have HOw := Lib.hid hO; clear hO
    by_cases hlt : k < n
    · have hcall := HCC.out k hlt _ HOw.out.x
      have H := Lib.hid hcall; clear hcall
      go_wp2_with fail
      refine H.out.mono ?_
      rintro e w2 ⟨rfl, hx2⟩
      have HO2 := Lib.hid (HOw.out.ext hx2)
      clear H hx2 HOw
      cases hp : wg k with
      | true =>
        have HF := Lib.hid (firstS_at code n wg k hlt hp HNO.out)
        clear hp HNO
        go_wp2_with (first
          | (go_at_call 35; refine (bad_c code (k : Int) _).mono ?_; unfold faultA; rintro e wb ⟨rfl, hxb⟩; have hOb := HO2.out.ext hxb; have HTH := Lib.hid (hOb.there 0 2 (by simp)); have HOE := Lib.hid (hOb.all (faultC (code, (k : Int))) rfl); clear hOb hxb)
          | ((with_reducible refine atStore 37 rfl ?_); refine wpList_store_mid rfl 37 _ _ rfl w.heap.size 0 _ rfl rfl HTH.out HIN.out (HON _ _).out (halt ?_)))
        unfold Halt
        go_wp2
        exact bodyPost_ret (results_agg rfl _ _ _ _ rfl _ _ HOE.out.range Tryz.underlying37 rfl (by kernel_rfl)) rfl ⟨by rw [HF.out]; rfl, HOE.out.x⟩
      | false =>
        have HN := Lib.hid (show ∀ j, j < k + 1 → wg j = false from fun j hj => by
          by_cases e : j = k
          · subst e; exact hp
          · exact HNO.out j (by omega))
        clear hp HNO
        go_wp2
        go_roundw
        case rel => exact ⟨k + 1, by omega, by go_num, HO2.out, HN⟩
        case measure => simp [intOf]; omega
    · have HF := Lib.hid (firstS_none code n wg (fun j hj => HNO.out j (by omega)))
      clear HNO
      go_wp2_with (first
        | (go_at_call 58; refine (none_c _).mono ?_; unfold faultA; rintro e wb ⟨rfl, hxb⟩; have hOb := HOw.out.ext hxb; have HTH := Lib.hid (hOb.there 0 2 (by simp)); have HOE := Lib.hid (hOb.all (faultC (0, 0)) rfl); clear hOb hxb)
        | ((with_reducible refine atStore 37 rfl ?_); refine wpList_store_mid rfl 37 _ _ rfl w.heap.size 0 _ rfl rfl HTH.out HIN.out (HON _ _).out (halt ?_)))
      unfold Halt
      go_wp2
      exact bodyPost_ret (results_agg rfl _ _ _ _ rfl _ _ HOE.out.range Tryz.underlying37 rfl (by kernel_rfl)) rfl ⟨by rw [HF.out]; rfl, HOE.out.x⟩
end Go.Proofs.YtpopnmelcplbbaaGreat
