/-
  check.Check.
-/
import Derived.Laws.EntriesVeiled
import Derived.Test.YtpopnmelcplbbaaGreatGClosB
import Derived.Test.YtpopnmelcplbbaaGreatGHand
import Derived.Test.YtpopnmelcplbbaaGreatGMay
import Derived.Test.YtpopnmelcplbbaaGreatPlan
set_option linter.unusedVariables false
set_option linter.unusedSimpArgs false
namespace Go.Proofs.YtpopnmelcplbbaaGreat
open Go.RowKit

theorem run_neq_fault (W : World) (c a : Int) (h : ¬ (c = 0 ∧ a = 0)) : (do eqGuard .neq 37 (.tmp 30) (.tmp 31) (.agg #[.int .i64 c, .int .i64 a]) (.agg #[.int .i64 0, .int .i64 0]); binOp .neq 37 (.agg #[.int .i64 c, .int .i64 a]) (.agg #[.int .i64 0, .int .i64 0]) : Sem Value).run Tryz.prog W = .ok (.bool true) W := by
  go_simp
  intro h1 h2
  exact h ⟨h1, h2⟩

def checkL : List (Int × Int) → Int × Int
  | [] => (0, 0)
  | f :: fs => if f = (0, 0) then checkL fs else f
def rulesS (t : Tab) (on : Int) : List (Int × Int) :=
  [phasesS 7 on (fun p => phaseBad (t.ph p)), ringsS t on, phasesS 9 on (fun p => conflictS t on p), firstS 10 t.dets.length (fun i => detBad on (t.dets.getD i default)),
   firstS 11 t.rails.length (fun i => railBad t on (t.rails.getD i default)), firstS 12 t.buses.length (fun i => busBad on (t.buses.getD i default)), phasesS 13 on (fun p => flashS t on p)]
def checkS (t : Tab) : Int × Int := if mayOk t then checkL (rulesS t (onS t)) else (4, 0)

set_option maxRecDepth 100000 in
set_option maxHeartbeats 4000000 in
theorem Check_c (w : World) (gv dv rv bv : Value) (t : Tab) (hT : TabAt w gv dv rv bv t) : Calls Tryz.prog 11 #[tabV t gv dv rv bv] w (Ret w (faultA (checkS t))) := by
  have hmf := make_func
  have hx0 := ((Ext.refl w).alloc (.cells (t.cells gv dv rv bv).toArray 34)).alloc (.cells #[.int .i64 0, .int .i64 0] 37)
  have hTB := (TB.new w t gv dv rv bv 34).ext ((Ext.refl _).alloc (.cells #[.int .i64 0, .int .i64 0] 37))
  have hO := Own0.made ((Ext.refl w).alloc (.cells (t.cells gv dv rv bv).toArray 34)) [.int .i64 0, .int .i64 0] 37
  rw [World.size_alloc] at hO
  have hmay := May_c _ gv dv rv bv t (hT.ext hx0)
  have hon := fun W => On_c W gv dv rv bv t
  have hs := table_size t gv dv rv bv
  have HIN := Lib.hid (show (Tryz.prog.info? 37).map (·.size) = some 2 by kernel_rfl)
  have HON := fun (c a : Int) => Lib.hid (show (#[.int .i64 c, .int .i64 a] : Array Value).all (·.oneCell') = true by simp [Value.oneCell'])
  have hrg := fun W (e : Ext ((w.alloc (.cells (t.cells gv dv rv bv).toArray 34)).alloc (.cells #[.int .i64 0, .int .i64 0] 37)) W) => (hTB.ext e).range
  have htb := fun W (e : Ext ((w.alloc (.cells (t.cells gv dv rv bv).toArray 34)).alloc (.cells #[.int .i64 0, .int .i64 0] 37)) W) => hTB.ext e
  have hta := fun W (e : Ext w W) => hT.ext e
  unfold checkS
  unfold tabV at hmay hon ⊢
  obtain ⟨C, hC⟩ : ∃ C, C = t.cells gv dv rv bv := ⟨_, rfl⟩
  rw [← hC] at hx0 hO hmay hon hs hrg htb ⊢
  have HCC := Lib.hid hC; clear hC hTB
  have HM := Lib.hid hmay; clear hmay
  have HONN := Lib.hid hon; clear hon
  have HS := Lib.hid hs; clear hs
  have HRG := Lib.hid hrg; clear hrg
  have HTB := Lib.hid htb; clear htb
  have HTA := Lib.hid hta; clear hta
  have HO := Lib.hid hO; clear hO
  have HX := Lib.hid hx0; clear hx0
  have HG0 := Lib.hid (HRG.out _ (Ext.refl _))
  have hm := HM.out
  clear HM
  cases hmk : mayOk t with
  | false =>
    rw [hmk] at hm
    have HM := Lib.hid hm; clear hm hmk
    go_enter Tryz.func11, Tryz.ntmps11
    go_wp2_with ((with_reducible refine atLoad 34 rfl ?_); refine wpList_load_mid rfl 34 _ rfl _ _ rfl _ _ HG0.out Tryz.underlying34 rfl HS.out ?_)
    refine HM.out.mono ?_
    rintro e w1 ⟨rfl, hx1⟩
    have HO1 := Lib.hid (HO.out.ext hx1)
    clear hx1 HO
    go_wp2_with (first
      | (go_at_call 35; refine (bad_c 4 0 _).mono ?_; unfold faultA; rintro e wb ⟨rfl, hxb⟩; have hOb := HO1.out.ext hxb; have HTH := Lib.hid (hOb.there 0 2 (by simp)); have HOE := Lib.hid (hOb.all (faultC (4, 0)) rfl); clear hOb hxb)
      | ((with_reducible refine atStore 37 rfl ?_); refine wpList_store_mid rfl 37 _ _ rfl (w.heap.size + 1) 0 _ rfl rfl HTH.out HIN.out (HON _ _).out (halt ?_)))
    unfold Halt
    go_wp2
    exact bodyPost_ret (results_agg rfl _ _ _ _ rfl _ _ HOE.out.range Tryz.underlying37 rfl (by kernel_rfl)) rfl ⟨by simp [faultA, faultC], HOE.out.x⟩
  | true =>
    rw [hmk] at hm
    have HM := Lib.hid hm; clear hm hmk
    rw [if_pos rfl]
    obtain ⟨r, hr⟩ : ∃ r, checkL (rulesS t (onS t)) = r := ⟨_, rfl⟩
    rw [hr]
    have HRR := Lib.hid hr; clear hr
    go_enter Tryz.func11, Tryz.ntmps11
    go_wp2_with ((with_reducible refine atLoad 34 rfl ?_); refine wpList_load_mid rfl 34 _ rfl _ _ rfl _ _ HG0.out Tryz.underlying34 rfl HS.out ?_)
    refine HM.out.mono ?_
    rintro e w1 ⟨rfl, hx1⟩
    have HY1 := Lib.hid hx1
    have HX1 := Lib.hid (HX.out.trans hx1)
    have HO1 := Lib.hid (HO.out.ext hx1)
    have HG1 := Lib.hid (HRG.out _ hx1)
    clear hx1 HO HM HG0
    go_wp2_with ((with_reducible refine atLoad 34 rfl ?_); refine wpList_load_mid rfl 34 _ rfl _ _ rfl _ _ HG1.out Tryz.underlying34 rfl HS.out ?_)
    refine (HONN.out _).mono ?_
    rintro e w2 ⟨rfl, hx2⟩
    have HY2 := Lib.hid (HY1.out.trans hx2)
    have HX2 := Lib.hid (HX1.out.trans hx2)
    have HO2 := Lib.hid (HO1.out.ext hx2)
    clear hx2 HO1 HX1 HY1 HG1
    obtain ⟨on, hon⟩ : ∃ on, onS t = on := ⟨_, rfl⟩
    have hrr := HRR.out
    rw [hon] at hrr
    try rw [hon]
    clear HRR
    have HRR := Lib.hid hrr; clear hrr hon
    have e1 := (Ext.refl w2).alloc (.cells #[.int .i64 on] 3)
    have e2 := e1.alloc (.cells #[.func (.func 36) #[] #[.pointer (some ⟨w2.heap.size, 0, none⟩)]] 93)
    have HO3 := Lib.hid (HO2.out.ext (e2.alloc (.cells #[.func (.func 40) #[] #[.pointer (some ⟨(w2.heap.size + 1), 0, none⟩), .pointer (some ⟨w.heap.size, 0, none⟩)], .func (.func 43) #[] #[.pointer (some ⟨w.heap.size, 0, none⟩), .pointer (some ⟨w2.heap.size, 0, none⟩)], .func (.func 45) #[] #[.pointer (some ⟨(w2.heap.size + 1), 0, none⟩), .pointer (some ⟨w.heap.size, 0, none⟩), .pointer (some ⟨w2.heap.size, 0, none⟩)], .func (.func 48) #[] #[.pointer (some ⟨w.heap.size, 0, none⟩), .pointer (some ⟨w2.heap.size, 0, none⟩)], .func (.func 50) #[] #[.pointer (some ⟨w.heap.size, 0, none⟩), .pointer (some ⟨w2.heap.size, 0, none⟩)], .func (.func 53) #[] #[.pointer (some ⟨w.heap.size, 0, none⟩), .pointer (some ⟨w2.heap.size, 0, none⟩)], .func (.func 55) #[] #[.pointer (some ⟨(w2.heap.size + 1), 0, none⟩), .pointer (some ⟨w.heap.size, 0, none⟩), .pointer (some ⟨w2.heap.size, 0, none⟩)]] 99)))
    have hen : Env (((w2.alloc (.cells #[.int .i64 on] 3)).alloc (.cells #[.func (.func 36) #[] #[.pointer (some ⟨w2.heap.size, 0, none⟩)]] 93)).alloc (.cells #[.func (.func 40) #[] #[.pointer (some ⟨(w2.heap.size + 1), 0, none⟩), .pointer (some ⟨w.heap.size, 0, none⟩)], .func (.func 43) #[] #[.pointer (some ⟨w.heap.size, 0, none⟩), .pointer (some ⟨w2.heap.size, 0, none⟩)], .func (.func 45) #[] #[.pointer (some ⟨(w2.heap.size + 1), 0, none⟩), .pointer (some ⟨w.heap.size, 0, none⟩), .pointer (some ⟨w2.heap.size, 0, none⟩)], .func (.func 48) #[] #[.pointer (some ⟨w.heap.size, 0, none⟩), .pointer (some ⟨w2.heap.size, 0, none⟩)], .func (.func 50) #[] #[.pointer (some ⟨w.heap.size, 0, none⟩), .pointer (some ⟨w2.heap.size, 0, none⟩)], .func (.func 53) #[] #[.pointer (some ⟨w.heap.size, 0, none⟩), .pointer (some ⟨w2.heap.size, 0, none⟩)], .func (.func 55) #[] #[.pointer (some ⟨(w2.heap.size + 1), 0, none⟩), .pointer (some ⟨w.heap.size, 0, none⟩), .pointer (some ⟨w2.heap.size, 0, none⟩)]] 99)) w.heap.size w2.heap.size (w2.heap.size + 1) t gv dv rv bv on := by
      refine Env.ext ⟨?_, ?_, ?_, ?_⟩ ((Ext.refl _).alloc (.cells #[.func (.func 40) #[] #[.pointer (some ⟨(w2.heap.size + 1), 0, none⟩), .pointer (some ⟨w.heap.size, 0, none⟩)], .func (.func 43) #[] #[.pointer (some ⟨w.heap.size, 0, none⟩), .pointer (some ⟨w2.heap.size, 0, none⟩)], .func (.func 45) #[] #[.pointer (some ⟨(w2.heap.size + 1), 0, none⟩), .pointer (some ⟨w.heap.size, 0, none⟩), .pointer (some ⟨w2.heap.size, 0, none⟩)], .func (.func 48) #[] #[.pointer (some ⟨w.heap.size, 0, none⟩), .pointer (some ⟨w2.heap.size, 0, none⟩)], .func (.func 50) #[] #[.pointer (some ⟨w.heap.size, 0, none⟩), .pointer (some ⟨w2.heap.size, 0, none⟩)], .func (.func 53) #[] #[.pointer (some ⟨w.heap.size, 0, none⟩), .pointer (some ⟨w2.heap.size, 0, none⟩)], .func (.func 55) #[] #[.pointer (some ⟨(w2.heap.size + 1), 0, none⟩), .pointer (some ⟨w.heap.size, 0, none⟩), .pointer (some ⟨w2.heap.size, 0, none⟩)]] 99))
      · exact HTB.out _ (HY2.out.trans e2)
      · exact HTA.out _ (HX2.out.trans e2)
      · refine (((Ext.refl _).alloc _).cell (p := ⟨w2.heap.size, 0, none⟩) (by simp)).trans ?_
        rw [World.cell?_alloc_at _ _ _ _ rfl]; rfl
      · rw [World.cell?_alloc_at _ _ _ _ (by simp)]; rfl
    have HEN := Lib.hid hen; clear hen e1 e2
    clear HO2 HX2 HY2 HX HRG HTB HTA
    go_wp2
    generalize hWE : ((w2.alloc (.cells #[.int .i64 on] 3)).alloc (.cells #[.func (.func 36) #[] #[.pointer (some ⟨w2.heap.size, 0, none⟩)]] 93)).alloc (.cells #[.func (.func 40) #[] #[.pointer (some ⟨(w2.heap.size + 1), 0, none⟩), .pointer (some ⟨w.heap.size, 0, none⟩)], .func (.func 43) #[] #[.pointer (some ⟨w.heap.size, 0, none⟩), .pointer (some ⟨w2.heap.size, 0, none⟩)], .func (.func 45) #[] #[.pointer (some ⟨(w2.heap.size + 1), 0, none⟩), .pointer (some ⟨w.heap.size, 0, none⟩), .pointer (some ⟨w2.heap.size, 0, none⟩)], .func (.func 48) #[] #[.pointer (some ⟨w.heap.size, 0, none⟩), .pointer (some ⟨w2.heap.size, 0, none⟩)], .func (.func 50) #[] #[.pointer (some ⟨w.heap.size, 0, none⟩), .pointer (some ⟨w2.heap.size, 0, none⟩)], .func (.func 53) #[] #[.pointer (some ⟨w.heap.size, 0, none⟩), .pointer (some ⟨w2.heap.size, 0, none⟩)], .func (.func 55) #[] #[.pointer (some ⟨(w2.heap.size + 1), 0, none⟩), .pointer (some ⟨w.heap.size, 0, none⟩), .pointer (some ⟨w2.heap.size, 0, none⟩)]] 99) = W0 at HO3 HEN ⊢
    clear hWE
    have HCK := Lib.hid (show checkL ((rulesS t on).drop 0) = r from HRR.out)
    go_loopw [25] (fun i wg => ∃ k : Nat, k ≤ 7 ∧ i = .int .i64 k ∧ Own0 w wg (w.heap.size + 1) [.int .i64 0, .int .i64 0] ∧ Env wg w.heap.size w2.heap.size (w2.heap.size + 1) t gv dv rv bv on ∧ Hid (checkL ((rulesS t on).drop k) = r)) (fun i _ => 7 - (intOf i).toNat)
    case atStart => exact ⟨0, Nat.zero_le _, rfl, HO3.out, HEN.out, HCK⟩
    case round =>
      obtain ⟨k, hk, rfl, hO, hE, HK⟩ := hrel
      have HOw := Lib.hid hO; clear hO
      have HEw := Lib.hid hE; clear hE
      have h7 : k = 0 ∨ k = 1 ∨ k = 2 ∨ k = 3 ∨ k = 4 ∨ k = 5 ∨ k = 6 ∨ k = 7 := by omega
      clear hk HCK HEN HO3
      rcases h7 with rfl | rfl | rfl | rfl | rfl | rfl | rfl | rfl
      · have hc := rule1 wr w.heap.size w2.heap.size (w2.heap.size + 1) t gv dv rv bv on HEw.out
        have hk2 := HK.out
        rw [show (rulesS t on).drop 0 = phasesS 7 on (fun p => phaseBad (t.ph p)) :: (rulesS t on).drop 1 from rfl, checkL] at hk2
        clear HK
        generalize phasesS 7 on (fun p => phaseBad (t.ph p)) = f at hc hk2
        have HC := Lib.hid hc; clear hc
        have HK := Lib.hid hk2; clear hk2
        have hix : ∀ w', (Instr.index 99 (.agg #[.func (.func 40) #[] #[.pointer (some ⟨(w2.heap.size + 1), 0, none⟩), .pointer (some ⟨w.heap.size, 0, none⟩)], .func (.func 43) #[] #[.pointer (some ⟨w.heap.size, 0, none⟩), .pointer (some ⟨w2.heap.size, 0, none⟩)], .func (.func 45) #[] #[.pointer (some ⟨(w2.heap.size + 1), 0, none⟩), .pointer (some ⟨w.heap.size, 0, none⟩), .pointer (some ⟨w2.heap.size, 0, none⟩)], .func (.func 48) #[] #[.pointer (some ⟨w.heap.size, 0, none⟩), .pointer (some ⟨w2.heap.size, 0, none⟩)], .func (.func 50) #[] #[.pointer (some ⟨w.heap.size, 0, none⟩), .pointer (some ⟨w2.heap.size, 0, none⟩)], .func (.func 53) #[] #[.pointer (some ⟨w.heap.size, 0, none⟩), .pointer (some ⟨w2.heap.size, 0, none⟩)], .func (.func 55) #[] #[.pointer (some ⟨(w2.heap.size + 1), 0, none⟩), .pointer (some ⟨w.heap.size, 0, none⟩), .pointer (some ⟨w2.heap.size, 0, none⟩)]]) (.int .i64 0)).run Tryz.prog w' = .ok (.func (.func 40) #[] #[.pointer (some ⟨(w2.heap.size + 1), 0, none⟩), .pointer (some ⟨w.heap.size, 0, none⟩)]) w' := fun _ => by kernel_rfl
        have hen : ∀ (args : Array Value) (w : World), (callFunc 40 args).run Tryz.prog w = .ok (.enter 40 args) w := fun args w => by kernel_rfl
        go_wp2_with fail
        refine HC.out.mono ?_
        clear hix hen HC
        unfold faultA
        obtain ⟨c, a⟩ := f
        dsimp only
        rintro e w3 ⟨rfl, hx3⟩
        have hx4 := (hx3.alloc (.cells #[.int .i64 c, .int .i64 a] 37)).drew
        have HO4 := Lib.hid (HOw.out.ext hx4)
        have HE4 := Lib.hid (HEw.out.ext hx4)
        have hP8 : (w3.alloc (.cells #[.int .i64 c, .int .i64 a] 37)).rangeAt w3.heap.size 0 [.int .i64 c, .int .i64 a] := rangeAt_new _ _ _
        have hsz4 : (w3.alloc (.cells #[.int .i64 c, .int .i64 a] 37)).heap.size = w3.heap.size + 1 := by simp
        clear hx4 hx3 HOw HEw
        go_wp2
        obtain ⟨P8, hP8e⟩ : ∃ P8, w3.heap.size = P8 := ⟨_, rfl⟩
        rw [hP8e] at hP8 hsz4 ⊢
        generalize w3.alloc (.cells #[.int .i64 c, .int .i64 a] 37) = W4 at hP8 hsz4 HO4 HE4 ⊢
        refine wp_region_held_drew (S := fun w' => w'.rangeAt P8 0 [.int .i64 c, .int .i64 a]) (by kernel_rfl) (by simpa using hP8) (fun hS => ?_)
        refine wpAnyH_take (i := 0) (oi := _) (v := .agg #[.int .i64 c, .int .i64 a]) rfl (by kernel_rfl) (by kernel_rfl) (by kernel_rfl) (fun _ _ _ h => h) (yieldsIf_load_mid (by kernel_rfl) 37 (.tmp 8) rfl P8 0 (by kernel_rfl) [.int .i64 c, .int .i64 a] _ (fun _ h => h) Tryz.underlying37 rfl (by kernel_rfl)) hS ?_
        refine wpAnyH_call (i := 1) (f := 58) (args := #[]) (v := .agg #[.int .i64 0, .int .i64 0]) (by kernel_rfl) rfl (by kernel_rfl) (by kernel_rfl) (none_c _) ?_
        unfold faultA
        rintro e w5 ⟨rfl, hx5⟩
        have hS5 : w5.rangeAt P8 0 [.int .i64 c, .int .i64 a] := rangeAt_ext hS hx5 (show P8 < W4.heap.size by omega)
        refine ⟨rfl, hS5, ?_⟩
        have HO5 := Lib.hid (HO4.out.ext hx5)
        have HE5 := Lib.hid (HE4.out.ext hx5)
        clear HO4 HE4 hx5 hS hP8 hsz4 hP8e
        by_cases hf : (c, a) = ((0 : Int), (0 : Int))
        · have hk3 := HK.out
          rw [if_pos hf] at hk3
          cases hf
          refine wpAnyH_take (i := 2) (oi := _) (v := .bool false) rfl (by kernel_rfl) (by kernel_rfl) (by kernel_rfl) (fun _ _ _ h => h) (Or.inl ⟨by kernel_rfl, fun _ _ => by kernel_rfl⟩) hS5 ?_
          refine wpAnyH_done (by kernel_rfl) ?_ _
          have HK3 := Lib.hid hk3; clear hk3 HK hS5
          go_simp
          go_wp2
          go_roundw
          case rel => exact ⟨1, by omega, by go_num, HO5.out, HE5.out, HK3⟩
          case measure => simp [intOf]
        · have hk3 := HK.out
          rw [if_neg hf] at hk3
          have hca : ¬ (c = 0 ∧ a = 0) := fun h => hf (by rw [h.1, h.2])
          refine wpAnyH_take (i := 2) (oi := _) (v := .bool true) rfl (by kernel_rfl) (by kernel_rfl) (by kernel_rfl) (fun _ _ _ h => h) (yields_v (do eqGuard .neq 37 (.tmp 30) (.tmp 31) (.agg #[.int .i64 c, .int .i64 a]) (.agg #[.int .i64 0, .int .i64 0]); binOp .neq 37 (.agg #[.int .i64 c, .int .i64 a]) (.agg #[.int .i64 0, .int .i64 0])) (by kernel_rfl) (by kernel_rfl) (fun W _ => run_neq_fault W c a hca)) hS5 ?_
          refine wpAnyH_done (by kernel_rfl) ?_ _
          have HK3 := Lib.hid hk3; clear hk3 HK hca hf
          have HTH := Lib.hid (HO5.out.there 0 2 (by simp))
          have HOE := Lib.hid (HO5.out.all (faultC (c, a)) rfl)
          have HR5 := Lib.hid hS5; clear hS5
          go_simp
          go_wp2_with (first
            | ((with_reducible refine atLoad 37 rfl ?_); refine wpList_load_mid rfl 37 _ rfl _ _ rfl _ _ HR5.out Tryz.underlying37 rfl HIN.out ?_)
            | ((with_reducible refine atStore 37 rfl ?_); refine wpList_store_mid rfl 37 _ _ rfl (w.heap.size + 1) 0 _ rfl rfl HTH.out HIN.out (HON _ _).out (halt ?_)))
          unfold Halt
          go_wp2
          exact bodyPost_ret (results_agg rfl _ _ _ _ rfl _ _ HOE.out.range Tryz.underlying37 rfl (by kernel_rfl)) rfl ⟨by rw [← HK3.out]; rfl, HOE.out.x⟩
      · have hc := rule2 wr w.heap.size w2.heap.size (w2.heap.size + 1) t gv dv rv bv on HEw.out
        have hk2 := HK.out
        rw [show (rulesS t on).drop 1 = ringsS t on :: (rulesS t on).drop 2 from rfl, checkL] at hk2
        clear HK
        generalize ringsS t on = f at hc hk2
        have HC := Lib.hid hc; clear hc
        have HK := Lib.hid hk2; clear hk2
        have hix : ∀ w', (Instr.index 99 (.agg #[.func (.func 40) #[] #[.pointer (some ⟨(w2.heap.size + 1), 0, none⟩), .pointer (some ⟨w.heap.size, 0, none⟩)], .func (.func 43) #[] #[.pointer (some ⟨w.heap.size, 0, none⟩), .pointer (some ⟨w2.heap.size, 0, none⟩)], .func (.func 45) #[] #[.pointer (some ⟨(w2.heap.size + 1), 0, none⟩), .pointer (some ⟨w.heap.size, 0, none⟩), .pointer (some ⟨w2.heap.size, 0, none⟩)], .func (.func 48) #[] #[.pointer (some ⟨w.heap.size, 0, none⟩), .pointer (some ⟨w2.heap.size, 0, none⟩)], .func (.func 50) #[] #[.pointer (some ⟨w.heap.size, 0, none⟩), .pointer (some ⟨w2.heap.size, 0, none⟩)], .func (.func 53) #[] #[.pointer (some ⟨w.heap.size, 0, none⟩), .pointer (some ⟨w2.heap.size, 0, none⟩)], .func (.func 55) #[] #[.pointer (some ⟨(w2.heap.size + 1), 0, none⟩), .pointer (some ⟨w.heap.size, 0, none⟩), .pointer (some ⟨w2.heap.size, 0, none⟩)]]) (.int .i64 1)).run Tryz.prog w' = .ok (.func (.func 43) #[] #[.pointer (some ⟨w.heap.size, 0, none⟩), .pointer (some ⟨w2.heap.size, 0, none⟩)]) w' := fun _ => by kernel_rfl
        have hen : ∀ (args : Array Value) (w : World), (callFunc 43 args).run Tryz.prog w = .ok (.enter 43 args) w := fun args w => by kernel_rfl
        go_wp2_with fail
        refine HC.out.mono ?_
        clear hix hen HC
        unfold faultA
        obtain ⟨c, a⟩ := f
        dsimp only
        rintro e w3 ⟨rfl, hx3⟩
        have hx4 := (hx3.alloc (.cells #[.int .i64 c, .int .i64 a] 37)).drew
        have HO4 := Lib.hid (HOw.out.ext hx4)
        have HE4 := Lib.hid (HEw.out.ext hx4)
        have hP8 : (w3.alloc (.cells #[.int .i64 c, .int .i64 a] 37)).rangeAt w3.heap.size 0 [.int .i64 c, .int .i64 a] := rangeAt_new _ _ _
        have hsz4 : (w3.alloc (.cells #[.int .i64 c, .int .i64 a] 37)).heap.size = w3.heap.size + 1 := by simp
        clear hx4 hx3 HOw HEw
        go_wp2
        obtain ⟨P8, hP8e⟩ : ∃ P8, w3.heap.size = P8 := ⟨_, rfl⟩
        rw [hP8e] at hP8 hsz4 ⊢
        generalize w3.alloc (.cells #[.int .i64 c, .int .i64 a] 37) = W4 at hP8 hsz4 HO4 HE4 ⊢
        refine wp_region_held_drew (S := fun w' => w'.rangeAt P8 0 [.int .i64 c, .int .i64 a]) (by kernel_rfl) (by simpa using hP8) (fun hS => ?_)
        refine wpAnyH_take (i := 0) (oi := _) (v := .agg #[.int .i64 c, .int .i64 a]) rfl (by kernel_rfl) (by kernel_rfl) (by kernel_rfl) (fun _ _ _ h => h) (yieldsIf_load_mid (by kernel_rfl) 37 (.tmp 8) rfl P8 0 (by kernel_rfl) [.int .i64 c, .int .i64 a] _ (fun _ h => h) Tryz.underlying37 rfl (by kernel_rfl)) hS ?_
        refine wpAnyH_call (i := 1) (f := 58) (args := #[]) (v := .agg #[.int .i64 0, .int .i64 0]) (by kernel_rfl) rfl (by kernel_rfl) (by kernel_rfl) (none_c _) ?_
        unfold faultA
        rintro e w5 ⟨rfl, hx5⟩
        have hS5 : w5.rangeAt P8 0 [.int .i64 c, .int .i64 a] := rangeAt_ext hS hx5 (show P8 < W4.heap.size by omega)
        refine ⟨rfl, hS5, ?_⟩
        have HO5 := Lib.hid (HO4.out.ext hx5)
        have HE5 := Lib.hid (HE4.out.ext hx5)
        clear HO4 HE4 hx5 hS hP8 hsz4 hP8e
        by_cases hf : (c, a) = ((0 : Int), (0 : Int))
        · have hk3 := HK.out
          rw [if_pos hf] at hk3
          cases hf
          refine wpAnyH_take (i := 2) (oi := _) (v := .bool false) rfl (by kernel_rfl) (by kernel_rfl) (by kernel_rfl) (fun _ _ _ h => h) (Or.inl ⟨by kernel_rfl, fun _ _ => by kernel_rfl⟩) hS5 ?_
          refine wpAnyH_done (by kernel_rfl) ?_ _
          have HK3 := Lib.hid hk3; clear hk3 HK hS5
          go_simp
          go_wp2
          go_roundw
          case rel => exact ⟨2, by omega, by go_num, HO5.out, HE5.out, HK3⟩
          case measure => simp [intOf]
        · have hk3 := HK.out
          rw [if_neg hf] at hk3
          have hca : ¬ (c = 0 ∧ a = 0) := fun h => hf (by rw [h.1, h.2])
          refine wpAnyH_take (i := 2) (oi := _) (v := .bool true) rfl (by kernel_rfl) (by kernel_rfl) (by kernel_rfl) (fun _ _ _ h => h) (yields_v (do eqGuard .neq 37 (.tmp 30) (.tmp 31) (.agg #[.int .i64 c, .int .i64 a]) (.agg #[.int .i64 0, .int .i64 0]); binOp .neq 37 (.agg #[.int .i64 c, .int .i64 a]) (.agg #[.int .i64 0, .int .i64 0])) (by kernel_rfl) (by kernel_rfl) (fun W _ => run_neq_fault W c a hca)) hS5 ?_
          refine wpAnyH_done (by kernel_rfl) ?_ _
          have HK3 := Lib.hid hk3; clear hk3 HK hca hf
          have HTH := Lib.hid (HO5.out.there 0 2 (by simp))
          have HOE := Lib.hid (HO5.out.all (faultC (c, a)) rfl)
          have HR5 := Lib.hid hS5; clear hS5
          go_simp
          go_wp2_with (first
            | ((with_reducible refine atLoad 37 rfl ?_); refine wpList_load_mid rfl 37 _ rfl _ _ rfl _ _ HR5.out Tryz.underlying37 rfl HIN.out ?_)
            | ((with_reducible refine atStore 37 rfl ?_); refine wpList_store_mid rfl 37 _ _ rfl (w.heap.size + 1) 0 _ rfl rfl HTH.out HIN.out (HON _ _).out (halt ?_)))
          unfold Halt
          go_wp2
          exact bodyPost_ret (results_agg rfl _ _ _ _ rfl _ _ HOE.out.range Tryz.underlying37 rfl (by kernel_rfl)) rfl ⟨by rw [← HK3.out]; rfl, HOE.out.x⟩
      · have hc := rule3 wr w.heap.size w2.heap.size (w2.heap.size + 1) t gv dv rv bv on HEw.out
        have hk2 := HK.out
        rw [show (rulesS t on).drop 2 = phasesS 9 on (fun p => conflictS t on p) :: (rulesS t on).drop 3 from rfl, checkL] at hk2
        clear HK
        generalize phasesS 9 on (fun p => conflictS t on p) = f at hc hk2
        have HC := Lib.hid hc; clear hc
        have HK := Lib.hid hk2; clear hk2
        have hix : ∀ w', (Instr.index 99 (.agg #[.func (.func 40) #[] #[.pointer (some ⟨(w2.heap.size + 1), 0, none⟩), .pointer (some ⟨w.heap.size, 0, none⟩)], .func (.func 43) #[] #[.pointer (some ⟨w.heap.size, 0, none⟩), .pointer (some ⟨w2.heap.size, 0, none⟩)], .func (.func 45) #[] #[.pointer (some ⟨(w2.heap.size + 1), 0, none⟩), .pointer (some ⟨w.heap.size, 0, none⟩), .pointer (some ⟨w2.heap.size, 0, none⟩)], .func (.func 48) #[] #[.pointer (some ⟨w.heap.size, 0, none⟩), .pointer (some ⟨w2.heap.size, 0, none⟩)], .func (.func 50) #[] #[.pointer (some ⟨w.heap.size, 0, none⟩), .pointer (some ⟨w2.heap.size, 0, none⟩)], .func (.func 53) #[] #[.pointer (some ⟨w.heap.size, 0, none⟩), .pointer (some ⟨w2.heap.size, 0, none⟩)], .func (.func 55) #[] #[.pointer (some ⟨(w2.heap.size + 1), 0, none⟩), .pointer (some ⟨w.heap.size, 0, none⟩), .pointer (some ⟨w2.heap.size, 0, none⟩)]]) (.int .i64 2)).run Tryz.prog w' = .ok (.func (.func 45) #[] #[.pointer (some ⟨(w2.heap.size + 1), 0, none⟩), .pointer (some ⟨w.heap.size, 0, none⟩), .pointer (some ⟨w2.heap.size, 0, none⟩)]) w' := fun _ => by kernel_rfl
        have hen : ∀ (args : Array Value) (w : World), (callFunc 45 args).run Tryz.prog w = .ok (.enter 45 args) w := fun args w => by kernel_rfl
        go_wp2_with fail
        refine HC.out.mono ?_
        clear hix hen HC
        unfold faultA
        obtain ⟨c, a⟩ := f
        dsimp only
        rintro e w3 ⟨rfl, hx3⟩
        have hx4 := (hx3.alloc (.cells #[.int .i64 c, .int .i64 a] 37)).drew
        have HO4 := Lib.hid (HOw.out.ext hx4)
        have HE4 := Lib.hid (HEw.out.ext hx4)
        have hP8 : (w3.alloc (.cells #[.int .i64 c, .int .i64 a] 37)).rangeAt w3.heap.size 0 [.int .i64 c, .int .i64 a] := rangeAt_new _ _ _
        have hsz4 : (w3.alloc (.cells #[.int .i64 c, .int .i64 a] 37)).heap.size = w3.heap.size + 1 := by simp
        clear hx4 hx3 HOw HEw
        go_wp2
        obtain ⟨P8, hP8e⟩ : ∃ P8, w3.heap.size = P8 := ⟨_, rfl⟩
        rw [hP8e] at hP8 hsz4 ⊢
        generalize w3.alloc (.cells #[.int .i64 c, .int .i64 a] 37) = W4 at hP8 hsz4 HO4 HE4 ⊢
        refine wp_region_held_drew (S := fun w' => w'.rangeAt P8 0 [.int .i64 c, .int .i64 a]) (by kernel_rfl) (by simpa using hP8) (fun hS => ?_)
        refine wpAnyH_take (i := 0) (oi := _) (v := .agg #[.int .i64 c, .int .i64 a]) rfl (by kernel_rfl) (by kernel_rfl) (by kernel_rfl) (fun _ _ _ h => h) (yieldsIf_load_mid (by kernel_rfl) 37 (.tmp 8) rfl P8 0 (by kernel_rfl) [.int .i64 c, .int .i64 a] _ (fun _ h => h) Tryz.underlying37 rfl (by kernel_rfl)) hS ?_
        refine wpAnyH_call (i := 1) (f := 58) (args := #[]) (v := .agg #[.int .i64 0, .int .i64 0]) (by kernel_rfl) rfl (by kernel_rfl) (by kernel_rfl) (none_c _) ?_
        unfold faultA
        rintro e w5 ⟨rfl, hx5⟩
        have hS5 : w5.rangeAt P8 0 [.int .i64 c, .int .i64 a] := rangeAt_ext hS hx5 (show P8 < W4.heap.size by omega)
        refine ⟨rfl, hS5, ?_⟩
        have HO5 := Lib.hid (HO4.out.ext hx5)
        have HE5 := Lib.hid (HE4.out.ext hx5)
        clear HO4 HE4 hx5 hS hP8 hsz4 hP8e
        by_cases hf : (c, a) = ((0 : Int), (0 : Int))
        · have hk3 := HK.out
          rw [if_pos hf] at hk3
          cases hf
          refine wpAnyH_take (i := 2) (oi := _) (v := .bool false) rfl (by kernel_rfl) (by kernel_rfl) (by kernel_rfl) (fun _ _ _ h => h) (Or.inl ⟨by kernel_rfl, fun _ _ => by kernel_rfl⟩) hS5 ?_
          refine wpAnyH_done (by kernel_rfl) ?_ _
          have HK3 := Lib.hid hk3; clear hk3 HK hS5
          go_simp
          go_wp2
          go_roundw
          case rel => exact ⟨3, by omega, by go_num, HO5.out, HE5.out, HK3⟩
          case measure => simp [intOf]
        · have hk3 := HK.out
          rw [if_neg hf] at hk3
          have hca : ¬ (c = 0 ∧ a = 0) := fun h => hf (by rw [h.1, h.2])
          refine wpAnyH_take (i := 2) (oi := _) (v := .bool true) rfl (by kernel_rfl) (by kernel_rfl) (by kernel_rfl) (fun _ _ _ h => h) (yields_v (do eqGuard .neq 37 (.tmp 30) (.tmp 31) (.agg #[.int .i64 c, .int .i64 a]) (.agg #[.int .i64 0, .int .i64 0]); binOp .neq 37 (.agg #[.int .i64 c, .int .i64 a]) (.agg #[.int .i64 0, .int .i64 0])) (by kernel_rfl) (by kernel_rfl) (fun W _ => run_neq_fault W c a hca)) hS5 ?_
          refine wpAnyH_done (by kernel_rfl) ?_ _
          have HK3 := Lib.hid hk3; clear hk3 HK hca hf
          have HTH := Lib.hid (HO5.out.there 0 2 (by simp))
          have HOE := Lib.hid (HO5.out.all (faultC (c, a)) rfl)
          have HR5 := Lib.hid hS5; clear hS5
          go_simp
          go_wp2_with (first
            | ((with_reducible refine atLoad 37 rfl ?_); refine wpList_load_mid rfl 37 _ rfl _ _ rfl _ _ HR5.out Tryz.underlying37 rfl HIN.out ?_)
            | ((with_reducible refine atStore 37 rfl ?_); refine wpList_store_mid rfl 37 _ _ rfl (w.heap.size + 1) 0 _ rfl rfl HTH.out HIN.out (HON _ _).out (halt ?_)))
          unfold Halt
          go_wp2
          exact bodyPost_ret (results_agg rfl _ _ _ _ rfl _ _ HOE.out.range Tryz.underlying37 rfl (by kernel_rfl)) rfl ⟨by rw [← HK3.out]; rfl, HOE.out.x⟩
      · have hc := rule4 wr w.heap.size w2.heap.size (w2.heap.size + 1) t gv dv rv bv on HEw.out
        have hk2 := HK.out
        rw [show (rulesS t on).drop 3 = firstS 10 t.dets.length (fun i => detBad on (t.dets.getD i default)) :: (rulesS t on).drop 4 from rfl, checkL] at hk2
        clear HK
        generalize firstS 10 t.dets.length (fun i => detBad on (t.dets.getD i default)) = f at hc hk2
        have HC := Lib.hid hc; clear hc
        have HK := Lib.hid hk2; clear hk2
        have hix : ∀ w', (Instr.index 99 (.agg #[.func (.func 40) #[] #[.pointer (some ⟨(w2.heap.size + 1), 0, none⟩), .pointer (some ⟨w.heap.size, 0, none⟩)], .func (.func 43) #[] #[.pointer (some ⟨w.heap.size, 0, none⟩), .pointer (some ⟨w2.heap.size, 0, none⟩)], .func (.func 45) #[] #[.pointer (some ⟨(w2.heap.size + 1), 0, none⟩), .pointer (some ⟨w.heap.size, 0, none⟩), .pointer (some ⟨w2.heap.size, 0, none⟩)], .func (.func 48) #[] #[.pointer (some ⟨w.heap.size, 0, none⟩), .pointer (some ⟨w2.heap.size, 0, none⟩)], .func (.func 50) #[] #[.pointer (some ⟨w.heap.size, 0, none⟩), .pointer (some ⟨w2.heap.size, 0, none⟩)], .func (.func 53) #[] #[.pointer (some ⟨w.heap.size, 0, none⟩), .pointer (some ⟨w2.heap.size, 0, none⟩)], .func (.func 55) #[] #[.pointer (some ⟨(w2.heap.size + 1), 0, none⟩), .pointer (some ⟨w.heap.size, 0, none⟩), .pointer (some ⟨w2.heap.size, 0, none⟩)]]) (.int .i64 3)).run Tryz.prog w' = .ok (.func (.func 48) #[] #[.pointer (some ⟨w.heap.size, 0, none⟩), .pointer (some ⟨w2.heap.size, 0, none⟩)]) w' := fun _ => by kernel_rfl
        have hen : ∀ (args : Array Value) (w : World), (callFunc 48 args).run Tryz.prog w = .ok (.enter 48 args) w := fun args w => by kernel_rfl
        go_wp2_with fail
        refine HC.out.mono ?_
        clear hix hen HC
        unfold faultA
        obtain ⟨c, a⟩ := f
        dsimp only
        rintro e w3 ⟨rfl, hx3⟩
        have hx4 := (hx3.alloc (.cells #[.int .i64 c, .int .i64 a] 37)).drew
        have HO4 := Lib.hid (HOw.out.ext hx4)
        have HE4 := Lib.hid (HEw.out.ext hx4)
        have hP8 : (w3.alloc (.cells #[.int .i64 c, .int .i64 a] 37)).rangeAt w3.heap.size 0 [.int .i64 c, .int .i64 a] := rangeAt_new _ _ _
        have hsz4 : (w3.alloc (.cells #[.int .i64 c, .int .i64 a] 37)).heap.size = w3.heap.size + 1 := by simp
        clear hx4 hx3 HOw HEw
        go_wp2
        obtain ⟨P8, hP8e⟩ : ∃ P8, w3.heap.size = P8 := ⟨_, rfl⟩
        rw [hP8e] at hP8 hsz4 ⊢
        generalize w3.alloc (.cells #[.int .i64 c, .int .i64 a] 37) = W4 at hP8 hsz4 HO4 HE4 ⊢
        refine wp_region_held_drew (S := fun w' => w'.rangeAt P8 0 [.int .i64 c, .int .i64 a]) (by kernel_rfl) (by simpa using hP8) (fun hS => ?_)
        refine wpAnyH_take (i := 0) (oi := _) (v := .agg #[.int .i64 c, .int .i64 a]) rfl (by kernel_rfl) (by kernel_rfl) (by kernel_rfl) (fun _ _ _ h => h) (yieldsIf_load_mid (by kernel_rfl) 37 (.tmp 8) rfl P8 0 (by kernel_rfl) [.int .i64 c, .int .i64 a] _ (fun _ h => h) Tryz.underlying37 rfl (by kernel_rfl)) hS ?_
        refine wpAnyH_call (i := 1) (f := 58) (args := #[]) (v := .agg #[.int .i64 0, .int .i64 0]) (by kernel_rfl) rfl (by kernel_rfl) (by kernel_rfl) (none_c _) ?_
        unfold faultA
        rintro e w5 ⟨rfl, hx5⟩
        have hS5 : w5.rangeAt P8 0 [.int .i64 c, .int .i64 a] := rangeAt_ext hS hx5 (show P8 < W4.heap.size by omega)
        refine ⟨rfl, hS5, ?_⟩
        have HO5 := Lib.hid (HO4.out.ext hx5)
        have HE5 := Lib.hid (HE4.out.ext hx5)
        clear HO4 HE4 hx5 hS hP8 hsz4 hP8e
        by_cases hf : (c, a) = ((0 : Int), (0 : Int))
        · have hk3 := HK.out
          rw [if_pos hf] at hk3
          cases hf
          refine wpAnyH_take (i := 2) (oi := _) (v := .bool false) rfl (by kernel_rfl) (by kernel_rfl) (by kernel_rfl) (fun _ _ _ h => h) (Or.inl ⟨by kernel_rfl, fun _ _ => by kernel_rfl⟩) hS5 ?_
          refine wpAnyH_done (by kernel_rfl) ?_ _
          have HK3 := Lib.hid hk3; clear hk3 HK hS5
          go_simp
          go_wp2
          go_roundw
          case rel => exact ⟨4, by omega, by go_num, HO5.out, HE5.out, HK3⟩
          case measure => simp [intOf]
        · have hk3 := HK.out
          rw [if_neg hf] at hk3
          have hca : ¬ (c = 0 ∧ a = 0) := fun h => hf (by rw [h.1, h.2])
          refine wpAnyH_take (i := 2) (oi := _) (v := .bool true) rfl (by kernel_rfl) (by kernel_rfl) (by kernel_rfl) (fun _ _ _ h => h) (yields_v (do eqGuard .neq 37 (.tmp 30) (.tmp 31) (.agg #[.int .i64 c, .int .i64 a]) (.agg #[.int .i64 0, .int .i64 0]); binOp .neq 37 (.agg #[.int .i64 c, .int .i64 a]) (.agg #[.int .i64 0, .int .i64 0])) (by kernel_rfl) (by kernel_rfl) (fun W _ => run_neq_fault W c a hca)) hS5 ?_
          refine wpAnyH_done (by kernel_rfl) ?_ _
          have HK3 := Lib.hid hk3; clear hk3 HK hca hf
          have HTH := Lib.hid (HO5.out.there 0 2 (by simp))
          have HOE := Lib.hid (HO5.out.all (faultC (c, a)) rfl)
          have HR5 := Lib.hid hS5; clear hS5
          go_simp
          go_wp2_with (first
            | ((with_reducible refine atLoad 37 rfl ?_); refine wpList_load_mid rfl 37 _ rfl _ _ rfl _ _ HR5.out Tryz.underlying37 rfl HIN.out ?_)
            | ((with_reducible refine atStore 37 rfl ?_); refine wpList_store_mid rfl 37 _ _ rfl (w.heap.size + 1) 0 _ rfl rfl HTH.out HIN.out (HON _ _).out (halt ?_)))
          unfold Halt
          go_wp2
          exact bodyPost_ret (results_agg rfl _ _ _ _ rfl _ _ HOE.out.range Tryz.underlying37 rfl (by kernel_rfl)) rfl ⟨by rw [← HK3.out]; rfl, HOE.out.x⟩
      · have hc := rule5 wr w.heap.size w2.heap.size (w2.heap.size + 1) t gv dv rv bv on HEw.out
        have hk2 := HK.out
        rw [show (rulesS t on).drop 4 = firstS 11 t.rails.length (fun i => railBad t on (t.rails.getD i default)) :: (rulesS t on).drop 5 from rfl, checkL] at hk2
        clear HK
        generalize firstS 11 t.rails.length (fun i => railBad t on (t.rails.getD i default)) = f at hc hk2
        have HC := Lib.hid hc; clear hc
        have HK := Lib.hid hk2; clear hk2
        have hix : ∀ w', (Instr.index 99 (.agg #[.func (.func 40) #[] #[.pointer (some ⟨(w2.heap.size + 1), 0, none⟩), .pointer (some ⟨w.heap.size, 0, none⟩)], .func (.func 43) #[] #[.pointer (some ⟨w.heap.size, 0, none⟩), .pointer (some ⟨w2.heap.size, 0, none⟩)], .func (.func 45) #[] #[.pointer (some ⟨(w2.heap.size + 1), 0, none⟩), .pointer (some ⟨w.heap.size, 0, none⟩), .pointer (some ⟨w2.heap.size, 0, none⟩)], .func (.func 48) #[] #[.pointer (some ⟨w.heap.size, 0, none⟩), .pointer (some ⟨w2.heap.size, 0, none⟩)], .func (.func 50) #[] #[.pointer (some ⟨w.heap.size, 0, none⟩), .pointer (some ⟨w2.heap.size, 0, none⟩)], .func (.func 53) #[] #[.pointer (some ⟨w.heap.size, 0, none⟩), .pointer (some ⟨w2.heap.size, 0, none⟩)], .func (.func 55) #[] #[.pointer (some ⟨(w2.heap.size + 1), 0, none⟩), .pointer (some ⟨w.heap.size, 0, none⟩), .pointer (some ⟨w2.heap.size, 0, none⟩)]]) (.int .i64 4)).run Tryz.prog w' = .ok (.func (.func 50) #[] #[.pointer (some ⟨w.heap.size, 0, none⟩), .pointer (some ⟨w2.heap.size, 0, none⟩)]) w' := fun _ => by kernel_rfl
        have hen : ∀ (args : Array Value) (w : World), (callFunc 50 args).run Tryz.prog w = .ok (.enter 50 args) w := fun args w => by kernel_rfl
        go_wp2_with fail
        refine HC.out.mono ?_
        clear hix hen HC
        unfold faultA
        obtain ⟨c, a⟩ := f
        dsimp only
        rintro e w3 ⟨rfl, hx3⟩
        have hx4 := (hx3.alloc (.cells #[.int .i64 c, .int .i64 a] 37)).drew
        have HO4 := Lib.hid (HOw.out.ext hx4)
        have HE4 := Lib.hid (HEw.out.ext hx4)
        have hP8 : (w3.alloc (.cells #[.int .i64 c, .int .i64 a] 37)).rangeAt w3.heap.size 0 [.int .i64 c, .int .i64 a] := rangeAt_new _ _ _
        have hsz4 : (w3.alloc (.cells #[.int .i64 c, .int .i64 a] 37)).heap.size = w3.heap.size + 1 := by simp
        clear hx4 hx3 HOw HEw
        go_wp2
        obtain ⟨P8, hP8e⟩ : ∃ P8, w3.heap.size = P8 := ⟨_, rfl⟩
        rw [hP8e] at hP8 hsz4 ⊢
        generalize w3.alloc (.cells #[.int .i64 c, .int .i64 a] 37) = W4 at hP8 hsz4 HO4 HE4 ⊢
        refine wp_region_held_drew (S := fun w' => w'.rangeAt P8 0 [.int .i64 c, .int .i64 a]) (by kernel_rfl) (by simpa using hP8) (fun hS => ?_)
        refine wpAnyH_take (i := 0) (oi := _) (v := .agg #[.int .i64 c, .int .i64 a]) rfl (by kernel_rfl) (by kernel_rfl) (by kernel_rfl) (fun _ _ _ h => h) (yieldsIf_load_mid (by kernel_rfl) 37 (.tmp 8) rfl P8 0 (by kernel_rfl) [.int .i64 c, .int .i64 a] _ (fun _ h => h) Tryz.underlying37 rfl (by kernel_rfl)) hS ?_
        refine wpAnyH_call (i := 1) (f := 58) (args := #[]) (v := .agg #[.int .i64 0, .int .i64 0]) (by kernel_rfl) rfl (by kernel_rfl) (by kernel_rfl) (none_c _) ?_
        unfold faultA
        rintro e w5 ⟨rfl, hx5⟩
        have hS5 : w5.rangeAt P8 0 [.int .i64 c, .int .i64 a] := rangeAt_ext hS hx5 (show P8 < W4.heap.size by omega)
        refine ⟨rfl, hS5, ?_⟩
        have HO5 := Lib.hid (HO4.out.ext hx5)
        have HE5 := Lib.hid (HE4.out.ext hx5)
        clear HO4 HE4 hx5 hS hP8 hsz4 hP8e
        by_cases hf : (c, a) = ((0 : Int), (0 : Int))
        · have hk3 := HK.out
          rw [if_pos hf] at hk3
          cases hf
          refine wpAnyH_take (i := 2) (oi := _) (v := .bool false) rfl (by kernel_rfl) (by kernel_rfl) (by kernel_rfl) (fun _ _ _ h => h) (Or.inl ⟨by kernel_rfl, fun _ _ => by kernel_rfl⟩) hS5 ?_
          refine wpAnyH_done (by kernel_rfl) ?_ _
          have HK3 := Lib.hid hk3; clear hk3 HK hS5
          go_simp
          go_wp2
          go_roundw
          case rel => exact ⟨5, by omega, by go_num, HO5.out, HE5.out, HK3⟩
          case measure => simp [intOf]
        · have hk3 := HK.out
          rw [if_neg hf] at hk3
          have hca : ¬ (c = 0 ∧ a = 0) := fun h => hf (by rw [h.1, h.2])
          refine wpAnyH_take (i := 2) (oi := _) (v := .bool true) rfl (by kernel_rfl) (by kernel_rfl) (by kernel_rfl) (fun _ _ _ h => h) (yields_v (do eqGuard .neq 37 (.tmp 30) (.tmp 31) (.agg #[.int .i64 c, .int .i64 a]) (.agg #[.int .i64 0, .int .i64 0]); binOp .neq 37 (.agg #[.int .i64 c, .int .i64 a]) (.agg #[.int .i64 0, .int .i64 0])) (by kernel_rfl) (by kernel_rfl) (fun W _ => run_neq_fault W c a hca)) hS5 ?_
          refine wpAnyH_done (by kernel_rfl) ?_ _
          have HK3 := Lib.hid hk3; clear hk3 HK hca hf
          have HTH := Lib.hid (HO5.out.there 0 2 (by simp))
          have HOE := Lib.hid (HO5.out.all (faultC (c, a)) rfl)
          have HR5 := Lib.hid hS5; clear hS5
          go_simp
          go_wp2_with (first
            | ((with_reducible refine atLoad 37 rfl ?_); refine wpList_load_mid rfl 37 _ rfl _ _ rfl _ _ HR5.out Tryz.underlying37 rfl HIN.out ?_)
            | ((with_reducible refine atStore 37 rfl ?_); refine wpList_store_mid rfl 37 _ _ rfl (w.heap.size + 1) 0 _ rfl rfl HTH.out HIN.out (HON _ _).out (halt ?_)))
          unfold Halt
          go_wp2
          exact bodyPost_ret (results_agg rfl _ _ _ _ rfl _ _ HOE.out.range Tryz.underlying37 rfl (by kernel_rfl)) rfl ⟨by rw [← HK3.out]; rfl, HOE.out.x⟩
      · have hc := rule6 wr w.heap.size w2.heap.size (w2.heap.size + 1) t gv dv rv bv on HEw.out
        have hk2 := HK.out
        rw [show (rulesS t on).drop 5 = firstS 12 t.buses.length (fun i => busBad on (t.buses.getD i default)) :: (rulesS t on).drop 6 from rfl, checkL] at hk2
        clear HK
        generalize firstS 12 t.buses.length (fun i => busBad on (t.buses.getD i default)) = f at hc hk2
        have HC := Lib.hid hc; clear hc
        have HK := Lib.hid hk2; clear hk2
        have hix : ∀ w', (Instr.index 99 (.agg #[.func (.func 40) #[] #[.pointer (some ⟨(w2.heap.size + 1), 0, none⟩), .pointer (some ⟨w.heap.size, 0, none⟩)], .func (.func 43) #[] #[.pointer (some ⟨w.heap.size, 0, none⟩), .pointer (some ⟨w2.heap.size, 0, none⟩)], .func (.func 45) #[] #[.pointer (some ⟨(w2.heap.size + 1), 0, none⟩), .pointer (some ⟨w.heap.size, 0, none⟩), .pointer (some ⟨w2.heap.size, 0, none⟩)], .func (.func 48) #[] #[.pointer (some ⟨w.heap.size, 0, none⟩), .pointer (some ⟨w2.heap.size, 0, none⟩)], .func (.func 50) #[] #[.pointer (some ⟨w.heap.size, 0, none⟩), .pointer (some ⟨w2.heap.size, 0, none⟩)], .func (.func 53) #[] #[.pointer (some ⟨w.heap.size, 0, none⟩), .pointer (some ⟨w2.heap.size, 0, none⟩)], .func (.func 55) #[] #[.pointer (some ⟨(w2.heap.size + 1), 0, none⟩), .pointer (some ⟨w.heap.size, 0, none⟩), .pointer (some ⟨w2.heap.size, 0, none⟩)]]) (.int .i64 5)).run Tryz.prog w' = .ok (.func (.func 53) #[] #[.pointer (some ⟨w.heap.size, 0, none⟩), .pointer (some ⟨w2.heap.size, 0, none⟩)]) w' := fun _ => by kernel_rfl
        have hen : ∀ (args : Array Value) (w : World), (callFunc 53 args).run Tryz.prog w = .ok (.enter 53 args) w := fun args w => by kernel_rfl
        go_wp2_with fail
        refine HC.out.mono ?_
        clear hix hen HC
        unfold faultA
        obtain ⟨c, a⟩ := f
        dsimp only
        rintro e w3 ⟨rfl, hx3⟩
        have hx4 := (hx3.alloc (.cells #[.int .i64 c, .int .i64 a] 37)).drew
        have HO4 := Lib.hid (HOw.out.ext hx4)
        have HE4 := Lib.hid (HEw.out.ext hx4)
        have hP8 : (w3.alloc (.cells #[.int .i64 c, .int .i64 a] 37)).rangeAt w3.heap.size 0 [.int .i64 c, .int .i64 a] := rangeAt_new _ _ _
        have hsz4 : (w3.alloc (.cells #[.int .i64 c, .int .i64 a] 37)).heap.size = w3.heap.size + 1 := by simp
        clear hx4 hx3 HOw HEw
        go_wp2
        obtain ⟨P8, hP8e⟩ : ∃ P8, w3.heap.size = P8 := ⟨_, rfl⟩
        rw [hP8e] at hP8 hsz4 ⊢
        generalize w3.alloc (.cells #[.int .i64 c, .int .i64 a] 37) = W4 at hP8 hsz4 HO4 HE4 ⊢
        refine wp_region_held_drew (S := fun w' => w'.rangeAt P8 0 [.int .i64 c, .int .i64 a]) (by kernel_rfl) (by simpa using hP8) (fun hS => ?_)
        refine wpAnyH_take (i := 0) (oi := _) (v := .agg #[.int .i64 c, .int .i64 a]) rfl (by kernel_rfl) (by kernel_rfl) (by kernel_rfl) (fun _ _ _ h => h) (yieldsIf_load_mid (by kernel_rfl) 37 (.tmp 8) rfl P8 0 (by kernel_rfl) [.int .i64 c, .int .i64 a] _ (fun _ h => h) Tryz.underlying37 rfl (by kernel_rfl)) hS ?_
        refine wpAnyH_call (i := 1) (f := 58) (args := #[]) (v := .agg #[.int .i64 0, .int .i64 0]) (by kernel_rfl) rfl (by kernel_rfl) (by kernel_rfl) (none_c _) ?_
        unfold faultA
        rintro e w5 ⟨rfl, hx5⟩
        have hS5 : w5.rangeAt P8 0 [.int .i64 c, .int .i64 a] := rangeAt_ext hS hx5 (show P8 < W4.heap.size by omega)
        refine ⟨rfl, hS5, ?_⟩
        have HO5 := Lib.hid (HO4.out.ext hx5)
        have HE5 := Lib.hid (HE4.out.ext hx5)
        clear HO4 HE4 hx5 hS hP8 hsz4 hP8e
        by_cases hf : (c, a) = ((0 : Int), (0 : Int))
        · have hk3 := HK.out
          rw [if_pos hf] at hk3
          cases hf
          refine wpAnyH_take (i := 2) (oi := _) (v := .bool false) rfl (by kernel_rfl) (by kernel_rfl) (by kernel_rfl) (fun _ _ _ h => h) (Or.inl ⟨by kernel_rfl, fun _ _ => by kernel_rfl⟩) hS5 ?_
          refine wpAnyH_done (by kernel_rfl) ?_ _
          have HK3 := Lib.hid hk3; clear hk3 HK hS5
          go_simp
          go_wp2
          go_roundw
          case rel => exact ⟨6, by omega, by go_num, HO5.out, HE5.out, HK3⟩
          case measure => simp [intOf]
        · have hk3 := HK.out
          rw [if_neg hf] at hk3
          have hca : ¬ (c = 0 ∧ a = 0) := fun h => hf (by rw [h.1, h.2])
          refine wpAnyH_take (i := 2) (oi := _) (v := .bool true) rfl (by kernel_rfl) (by kernel_rfl) (by kernel_rfl) (fun _ _ _ h => h) (yields_v (do eqGuard .neq 37 (.tmp 30) (.tmp 31) (.agg #[.int .i64 c, .int .i64 a]) (.agg #[.int .i64 0, .int .i64 0]); binOp .neq 37 (.agg #[.int .i64 c, .int .i64 a]) (.agg #[.int .i64 0, .int .i64 0])) (by kernel_rfl) (by kernel_rfl) (fun W _ => run_neq_fault W c a hca)) hS5 ?_
          refine wpAnyH_done (by kernel_rfl) ?_ _
          have HK3 := Lib.hid hk3; clear hk3 HK hca hf
          have HTH := Lib.hid (HO5.out.there 0 2 (by simp))
          have HOE := Lib.hid (HO5.out.all (faultC (c, a)) rfl)
          have HR5 := Lib.hid hS5; clear hS5
          go_simp
          go_wp2_with (first
            | ((with_reducible refine atLoad 37 rfl ?_); refine wpList_load_mid rfl 37 _ rfl _ _ rfl _ _ HR5.out Tryz.underlying37 rfl HIN.out ?_)
            | ((with_reducible refine atStore 37 rfl ?_); refine wpList_store_mid rfl 37 _ _ rfl (w.heap.size + 1) 0 _ rfl rfl HTH.out HIN.out (HON _ _).out (halt ?_)))
          unfold Halt
          go_wp2
          exact bodyPost_ret (results_agg rfl _ _ _ _ rfl _ _ HOE.out.range Tryz.underlying37 rfl (by kernel_rfl)) rfl ⟨by rw [← HK3.out]; rfl, HOE.out.x⟩
      · have hc := rule7 wr w.heap.size w2.heap.size (w2.heap.size + 1) t gv dv rv bv on HEw.out
        have hk2 := HK.out
        rw [show (rulesS t on).drop 6 = phasesS 13 on (fun p => flashS t on p) :: (rulesS t on).drop 7 from rfl, checkL] at hk2
        clear HK
        generalize phasesS 13 on (fun p => flashS t on p) = f at hc hk2
        have HC := Lib.hid hc; clear hc
        have HK := Lib.hid hk2; clear hk2
        have hix : ∀ w', (Instr.index 99 (.agg #[.func (.func 40) #[] #[.pointer (some ⟨(w2.heap.size + 1), 0, none⟩), .pointer (some ⟨w.heap.size, 0, none⟩)], .func (.func 43) #[] #[.pointer (some ⟨w.heap.size, 0, none⟩), .pointer (some ⟨w2.heap.size, 0, none⟩)], .func (.func 45) #[] #[.pointer (some ⟨(w2.heap.size + 1), 0, none⟩), .pointer (some ⟨w.heap.size, 0, none⟩), .pointer (some ⟨w2.heap.size, 0, none⟩)], .func (.func 48) #[] #[.pointer (some ⟨w.heap.size, 0, none⟩), .pointer (some ⟨w2.heap.size, 0, none⟩)], .func (.func 50) #[] #[.pointer (some ⟨w.heap.size, 0, none⟩), .pointer (some ⟨w2.heap.size, 0, none⟩)], .func (.func 53) #[] #[.pointer (some ⟨w.heap.size, 0, none⟩), .pointer (some ⟨w2.heap.size, 0, none⟩)], .func (.func 55) #[] #[.pointer (some ⟨(w2.heap.size + 1), 0, none⟩), .pointer (some ⟨w.heap.size, 0, none⟩), .pointer (some ⟨w2.heap.size, 0, none⟩)]]) (.int .i64 6)).run Tryz.prog w' = .ok (.func (.func 55) #[] #[.pointer (some ⟨(w2.heap.size + 1), 0, none⟩), .pointer (some ⟨w.heap.size, 0, none⟩), .pointer (some ⟨w2.heap.size, 0, none⟩)]) w' := fun _ => by kernel_rfl
        have hen : ∀ (args : Array Value) (w : World), (callFunc 55 args).run Tryz.prog w = .ok (.enter 55 args) w := fun args w => by kernel_rfl
        go_wp2_with fail
        refine HC.out.mono ?_
        clear hix hen HC
        unfold faultA
        obtain ⟨c, a⟩ := f
        dsimp only
        rintro e w3 ⟨rfl, hx3⟩
        have hx4 := (hx3.alloc (.cells #[.int .i64 c, .int .i64 a] 37)).drew
        have HO4 := Lib.hid (HOw.out.ext hx4)
        have HE4 := Lib.hid (HEw.out.ext hx4)
        have hP8 : (w3.alloc (.cells #[.int .i64 c, .int .i64 a] 37)).rangeAt w3.heap.size 0 [.int .i64 c, .int .i64 a] := rangeAt_new _ _ _
        have hsz4 : (w3.alloc (.cells #[.int .i64 c, .int .i64 a] 37)).heap.size = w3.heap.size + 1 := by simp
        clear hx4 hx3 HOw HEw
        go_wp2
        obtain ⟨P8, hP8e⟩ : ∃ P8, w3.heap.size = P8 := ⟨_, rfl⟩
        rw [hP8e] at hP8 hsz4 ⊢
        generalize w3.alloc (.cells #[.int .i64 c, .int .i64 a] 37) = W4 at hP8 hsz4 HO4 HE4 ⊢
        refine wp_region_held_drew (S := fun w' => w'.rangeAt P8 0 [.int .i64 c, .int .i64 a]) (by kernel_rfl) (by simpa using hP8) (fun hS => ?_)
        refine wpAnyH_take (i := 0) (oi := _) (v := .agg #[.int .i64 c, .int .i64 a]) rfl (by kernel_rfl) (by kernel_rfl) (by kernel_rfl) (fun _ _ _ h => h) (yieldsIf_load_mid (by kernel_rfl) 37 (.tmp 8) rfl P8 0 (by kernel_rfl) [.int .i64 c, .int .i64 a] _ (fun _ h => h) Tryz.underlying37 rfl (by kernel_rfl)) hS ?_
        refine wpAnyH_call (i := 1) (f := 58) (args := #[]) (v := .agg #[.int .i64 0, .int .i64 0]) (by kernel_rfl) rfl (by kernel_rfl) (by kernel_rfl) (none_c _) ?_
        unfold faultA
        rintro e w5 ⟨rfl, hx5⟩
        have hS5 : w5.rangeAt P8 0 [.int .i64 c, .int .i64 a] := rangeAt_ext hS hx5 (show P8 < W4.heap.size by omega)
        refine ⟨rfl, hS5, ?_⟩
        have HO5 := Lib.hid (HO4.out.ext hx5)
        have HE5 := Lib.hid (HE4.out.ext hx5)
        clear HO4 HE4 hx5 hS hP8 hsz4 hP8e
        by_cases hf : (c, a) = ((0 : Int), (0 : Int))
        · have hk3 := HK.out
          rw [if_pos hf] at hk3
          cases hf
          refine wpAnyH_take (i := 2) (oi := _) (v := .bool false) rfl (by kernel_rfl) (by kernel_rfl) (by kernel_rfl) (fun _ _ _ h => h) (Or.inl ⟨by kernel_rfl, fun _ _ => by kernel_rfl⟩) hS5 ?_
          refine wpAnyH_done (by kernel_rfl) ?_ _
          have HK3 := Lib.hid hk3; clear hk3 HK hS5
          go_simp
          go_wp2
          go_roundw
          case rel => exact ⟨7, by omega, by go_num, HO5.out, HE5.out, HK3⟩
          case measure => simp [intOf]
        · have hk3 := HK.out
          rw [if_neg hf] at hk3
          have hca : ¬ (c = 0 ∧ a = 0) := fun h => hf (by rw [h.1, h.2])
          refine wpAnyH_take (i := 2) (oi := _) (v := .bool true) rfl (by kernel_rfl) (by kernel_rfl) (by kernel_rfl) (fun _ _ _ h => h) (yields_v (do eqGuard .neq 37 (.tmp 30) (.tmp 31) (.agg #[.int .i64 c, .int .i64 a]) (.agg #[.int .i64 0, .int .i64 0]); binOp .neq 37 (.agg #[.int .i64 c, .int .i64 a]) (.agg #[.int .i64 0, .int .i64 0])) (by kernel_rfl) (by kernel_rfl) (fun W _ => run_neq_fault W c a hca)) hS5 ?_
          refine wpAnyH_done (by kernel_rfl) ?_ _
          have HK3 := Lib.hid hk3; clear hk3 HK hca hf
          have HTH := Lib.hid (HO5.out.there 0 2 (by simp))
          have HOE := Lib.hid (HO5.out.all (faultC (c, a)) rfl)
          have HR5 := Lib.hid hS5; clear hS5
          go_simp
          go_wp2_with (first
            | ((with_reducible refine atLoad 37 rfl ?_); refine wpList_load_mid rfl 37 _ rfl _ _ rfl _ _ HR5.out Tryz.underlying37 rfl HIN.out ?_)
            | ((with_reducible refine atStore 37 rfl ?_); refine wpList_store_mid rfl 37 _ _ rfl (w.heap.size + 1) 0 _ rfl rfl HTH.out HIN.out (HON _ _).out (halt ?_)))
          unfold Halt
          go_wp2
          exact bodyPost_ret (results_agg rfl _ _ _ _ rfl _ _ HOE.out.range Tryz.underlying37 rfl (by kernel_rfl)) rfl ⟨by rw [← HK3.out]; rfl, HOE.out.x⟩
      · have hk3 := HK.out
        rw [show (rulesS t on).drop 7 = [] from rfl, checkL] at hk3
        have HK3 := Lib.hid hk3; clear hk3 HK HEw
        go_wp2_with (first
          | (go_at_call 58; refine (none_c _).mono ?_; unfold faultA; rintro e wb ⟨rfl, hxb⟩; have hOb := HOw.out.ext hxb; have HTH := Lib.hid (hOb.there 0 2 (by simp)); have HOE := Lib.hid (hOb.all (faultC (0, 0)) rfl); clear hOb hxb)
          | ((with_reducible refine atStore 37 rfl ?_); refine wpList_store_mid rfl 37 _ _ rfl (w.heap.size + 1) 0 _ rfl rfl HTH.out HIN.out (HON _ _).out (halt ?_)))
        unfold Halt
        go_wp2
        exact bodyPost_ret (results_agg rfl _ _ _ _ rfl _ _ HOE.out.range Tryz.underlying37 rfl (by kernel_rfl)) rfl ⟨by rw [← HK3.out]; rfl, HOE.out.x⟩
end Go.Proofs.YtpopnmelcplbbaaGreat
