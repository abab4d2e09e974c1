/-
  code's reading of a phase. code's reading of a detector. code's reading of a preempt.
-/
import Derived.Test.YtpopnmelcplbbaaGreatGRows
import Derived.Test.YtpopnmelcplbbaaGreatRfloat
set_option linter.unusedVariables false
set_option linter.unusedSimpArgs false
namespace Go.Proofs.YtpopnmelcplbbaaGreat
open Go.RowKit

theorem timesS_len {α : Type} {f : Nat → Rs α} : ∀ {k n : Nat} {xs : List α} {m : Nat}, timesS f k n = .ok (xs, m) → xs.length = k := by
  intro k
  induction k with
  | zero => intro n xs m h; simp [timesS] at h; simp [← h.1]
  | succ k ih =>
    intro n xs m h
    unfold timesS at h
    cases h1 : f n with
    | error e => rw [h1] at h; cases h
    | ok y =>
      obtain ⟨x, n1⟩ := y
      rw [h1] at h
      dsimp only at h
      cases h2 : timesS f k n1 with
      | error e => rw [h2] at h; cases h
      | ok z =>
        obtain ⟨ys, n2⟩ := z
        rw [h2] at h
        cases h
        simp [ih h2]

def phH (on : Bool) : List Value := [.bool on]
def phT : List Value := [.int .i64 0, .bool false, .bool false]
def mkPh (on : Bool) (ts : List Int) (rc : Int) (lock rest : Bool) : Ph :=
  ⟨on, ts.getD 0 0, ts.getD 1 0, ts.getD 2 0, ts.getD 3 0, ts.getD 4 0, ts.getD 5 0, ts.getD 6 0, ts.getD 7 0, ts.getD 8 0, rc, lock, rest⟩
theorem mkPh_cells (on : Bool) (ts : List Int) (rc : Int) (lock rest : Bool) (h : ts.length = 9) : (mkPh on ts rc lock rest).cells = [.bool on] ++ ints ts ++ [.int .i64 rc, .bool lock, .bool rest] := by
  match ts, h with
  | [a, b, c, d, e, f, g, i, j], _ => rfl
def phaseS (l : List UInt8) (n : Nat) : Rs Ph :=
  match yesS l n with
  | .error e => .error e
  | .ok (on, n1) => match timesS (fun n => numS l 2 0 9999 n) 9 n1 with
    | .error e => .error e
    | .ok (ts, n2) => match numS l 1 0 3 n2 with
      | .error e => .error e
      | .ok (rc, n3) => match yesS l n3 with
        | .error e => .error e
        | .ok (lock, n4) => match yesS l n4 with
          | .error e => .error e
          | .ok (rest, n5) => .ok (mkPh on ts rc lock rest, n5)
def isPh : World → Ph → Value → Prop := fun _ x v => v = .agg x.cells.toArray

set_option maxRecDepth 100000 in
set_option maxHeartbeats 4000000 in
theorem phase_read (w : World) (B : Nat) (l : List UInt8) (n : Nat) (h : RdAt w B l n 0 0) (hl : l.length ≤ 1000000000) :
    Calls Tryz.prog 63 #[readerV B] w (RdPost B l w isPh (phaseS l n)) := by
  have hlt := h.lt
  have hx0 := ((Ext.refl w).alloc (.cells #[.pointer (some ⟨B, 0, none⟩)] 59)).alloc (.cells #[.bool false, .int .i64 0, .int .i64 0, .int .i64 0, .int .i64 0, .int .i64 0, .int .i64 0, .int .i64 0, .int .i64 0, .int .i64 0, .int .i64 0, .bool false, .bool false] 26)
  have hRa := (Held.made (ExtB.refl B w) hlt [.pointer (some ⟨B, 0, none⟩)] 59).ext ((Ext.refl _).alloc (.cells #[.bool false, .int .i64 0, .int .i64 0, .int .i64 0, .int .i64 0, .int .i64 0, .int .i64 0, .int .i64 0, .int .i64 0, .int .i64 0, .int .i64 0, .bool false, .bool false] 26))
  have hTa := Held.made ((((Ext.refl w).alloc (.cells #[.pointer (some ⟨B, 0, none⟩)] 59))).toB B) hlt [.bool false, .int .i64 0, .int .i64 0, .int .i64 0, .int .i64 0, .int .i64 0, .int .i64 0, .int .i64 0, .int .i64 0, .int .i64 0, .int .i64 0, .bool false, .bool false] 26
  rw [World.size_alloc] at hTa
  have hc := readYes_c _ B l n (h.ext hx0) hl
  unfold readerV at hc ⊢
  unfold RdPost at hc
  obtain ⟨r, hr⟩ : ∃ r, phaseS l n = r := ⟨_, rfl⟩
  rw [hr]
  unfold phaseS at hr
  have RA := Lib.hid hRa; clear hRa
  have TA := Lib.hid hTa; clear hTa
  generalize hk : yesS l n = rk at hc hr
  rcases rk with ⟨c, f⟩ | ⟨on, n1⟩
  · dsimp only at hr hc
    subst hr
    have H := Lib.hid hc; clear hc h hk
    go_enter Tryz.func63, Tryz.ntmps63
    go_wp2_with fail
    refine H.out.mono ?_
    rintro e w1 ⟨rfl, hx⟩
    go_wp2
    exact ⟨rfl, rfl, (hx0.toB B).trans hx⟩
  dsimp only at hr hc
  clear hk
  have H := Lib.hid hc; clear hc h
  have HR := Lib.hid hr; clear hr
  go_enter Tryz.func63, Tryz.ntmps63
  go_wp2_with fail
  refine H.out.mono ?_
  rintro e w1 ⟨_, rfl, rfl, hrd, hx⟩
  clear H
  have hR := RA.out.step hx
  have hT := TA.out.step hx
  have hcR := hR.cell (j := 0) rfl
  have hP := (Held.made hR.x hlt (phH on ++ fill [] 9 ++ phT) 26).ext ((Ext.refl _).alloc (.cells (ptrs w1.heap.size 1 9).toArray 107))
  have hS := Held.made ((hR.ext ((Ext.refl _).alloc (.cells (phH on ++ fill [] 9 ++ phT).toArray 26))).x) hlt (ptrs w1.heap.size 1 9) 107
  rw [World.size_alloc] at hS
  have hR2 := (hR.ext ((Ext.refl _).alloc (.cells (phH on ++ fill [] 9 ++ phT).toArray 26))).ext ((Ext.refl _).alloc (.cells (ptrs w1.heap.size 1 9).toArray 107))
  have hT2 := (hT.ext ((Ext.refl _).alloc (.cells (phH on ++ fill [] 9 ++ phT).toArray 26))).ext ((Ext.refl _).alloc (.cells (ptrs w1.heap.size 1 9).toArray 107))
  have hD2 := (hrd.ext ((Ext.refl _).alloc (.cells (phH on ++ fill [] 9 ++ phT).toArray 26))).ext ((Ext.refl _).alloc (.cells (ptrs w1.heap.size 1 9).toArray 107))
  have hlT := hT.lt
  have HP := Lib.hid hP; clear hP
  have HS := Lib.hid hS; clear hS
  have HR2 := Lib.hid hR2; clear hR2 hR RA
  have HT2 := Lib.hid hT2; clear hT2 hT TA
  have HD2 := Lib.hid hD2; clear hD2 hrd hx hx0
  obtain ⟨r9, hr9⟩ : ∃ r9, timesS (fun n => numS l 2 0 9999 n) 9 n1 = r9 := ⟨_, rfl⟩
  have hr := HR.out
  rw [hr9] at hr
  clear HR
  have HR := Lib.hid hr; clear hr
  have HR9 := Lib.hid hr9; clear hr9
  go_wp2_with fail
  generalize w1.heap.size = P at *
  go_loopw [20] (fun i wr => ∃ (j m : Nat) (acc : List Int), j ≤ 9 ∧ i = .int .i64 j ∧ acc.length = j ∧ Held w B wr w.heap.size [.pointer (some ⟨B, 0, none⟩)] ∧
    Held w B wr (w.heap.size + 1) [.bool false, .int .i64 0, .int .i64 0, .int .i64 0, .int .i64 0, .int .i64 0, .int .i64 0, .int .i64 0, .int .i64 0, .int .i64 0, .int .i64 0, .bool false, .bool false] ∧
    Held w B wr (P + 1) (ptrs P 1 9) ∧ Held w B wr P (phH on ++ fill acc 9 ++ phT) ∧ RdAt wr B l m 0 0 ∧ prep acc (timesS (fun n => numS l 2 0 9999 n) (9 - j) m) = r9) (fun i _ => 9 - (intOf i).toNat)
  case atStart => exact ⟨0, n1, [], Nat.zero_le _, rfl, rfl, HR2.out, HT2.out, HS.out, HP.out, HD2.out, by rw [prep_nil]; exact HR9.out⟩
  case round =>
    obtain ⟨j, m, acc, hj, rfl, hacc, hR, hT, hS, hP, hrd, hpr⟩ := hrel
    clear HR2 HT2 HS HP HD2 HR9 hcR
    by_cases hlt2 : j < 9
    · have hcn := time_c wr B l m hrd hl
      have hcR := hR.cell (j := 0) rfl
      have hcS := hS.cell (ptrs_get P 1 9 j hlt2)
      obtain ⟨d, hd⟩ : ∃ d, 9 - j = d + 1 := ⟨9 - j - 1, by omega⟩
      rw [hd] at hpr
      unfold RdPost readerV at hcn
      generalize hq : numS l 2 0 9999 m = rq at hcn
      rcases rq with ⟨c, f⟩ | ⟨x, m'⟩
      · rw [prep_err acc _ d m _ hq] at hpr
        subst hpr
        have hr := HR.out
        dsimp only at hr
        subst hr
        have H := Lib.hid hcn; clear hcn hq HR
        have HX := Lib.hid hR.x; clear hR hT hS hP hrd
        go_wp2_with fail
        refine H.out.mono ?_
        rintro e w2 ⟨rfl, hx2⟩
        go_wp2
        exact ⟨rfl, rfl, HX.out.trans hx2⟩
      · rw [prep_ok acc _ d m x m' hq] at hpr
        have H := Lib.hid hcn; clear hcn hq
        have HPR := Lib.hid hpr; clear hpr
        have HRR := Lib.hid hR; clear hR
        have HTT := Lib.hid hT; clear hT
        have HSS := Lib.hid hS; clear hS
        have HPP := Lib.hid hP; clear hP hrd
        go_wp2_with fail
        refine H.out.mono ?_
        rintro e w2 ⟨_, rfl, rfl, hrd2, hx2⟩
        clear H hcR hcS
        have hP2 := HPP.out.step hx2
        have hc2 := hP2.cell (fill_at (phH on) phT acc 9 (by omega))
        rw [show (phH on).length + acc.length = 1 + j by simp [phH, hacc]] at hc2
        have hz2 := hP2.free (1 + j)
        have hP3 := hP2.set (1 + j) (.int .i64 x)
        rw [fill_set (phH on) phT acc 9 (1 + j) x (by simp [phH, hacc]) (by omega)] at hP3
        have hrd3 := hP2.rd hrd2 (1 + j) (.int .i64 x)
        have hR3 := (HRR.out.step hx2).other (g' := P) hP2.new (by omega) (1 + j) (.int .i64 x)
        have hT3 := (HTT.out.step hx2).other (g' := P) hP2.new (by omega) (1 + j) (.int .i64 x)
        have hS3 := (HSS.out.step hx2).other (g' := P) hP2.new (by omega) (1 + j) (.int .i64 x)
        have HP3 := Lib.hid hP3; clear hP3 hP2 HPP
        have HR3 := Lib.hid hR3; clear hR3 HRR
        have HT3 := Lib.hid hT3; clear hT3 HTT
        have HS3 := Lib.hid hS3; clear hS3 HSS
        have HD3 := Lib.hid hrd3; clear hrd3 hrd2 hx2
        go_wp2
        go_roundw
        case rel => exact ⟨j + 1, m', acc ++ [x], by omega, by go_num, by simp [hacc], HR3.out, HT3.out, HS3.out, HP3.out, HD3.out, by rw [show 9 - (j + 1) = d by omega]; exact HPR.out⟩
        case measure => simp [intOf]; omega
    · rw [show 9 - j = 0 by omega, prep_zero] at hpr
      subst hpr
      have hr := HR.out
      dsimp only at hr
      clear HR hS
      obtain ⟨a1, a2, a3, a4, a5, a6, a7, a8, a9, rfl⟩ : ∃ a1 a2 a3 a4 a5 a6 a7 a8 a9, acc = [a1, a2, a3, a4, a5, a6, a7, a8, a9] := by
        match acc, (show acc.length = 9 by omega) with
        | [a1, a2, a3, a4, a5, a6, a7, a8, a9], _ => exact ⟨a1, a2, a3, a4, a5, a6, a7, a8, a9, rfl⟩
      change Held w B wr P [.bool on, .int .i64 a1, .int .i64 a2, .int .i64 a3, .int .i64 a4, .int .i64 a5, .int .i64 a6, .int .i64 a7, .int .i64 a8, .int .i64 a9, .int .i64 0, .bool false, .bool false] at hP
      have HR := Lib.hid hR; clear hR
      have HT := Lib.hid hT; clear hT
      have HP := Lib.hid hP; clear hP
      have HD := Lib.hid hrd; clear hrd
      have HQ := Lib.hid hr; clear hr
      have hcR := HR.out.cell (j := 0) rfl
      go_wp2_with fail
      have hcn := num_c _ B l _ HD.out 1 0 3 hl (by omega)
      have hr := HQ.out
      clear HQ
      unfold RdPost readerV at hcn
      generalize hq : numS l 1 0 3 m = rq at hcn hr
      rcases rq with ⟨c, f⟩ | ⟨rc, m2⟩
      · dsimp only at hr
        subst hr
        refine hcn.mono ?_
        rintro e w2 ⟨rfl, hx2⟩
        have HX := Lib.hid (HR.out.x.trans hx2)
        clear hcn hq hx2
        go_wp2
        exact ⟨rfl, rfl, HX.out⟩
      dsimp only at hr
      have HQ := Lib.hid hr; clear hr
      refine hcn.mono ?_
      clear hcn hq
      rintro e w2 ⟨_, rfl, rfl, hrd2, hx2⟩
      clear hcR
      have hP2 := HP.out.step hx2
      have hc2 := hP2.cell (j := 10) rfl
      have hz2 := hP2.free 10
      have HD2 := Lib.hid (hP2.rd hrd2 10 (.int .i64 rc))
      have HR2 := Lib.hid ((HR.out.step hx2).other (g' := P) hP2.new (by omega) 10 (.int .i64 rc))
      have HT2 := Lib.hid ((HT.out.step hx2).other (g' := P) hP2.new (by omega) 10 (.int .i64 rc))
      have hP3 := hP2.set 10 (.int .i64 rc)
      change Held w B _ P [.bool on, .int .i64 a1, .int .i64 a2, .int .i64 a3, .int .i64 a4, .int .i64 a5, .int .i64 a6, .int .i64 a7, .int .i64 a8, .int .i64 a9, .int .i64 rc, .bool false, .bool false] at hP3
      clear HD HR HT HP hrd2 hx2 hP2
      have HD := HD2; clear HD2
      have HR := HR2; clear HR2
      have HT := HT2; clear HT2
      have HP := Lib.hid hP3; clear hP3
      have hcR := HR.out.cell (j := 0) rfl
      go_wp2_with fail
      clear hc2 hz2
      have hcn := readYes_c _ B l _ HD.out hl
      have hr := HQ.out
      clear HQ
      unfold RdPost readerV at hcn
      generalize hq : yesS l m2 = rq at hcn hr
      rcases rq with ⟨c, f⟩ | ⟨lock, m3⟩
      · dsimp only at hr
        subst hr
        refine hcn.mono ?_
        rintro e w3 ⟨rfl, hx2⟩
        have HX := Lib.hid (HR.out.x.trans hx2)
        clear hcn hq hx2
        go_wp2
        exact ⟨rfl, rfl, HX.out⟩
      dsimp only at hr
      have HQ := Lib.hid hr; clear hr
      refine hcn.mono ?_
      clear hcn hq
      rintro e w3 ⟨_, rfl, rfl, hrd2, hx2⟩
      clear hcR
      have hP2 := HP.out.step hx2
      have hc2 := hP2.cell (j := 11) rfl
      have hz2 := hP2.free 11
      have HD2 := Lib.hid (hP2.rd hrd2 11 (.bool lock))
      have HR2 := Lib.hid ((HR.out.step hx2).other (g' := P) hP2.new (by omega) 11 (.bool lock))
      have HT2 := Lib.hid ((HT.out.step hx2).other (g' := P) hP2.new (by omega) 11 (.bool lock))
      have hP3 := hP2.set 11 (.bool lock)
      change Held w B _ P [.bool on, .int .i64 a1, .int .i64 a2, .int .i64 a3, .int .i64 a4, .int .i64 a5, .int .i64 a6, .int .i64 a7, .int .i64 a8, .int .i64 a9, .int .i64 rc, .bool lock, .bool false] at hP3
      clear HD HR HT HP hrd2 hx2 hP2
      have HD := HD2; clear HD2
      have HR := HR2; clear HR2
      have HT := HT2; clear HT2
      have HP := Lib.hid hP3; clear hP3
      have hcR := HR.out.cell (j := 0) rfl
      go_wp2_with fail
      clear hc2 hz2
      have hcn := readYes_c _ B l _ HD.out hl
      have hr := HQ.out
      clear HQ
      unfold RdPost readerV at hcn
      generalize hq : yesS l m3 = rq at hcn hr
      rcases rq with ⟨c, f⟩ | ⟨rest, m4⟩
      · dsimp only at hr
        subst hr
        refine hcn.mono ?_
        rintro e w4 ⟨rfl, hx2⟩
        have HX := Lib.hid (HR.out.x.trans hx2)
        clear hcn hq hx2
        go_wp2
        exact ⟨rfl, rfl, HX.out⟩
      dsimp only at hr
      have HQ := Lib.hid hr; clear hr
      refine hcn.mono ?_
      clear hcn hq
      rintro e w4 ⟨_, rfl, rfl, hrd2, hx2⟩
      clear hcR
      have hP2 := HP.out.step hx2
      have hc2 := hP2.cell (j := 12) rfl
      have hz2 := hP2.free 12
      have HD2 := Lib.hid (hP2.rd hrd2 12 (.bool rest))
      have HR2 := Lib.hid ((HR.out.step hx2).other (g' := P) hP2.new (by omega) 12 (.bool rest))
      have HT2 := Lib.hid ((HT.out.step hx2).other (g' := P) hP2.new (by omega) 12 (.bool rest))
      have hP3 := hP2.set 12 (.bool rest)
      change Held w B _ P [.bool on, .int .i64 a1, .int .i64 a2, .int .i64 a3, .int .i64 a4, .int .i64 a5, .int .i64 a6, .int .i64 a7, .int .i64 a8, .int .i64 a9, .int .i64 rc, .bool lock, .bool rest] at hP3
      clear HD HR HT HP hrd2 hx2 hP2
      have HD := HD2; clear HD2
      have HR := HR2; clear HR2
      have HT := HT2; clear HT2
      have HP := Lib.hid hP3; clear hP3
      have hr := HQ.out
      subst hr
      have HIN := Lib.hid (show (Tryz.prog.info? 26).map (·.size) = some ([.bool on, .int .i64 a1, .int .i64 a2, .int .i64 a3, .int .i64 a4, .int .i64 a5, .int .i64 a6, .int .i64 a7, .int .i64 a8, .int .i64 a9, .int .i64 rc, .bool lock, .bool rest] : List Value).length by kernel_rfl)
      have HIN2 := Lib.hid (show (Tryz.prog.info? 26).map (·.size) = some ([.bool on, .int .i64 a1, .int .i64 a2, .int .i64 a3, .int .i64 a4, .int .i64 a5, .int .i64 a6, .int .i64 a7, .int .i64 a8, .int .i64 a9, .int .i64 rc, .bool lock, .bool rest] : List Value).toArray.size by kernel_rfl)
      have HRG := Lib.hid HP.out.range
      have HTH := Lib.hid (HT.out.there 0 13 (by simp))
      have HT2 := Lib.hid (HT.out.all [.bool on, .int .i64 a1, .int .i64 a2, .int .i64 a3, .int .i64 a4, .int .i64 a5, .int .i64 a6, .int .i64 a7, .int .i64 a8, .int .i64 a9, .int .i64 rc, .bool lock, .bool rest] rfl)
      have HD2 := Lib.hid (HT.out.sets_rd HD.out 0 [.bool on, .int .i64 a1, .int .i64 a2, .int .i64 a3, .int .i64 a4, .int .i64 a5, .int .i64 a6, .int .i64 a7, .int .i64 a8, .int .i64 a9, .int .i64 rc, .bool lock, .bool rest])
      have HON := Lib.hid (show ([.bool on, .int .i64 a1, .int .i64 a2, .int .i64 a3, .int .i64 a4, .int .i64 a5, .int .i64 a6, .int .i64 a7, .int .i64 a8, .int .i64 a9, .int .i64 rc, .bool lock, .bool rest] : List Value).toArray.all (·.oneCell') = true from all_oneCell_toArray (by simp [Value.oneCell']))
      clear HP HT HD HR HQ
      go_wp2_with (first
        | ((with_reducible refine atLoad _ rfl ?_); refine wpList_load_mid rfl 26 _ rfl _ _ rfl _ _ HRG.out Tryz.underlying26 rfl HIN.out ?_)
        | ((with_reducible refine atStore _ rfl ?_); refine wpList_store_mid rfl 26 _ _ rfl (w.heap.size + 1) 0 _ rfl rfl HTH.out HIN2.out HON.out ?_))
      exact bodyPost_ret (results_agg rfl _ _ _ _ rfl _ _ HT2.out.range Tryz.underlying26 rfl HIN.out) rfl ⟨_, rfl, rfl, HD2.out, HT2.out.x⟩
end Go.Proofs.YtpopnmelcplbbaaGreat
namespace Go.Proofs.YtpopnmelcplbbaaGreat
open Go.RowKit

def detS (l : List UInt8) (n : Nat) : Rs Det :=
  match numS l 1 0 7 n with
  | .error e => .error e
  | .ok (phase, m1) => match floatS l 1 m1 with
    | .error e => .error e
    | .ok (on, m2) => match floatS l 2 m2 with
      | .error e => .error e
      | .ok (off, m3) => match floatS l 3 m3 with
        | .error e => .error e
        | .ok (delay, m4) => match floatS l 4 m4 with
          | .error e => .error e
          | .ok (extend, m5) => match numS l 2 0 9999 m5 with
            | .error e => .error e
            | .ok (maxOn, m6) => match numS l 2 0 9999 m6 with
              | .error e => .error e
              | .ok (maxOff, m7) => .ok (⟨phase, on, off, delay, extend, maxOn, maxOff⟩, m7)
def isDet : World → Det → Value → Prop := fun _ x v => v = .agg x.cells.toArray

set_option maxRecDepth 100000 in
set_option maxHeartbeats 4000000 in
theorem detector_read (w : World) (B : Nat) (l : List UInt8) (n : Nat) (h : RdAt w B l n 0 0) (hl : l.length ≤ 1000000000) :
    Calls Tryz.prog 66 #[readerV B] w (RdPost B l w isDet (detS l n)) := by
  have hlt := h.lt
  have hx0 := ((Ext.refl w).alloc (.cells #[.pointer (some ⟨B, 0, none⟩)] 59)).alloc (.cells ([.int .i64 0, .float .f64 0, .float .f64 0, .float .f64 0, .float .f64 0, .int .i64 0, .int .i64 0] : List Value).toArray 68)
  have hRa := (Held.made (ExtB.refl B w) hlt [.pointer (some ⟨B, 0, none⟩)] 59).ext ((Ext.refl _).alloc (.cells ([.int .i64 0, .float .f64 0, .float .f64 0, .float .f64 0, .float .f64 0, .int .i64 0, .int .i64 0] : List Value).toArray 68))
  have hTa := Held.made ((((Ext.refl w).alloc (.cells #[.pointer (some ⟨B, 0, none⟩)] 59))).toB B) hlt [.int .i64 0, .float .f64 0, .float .f64 0, .float .f64 0, .float .f64 0, .int .i64 0, .int .i64 0] 68
  rw [World.size_alloc] at hTa
  have hc := num_c _ B l n (h.ext hx0) 1 0 7 hl (by omega)
  unfold readerV at hc ⊢
  unfold RdPost at hc
  obtain ⟨r, hr⟩ : ∃ r, detS l n = r := ⟨_, rfl⟩
  rw [hr]
  unfold detS at hr
  have RA := Lib.hid hRa; clear hRa
  have TA := Lib.hid hTa; clear hTa
  generalize hk : numS l 1 0 7 n = rk at hc hr
  rcases rk with ⟨c, f⟩ | ⟨phase, m1⟩
  · dsimp only at hr hc
    subst hr
    have H := Lib.hid hc; clear hc h hk
    go_enter Tryz.func66, Tryz.ntmps66
    go_wp2_with fail
    refine H.out.mono ?_
    rintro e w1 ⟨rfl, hx⟩
    go_wp2
    exact ⟨rfl, rfl, (hx0.toB B).trans hx⟩
  dsimp only at hr hc
  clear hk
  have H := Lib.hid hc; clear hc h
  have HQ := Lib.hid hr; clear hr
  go_enter Tryz.func66, Tryz.ntmps66
  go_wp2_with fail
  refine H.out.mono ?_
  rintro e w1 ⟨_, rfl, rfl, hrd, hx⟩
  clear H
  have hR := RA.out.step hx
  have hT := TA.out.step hx
  have HP := Lib.hid (Held.made hR.x hlt [.int .i64 phase, .float .f64 0, .float .f64 0, .float .f64 0, .float .f64 0, .int .i64 0, .int .i64 0] 68)
  have hlT := hT.lt
  have HR := Lib.hid (hR.ext ((Ext.refl _).alloc (.cells ([.int .i64 phase, .float .f64 0, .float .f64 0, .float .f64 0, .float .f64 0, .int .i64 0, .int .i64 0] : List Value).toArray 68)))
  have HT := Lib.hid (hT.ext ((Ext.refl _).alloc (.cells ([.int .i64 phase, .float .f64 0, .float .f64 0, .float .f64 0, .float .f64 0, .int .i64 0, .int .i64 0] : List Value).toArray 68)))
  have HD := Lib.hid (hrd.ext ((Ext.refl _).alloc (.cells ([.int .i64 phase, .float .f64 0, .float .f64 0, .float .f64 0, .float .f64 0, .int .i64 0, .int .i64 0] : List Value).toArray 68)))
  clear hR hT hrd hx hx0 RA TA
  have hcR := HR.out.cell (j := 0) rfl
  go_wp2_with fail
  generalize w1.heap.size = P at *
  have hcn := float1_c _ B l _ HD.out hl
  have hr := HQ.out
  clear HQ
  unfold RdPost readerV at hcn
  generalize hq : floatS l 1 m1 = rq at hcn hr
  rcases rq with ⟨c, f⟩ | ⟨on, m2⟩
  · dsimp only at hr
    subst hr
    refine hcn.mono ?_
    rintro e w2 ⟨rfl, hx2⟩
    have HX := Lib.hid (HR.out.x.trans hx2)
    clear hcn hq hx2
    go_wp2
    exact ⟨rfl, rfl, HX.out⟩
  dsimp only at hr
  have HQ := Lib.hid hr; clear hr
  refine hcn.mono ?_
  clear hcn hq
  rintro e w2 ⟨_, rfl, rfl, hrd2, hx2⟩
  clear hcR
  have hP2 := HP.out.step hx2
  have hc2 := hP2.cell (j := 1) rfl
  have hz2 := hP2.free 1
  have HD2 := Lib.hid (hP2.rd hrd2 1 (.float .f64 on))
  have HR2 := Lib.hid ((HR.out.step hx2).other (g' := P) hP2.new (by omega) 1 (.float .f64 on))
  have HT2 := Lib.hid ((HT.out.step hx2).other (g' := P) hP2.new (by omega) 1 (.float .f64 on))
  have hP3 := hP2.set 1 (.float .f64 on)
  change Held w B _ P [.int .i64 phase, .float .f64 on, .float .f64 0, .float .f64 0, .float .f64 0, .int .i64 0, .int .i64 0] at hP3
  clear HD HR HT HP hrd2 hx2 hP2
  have HD := HD2; clear HD2
  have HR := HR2; clear HR2
  have HT := HT2; clear HT2
  have HP := Lib.hid hP3; clear hP3
  have hcR := HR.out.cell (j := 0) rfl
  go_wp2_with fail
  clear hc2 hz2
  have hcn := float2_c _ B l _ HD.out hl
  have hr := HQ.out
  clear HQ
  unfold RdPost readerV at hcn
  generalize hq : floatS l 2 m2 = rq at hcn hr
  rcases rq with ⟨c, f⟩ | ⟨off, m3⟩
  · dsimp only at hr
    subst hr
    refine hcn.mono ?_
    rintro e w3 ⟨rfl, hx2⟩
    have HX := Lib.hid (HR.out.x.trans hx2)
    clear hcn hq hx2
    go_wp2
    exact ⟨rfl, rfl, HX.out⟩
  dsimp only at hr
  have HQ := Lib.hid hr; clear hr
  refine hcn.mono ?_
  clear hcn hq
  rintro e w3 ⟨_, rfl, rfl, hrd2, hx2⟩
  clear hcR
  have hP2 := HP.out.step hx2
  have hc2 := hP2.cell (j := 2) rfl
  have hz2 := hP2.free 2
  have HD2 := Lib.hid (hP2.rd hrd2 2 (.float .f64 off))
  have HR2 := Lib.hid ((HR.out.step hx2).other (g' := P) hP2.new (by omega) 2 (.float .f64 off))
  have HT2 := Lib.hid ((HT.out.step hx2).other (g' := P) hP2.new (by omega) 2 (.float .f64 off))
  have hP3 := hP2.set 2 (.float .f64 off)
  change Held w B _ P [.int .i64 phase, .float .f64 on, .float .f64 off, .float .f64 0, .float .f64 0, .int .i64 0, .int .i64 0] at hP3
  clear HD HR HT HP hrd2 hx2 hP2
  have HD := HD2; clear HD2
  have HR := HR2; clear HR2
  have HT := HT2; clear HT2
  have HP := Lib.hid hP3; clear hP3
  have hcR := HR.out.cell (j := 0) rfl
  go_wp2_with fail
  clear hc2 hz2
  have hcn := float3_c _ B l _ HD.out hl
  have hr := HQ.out
  clear HQ
  unfold RdPost readerV at hcn
  generalize hq : floatS l 3 m3 = rq at hcn hr
  rcases rq with ⟨c, f⟩ | ⟨delay, m4⟩
  · dsimp only at hr
    subst hr
    refine hcn.mono ?_
    rintro e w4 ⟨rfl, hx2⟩
    have HX := Lib.hid (HR.out.x.trans hx2)
    clear hcn hq hx2
    go_wp2
    exact ⟨rfl, rfl, HX.out⟩
  dsimp only at hr
  have HQ := Lib.hid hr; clear hr
  refine hcn.mono ?_
  clear hcn hq
  rintro e w4 ⟨_, rfl, rfl, hrd2, hx2⟩
  clear hcR
  have hP2 := HP.out.step hx2
  have hc2 := hP2.cell (j := 3) rfl
  have hz2 := hP2.free 3
  have HD2 := Lib.hid (hP2.rd hrd2 3 (.float .f64 delay))
  have HR2 := Lib.hid ((HR.out.step hx2).other (g' := P) hP2.new (by omega) 3 (.float .f64 delay))
  have HT2 := Lib.hid ((HT.out.step hx2).other (g' := P) hP2.new (by omega) 3 (.float .f64 delay))
  have hP3 := hP2.set 3 (.float .f64 delay)
  change Held w B _ P [.int .i64 phase, .float .f64 on, .float .f64 off, .float .f64 delay, .float .f64 0, .int .i64 0, .int .i64 0] at hP3
  clear HD HR HT HP hrd2 hx2 hP2
  have HD := HD2; clear HD2
  have HR := HR2; clear HR2
  have HT := HT2; clear HT2
  have HP := Lib.hid hP3; clear hP3
  have hcR := HR.out.cell (j := 0) rfl
  go_wp2_with fail
  clear hc2 hz2
  have hcn := float4_c _ B l _ HD.out hl
  have hr := HQ.out
  clear HQ
  unfold RdPost readerV at hcn
  generalize hq : floatS l 4 m4 = rq at hcn hr
  rcases rq with ⟨c, f⟩ | ⟨extend, m5⟩
  · dsimp only at hr
    subst hr
    refine hcn.mono ?_
    rintro e w5 ⟨rfl, hx2⟩
    have HX := Lib.hid (HR.out.x.trans hx2)
    clear hcn hq hx2
    go_wp2
    exact ⟨rfl, rfl, HX.out⟩
  dsimp only at hr
  have HQ := Lib.hid hr; clear hr
  refine hcn.mono ?_
  clear hcn hq
  rintro e w5 ⟨_, rfl, rfl, hrd2, hx2⟩
  clear hcR
  have hP2 := HP.out.step hx2
  have hc2 := hP2.cell (j := 4) rfl
  have hz2 := hP2.free 4
  have HD2 := Lib.hid (hP2.rd hrd2 4 (.float .f64 extend))
  have HR2 := Lib.hid ((HR.out.step hx2).other (g' := P) hP2.new (by omega) 4 (.float .f64 extend))
  have HT2 := Lib.hid ((HT.out.step hx2).other (g' := P) hP2.new (by omega) 4 (.float .f64 extend))
  have hP3 := hP2.set 4 (.float .f64 extend)
  change Held w B _ P [.int .i64 phase, .float .f64 on, .float .f64 off, .float .f64 delay, .float .f64 extend, .int .i64 0, .int .i64 0] at hP3
  clear HD HR HT HP hrd2 hx2 hP2
  have HD := HD2; clear HD2
  have HR := HR2; clear HR2
  have HT := HT2; clear HT2
  have HP := Lib.hid hP3; clear hP3
  have hcR := HR.out.cell (j := 0) rfl
  go_wp2_with fail
  clear hc2 hz2
  have hcn := time_c _ B l _ HD.out hl
  have hr := HQ.out
  clear HQ
  unfold RdPost readerV at hcn
  generalize hq : numS l 2 0 9999 m5 = rq at hcn hr
  rcases rq with ⟨c, f⟩ | ⟨maxOn, m6⟩
  · dsimp only at hr
    subst hr
    refine hcn.mono ?_
    rintro e w6 ⟨rfl, hx2⟩
    have HX := Lib.hid (HR.out.x.trans hx2)
    clear hcn hq hx2
    go_wp2
    exact ⟨rfl, rfl, HX.out⟩
  dsimp only at hr
  have HQ := Lib.hid hr; clear hr
  refine hcn.mono ?_
  clear hcn hq
  rintro e w6 ⟨_, rfl, rfl, hrd2, hx2⟩
  clear hcR
  have hP2 := HP.out.step hx2
  have hc2 := hP2.cell (j := 5) rfl
  have hz2 := hP2.free 5
  have HD2 := Lib.hid (hP2.rd hrd2 5 (.int .i64 maxOn))
  have HR2 := Lib.hid ((HR.out.step hx2).other (g' := P) hP2.new (by omega) 5 (.int .i64 maxOn))
  have HT2 := Lib.hid ((HT.out.step hx2).other (g' := P) hP2.new (by omega) 5 (.int .i64 maxOn))
  have hP3 := hP2.set 5 (.int .i64 maxOn)
  change Held w B _ P [.int .i64 phase, .float .f64 on, .float .f64 off, .float .f64 delay, .float .f64 extend, .int .i64 maxOn, .int .i64 0] at hP3
  clear HD HR HT HP hrd2 hx2 hP2
  have HD := HD2; clear HD2
  have HR := HR2; clear HR2
  have HT := HT2; clear HT2
  have HP := Lib.hid hP3; clear hP3
  have hcR := HR.out.cell (j := 0) rfl
  go_wp2_with fail
  clear hc2 hz2
  have hcn := time_c _ B l _ HD.out hl
  have hr := HQ.out
  clear HQ
  unfold RdPost readerV at hcn
  generalize hq : numS l 2 0 9999 m6 = rq at hcn hr
  rcases rq with ⟨c, f⟩ | ⟨maxOff, m7⟩
  · dsimp only at hr
    subst hr
    refine hcn.mono ?_
    rintro e w7 ⟨rfl, hx2⟩
    have HX := Lib.hid (HR.out.x.trans hx2)
    clear hcn hq hx2
    go_wp2
    exact ⟨rfl, rfl, HX.out⟩
  dsimp only at hr
  have HQ := Lib.hid hr; clear hr
  refine hcn.mono ?_
  clear hcn hq
  rintro e w7 ⟨_, rfl, rfl, hrd2, hx2⟩
  clear hcR
  have hP2 := HP.out.step hx2
  have hc2 := hP2.cell (j := 6) rfl
  have hz2 := hP2.free 6
  have HD2 := Lib.hid (hP2.rd hrd2 6 (.int .i64 maxOff))
  have HR2 := Lib.hid ((HR.out.step hx2).other (g' := P) hP2.new (by omega) 6 (.int .i64 maxOff))
  have HT2 := Lib.hid ((HT.out.step hx2).other (g' := P) hP2.new (by omega) 6 (.int .i64 maxOff))
  have hP3 := hP2.set 6 (.int .i64 maxOff)
  change Held w B _ P [.int .i64 phase, .float .f64 on, .float .f64 off, .float .f64 delay, .float .f64 extend, .int .i64 maxOn, .int .i64 maxOff] at hP3
  clear HD HR HT HP hrd2 hx2 hP2
  have HD := HD2; clear HD2
  have HR := HR2; clear HR2
  have HT := HT2; clear HT2
  have HP := Lib.hid hP3; clear hP3
  have hr := HQ.out
  subst hr
  have HIN := Lib.hid (show (Tryz.prog.info? 68).map (·.size) = some ([.int .i64 phase, .float .f64 on, .float .f64 off, .float .f64 delay, .float .f64 extend, .int .i64 maxOn, .int .i64 maxOff] : List Value).length by kernel_rfl)
  have HIN2 := Lib.hid (show (Tryz.prog.info? 68).map (·.size) = some ([.int .i64 phase, .float .f64 on, .float .f64 off, .float .f64 delay, .float .f64 extend, .int .i64 maxOn, .int .i64 maxOff] : List Value).toArray.size by kernel_rfl)
  have HRG := Lib.hid HP.out.range
  have HTH := Lib.hid (HT.out.there 0 7 (by simp))
  have HT2 := Lib.hid (HT.out.all [.int .i64 phase, .float .f64 on, .float .f64 off, .float .f64 delay, .float .f64 extend, .int .i64 maxOn, .int .i64 maxOff] rfl)
  have HD2 := Lib.hid (HT.out.sets_rd HD.out 0 [.int .i64 phase, .float .f64 on, .float .f64 off, .float .f64 delay, .float .f64 extend, .int .i64 maxOn, .int .i64 maxOff])
  have HON := Lib.hid (show ([.int .i64 phase, .float .f64 on, .float .f64 off, .float .f64 delay, .float .f64 extend, .int .i64 maxOn, .int .i64 maxOff] : List Value).toArray.all (·.oneCell') = true from all_oneCell_toArray (by simp [Value.oneCell']))
  clear HP HT HD HR HQ
  go_wp2_with (first
    | ((with_reducible refine atLoad _ rfl ?_); refine wpList_load_mid rfl 68 _ rfl _ _ rfl _ _ HRG.out Tryz.underlying68 rfl HIN.out ?_)
    | ((with_reducible refine atStore _ rfl ?_); refine wpList_store_mid rfl 68 _ _ rfl (w.heap.size + 1) 0 _ rfl rfl HTH.out HIN2.out HON.out ?_))
  exact bodyPost_ret (results_agg rfl _ _ _ _ rfl _ _ HT2.out.range Tryz.underlying68 rfl HIN.out) rfl ⟨_, rfl, rfl, HD2.out, HT2.out.x⟩
end Go.Proofs.YtpopnmelcplbbaaGreat
namespace Go.Proofs.YtpopnmelcplbbaaGreat
open Go.RowKit

def mkRa (a b : List Int) (lim : Int) : Ra :=
  ⟨a.getD 0 0, a.getD 1 0, a.getD 2 0, a.getD 3 0, b.getD 0 0, b.getD 1 0, b.getD 2 0, b.getD 3 0, b.getD 4 0, b.getD 5 0, lim⟩
def railS (l : List UInt8) (n : Nat) : Rs Ra :=
  match timesS (fun n => numS l 1 0 255 n) 4 n with
  | .error e => .error e
  | .ok (a, m1) => match timesS (fun n => numS l 2 0 9999 n) 6 m1 with
    | .error e => .error e
    | .ok (b, m2) => match numS l 4 0 2147483647 m2 with
      | .error e => .error e
      | .ok (lim, m3) => .ok (mkRa a b lim, m3)
def isRa : World → Ra → Value → Prop := fun _ x v => v = .agg x.cells.toArray
def zT7 : List Value := [.int .i64 0, .int .i64 0, .int .i64 0, .int .i64 0, .int .i64 0, .int .i64 0, .int .i64 0]
def zT1 : List Value := [.int .i64 0]
def nilV : List Value := []

set_option maxRecDepth 100000 in
set_option maxHeartbeats 8000000 in
theorem rail_read (w : World) (B : Nat) (l : List UInt8) (n : Nat) (h : RdAt w B l n 0 0) (hl : l.length ≤ 1000000000) :
    Calls Tryz.prog 67 #[readerV B] w (RdPost B l w isRa (railS l n)) := by
  have hlt := h.lt
  have e1 := (Ext.refl w).alloc (.cells ([.pointer (some ⟨B, 0, none⟩)] : List Value).toArray 59)
  have e2 := e1.alloc (.cells ([.int .i64 0, .int .i64 0, .int .i64 0, .int .i64 0, .int .i64 0, .int .i64 0, .int .i64 0, .int .i64 0, .int .i64 0, .int .i64 0, .int .i64 0] : List Value).toArray 72)
  have e3 := e2.alloc (.cells (nilV ++ fill [] 4 ++ zT7).toArray 72)
  have e4 := e3.alloc (.cells (ptrs (w.heap.size + 2) 0 4).toArray 107)
  have hR := (((Held.made (ExtB.refl B w) hlt [.pointer (some ⟨B, 0, none⟩)] 59).ext ((Ext.refl _).alloc (.cells ([.int .i64 0, .int .i64 0, .int .i64 0, .int .i64 0, .int .i64 0, .int .i64 0, .int .i64 0, .int .i64 0, .int .i64 0, .int .i64 0, .int .i64 0] : List Value).toArray 72))).ext ((Ext.refl _).alloc (.cells (nilV ++ fill [] 4 ++ zT7).toArray 72))).ext
    ((Ext.refl _).alloc (.cells (ptrs (w.heap.size + 2) 0 4).toArray 107))
  have hT := ((Held.made (e1.toB B) hlt [.int .i64 0, .int .i64 0, .int .i64 0, .int .i64 0, .int .i64 0, .int .i64 0, .int .i64 0, .int .i64 0, .int .i64 0, .int .i64 0, .int .i64 0] 72).ext ((Ext.refl _).alloc (.cells (nilV ++ fill [] 4 ++ zT7).toArray 72))).ext ((Ext.refl _).alloc (.cells (ptrs (w.heap.size + 2) 0 4).toArray 107))
  have hP := (Held.made (e2.toB B) hlt (nilV ++ fill [] 4 ++ zT7) 72).ext ((Ext.refl _).alloc (.cells (ptrs (w.heap.size + 2) 0 4).toArray 107))
  have hS := Held.made (e3.toB B) hlt (ptrs (w.heap.size + 2) 0 4) 107
  simp only [World.size_alloc] at hT hP hS
  have hd := h.ext e4
  have HR := Lib.hid hR; clear hR
  have HT := Lib.hid hT; clear hT
  have HP := Lib.hid hP; clear hP
  have HS := Lib.hid hS; clear hS
  have HD := Lib.hid hd; clear hd h e1 e2 e3 e4
  unfold readerV
  obtain ⟨r, hr⟩ : ∃ r, railS l n = r := ⟨_, rfl⟩
  rw [hr]
  unfold railS at hr
  obtain ⟨r4, hr4⟩ : ∃ r4, timesS (fun n => numS l 1 0 255 n) 4 n = r4 := ⟨_, rfl⟩
  rw [hr4] at hr
  have HRK := Lib.hid hr4; clear hr4
  have HQ := Lib.hid hr; clear hr
  go_enter Tryz.func67, Tryz.ntmps67
  go_wp2_with fail
  go_loopw [14] (fun i wr => ∃ (j m : Nat) (acc : List Int), j ≤ 4 ∧ i = .int .i64 j ∧ acc.length = j ∧ Held w B wr w.heap.size [.pointer (some ⟨B, 0, none⟩)] ∧
    Held w B wr (w.heap.size + 1) [.int .i64 0, .int .i64 0, .int .i64 0, .int .i64 0, .int .i64 0, .int .i64 0, .int .i64 0, .int .i64 0, .int .i64 0, .int .i64 0, .int .i64 0] ∧
    Held w B wr (w.heap.size + 3) (ptrs (w.heap.size + 2) 0 4) ∧ Held w B wr (w.heap.size + 2) (nilV ++ fill acc 4 ++ zT7) ∧ RdAt wr B l m 0 0 ∧ prep acc (timesS (fun n => numS l 1 0 255 n) (4 - j) m) = r4) (fun i _ => 4 - (intOf i).toNat)
  case atStart => exact ⟨0, n, [], Nat.zero_le _, rfl, rfl, HR.out, HT.out, HS.out, HP.out, HD.out, by rw [prep_nil]; exact HRK.out⟩
  case round =>
    obtain ⟨j, m, acc, hj, rfl, hacc, hR, hT, hS, hP, hrd, hpr⟩ := hrel
    clear HR HT HS HP HD HRK
    by_cases hlt2 : j < 4
    · have hcR := hR.cell (j := 0) rfl
      have hcS : wr.cell? ⟨(w.heap.size + 3), j, none⟩ = some (.pointer (some ⟨(w.heap.size + 2), j, none⟩)) := by have := hS.cell (ptrs_get (w.heap.size + 2) 0 4 j hlt2); simpa using this
      have HR := Lib.hid hR; clear hR
      have HT := Lib.hid hT; clear hT
      have HS := Lib.hid hS; clear hS
      have HP := Lib.hid hP; clear hP
      have HD := Lib.hid hrd; clear hrd
      go_wp2_with fail
      have hcn := set_c _ B l _ HD.out hl
      obtain ⟨d, hd⟩ : ∃ d, 4 - j = d + 1 := ⟨4 - j - 1, by omega⟩
      rw [hd] at hpr
      unfold RdPost readerV at hcn
      generalize hq : numS l 1 0 255 m = rq at hcn
      rcases rq with ⟨c, f⟩ | ⟨x, m'⟩
      · rw [prep_err acc _ d m _ hq] at hpr
        subst hpr
        have hr := HQ.out
        dsimp only at hr
        subst hr
        refine hcn.mono ?_
        rintro e w2 ⟨rfl, hx2⟩
        have HX := Lib.hid (HR.out.x.trans hx2)
        clear hcn hq hx2 HQ
        go_wp2
        exact ⟨rfl, rfl, HX.out⟩
      · rw [prep_ok acc _ d m x m' hq] at hpr
        have HPR := Lib.hid hpr; clear hpr
        refine hcn.mono ?_
        clear hcn hq
        rintro e w2 ⟨_, rfl, rfl, hrd2, hx2⟩
        clear hcR hcS
        have hP2 := HP.out.step hx2
        have hc2 := hP2.cell (fill_at nilV zT7 acc 4 (by omega))
        rw [show nilV.length + acc.length = j by simp [nilV, hacc]] at hc2
        have hz2 := hP2.free (j)
        have hP3 := hP2.set (j) (.int .i64 x)
        rw [fill_set nilV zT7 acc 4 (j) x (by simp [nilV, hacc]) (by omega)] at hP3
        have HD3 := Lib.hid (hP2.rd hrd2 (j) (.int .i64 x))
        have HR3 := Lib.hid ((HR.out.step hx2).other (g' := (w.heap.size + 2)) hP2.new (by omega) (j) (.int .i64 x))
        have HT3 := Lib.hid ((HT.out.step hx2).other (g' := (w.heap.size + 2)) hP2.new (by omega) (j) (.int .i64 x))
        have HS3 := Lib.hid ((HS.out.step hx2).other (g' := (w.heap.size + 2)) hP2.new (by omega) (j) (.int .i64 x))
        have HP3 := Lib.hid hP3; clear hP3 hP2 HP HR HT HS HD hrd2 hx2
        go_wp2
        go_roundw
        case rel => exact ⟨j + 1, m', acc ++ [x], by omega, by go_num, by simp [hacc], HR3.out, HT3.out, HS3.out, HP3.out, HD3.out, by rw [show 4 - (j + 1) = d by omega]; exact HPR.out⟩
        case measure => simp [intOf]; omega
    · rw [show 4 - j = 0 by omega, prep_zero] at hpr
      subst hpr
      have hr := HQ.out
      dsimp only at hr
      clear HQ hS
      obtain ⟨a1, a2, a3, a4, rfl⟩ : ∃ a1 a2 a3 a4, acc = [a1, a2, a3, a4] := by
        match acc, (show acc.length = 4 by omega) with
        | [a1, a2, a3, a4], _ => exact ⟨a1, a2, a3, a4, rfl⟩
      change Held w B wr (w.heap.size + 2) (ints [a1, a2, a3, a4] ++ fill [] 6 ++ zT1) at hP
      obtain ⟨r6, hr6⟩ : ∃ r6, timesS (fun n => numS l 2 0 9999 n) 6 m = r6 := ⟨_, rfl⟩
      rw [hr6] at hr
      have HRK := Lib.hid hr6; clear hr6
      have HQ := Lib.hid hr; clear hr
      have HR := Lib.hid (hR.ext ((Ext.refl _).alloc (.cells (ptrs (w.heap.size + 2) 4 6).toArray 107)))
      have HT := Lib.hid (hT.ext ((Ext.refl _).alloc (.cells (ptrs (w.heap.size + 2) 4 6).toArray 107)))
      have HP := Lib.hid (hP.ext ((Ext.refl _).alloc (.cells (ptrs (w.heap.size + 2) 4 6).toArray 107)))
      have HS := Lib.hid (Held.made hP.x hlt (ptrs (w.heap.size + 2) 4 6) 107)
      have HD := Lib.hid (hrd.ext ((Ext.refl _).alloc (.cells (ptrs (w.heap.size + 2) 4 6).toArray 107)))
      have hltP := hP.lt
      clear hR hT hP hrd hacc
      go_wp2_with fail
      clear hlt2 hj
      generalize wr.heap.size = S at *
      go_loopw [31] (fun i wr => ∃ (j m : Nat) (acc : List Int), j ≤ 6 ∧ i = .int .i64 j ∧ acc.length = j ∧ Held w B wr w.heap.size [.pointer (some ⟨B, 0, none⟩)] ∧
        Held w B wr (w.heap.size + 1) [.int .i64 0, .int .i64 0, .int .i64 0, .int .i64 0, .int .i64 0, .int .i64 0, .int .i64 0, .int .i64 0, .int .i64 0, .int .i64 0, .int .i64 0] ∧
        Held w B wr S (ptrs (w.heap.size + 2) 4 6) ∧ Held w B wr (w.heap.size + 2) ((ints [a1, a2, a3, a4]) ++ fill acc 6 ++ zT1) ∧ RdAt wr B l m 0 0 ∧ prep acc (timesS (fun n => numS l 2 0 9999 n) (6 - j) m) = r6) (fun i _ => 6 - (intOf i).toNat)
      case atStart => exact ⟨0, m, [], Nat.zero_le _, rfl, rfl, HR.out, HT.out, HS.out, HP.out, HD.out, by rw [prep_nil]; exact HRK.out⟩
      case round =>
        obtain ⟨j, m, acc, hj, rfl, hacc, hR, hT, hS, hP, hrd, hpr⟩ := hrel
        clear HR HT HS HP HD HRK
        by_cases hlt2 : j < 6
        · have hcR := hR.cell (j := 0) rfl
          have hcS : wr.cell? ⟨S, j, none⟩ = some (.pointer (some ⟨(w.heap.size + 2), 4 + j, none⟩)) := by have := hS.cell (ptrs_get (w.heap.size + 2) 4 6 j hlt2); simpa using this
          have HR := Lib.hid hR; clear hR
          have HT := Lib.hid hT; clear hT
          have HS := Lib.hid hS; clear hS
          have HP := Lib.hid hP; clear hP
          have HD := Lib.hid hrd; clear hrd
          go_wp2_with fail
          have hcn := time_c _ B l _ HD.out hl
          obtain ⟨d, hd⟩ : ∃ d, 6 - j = d + 1 := ⟨6 - j - 1, by omega⟩
          rw [hd] at hpr
          unfold RdPost readerV at hcn
          generalize hq : numS l 2 0 9999 m = rq at hcn
          rcases rq with ⟨c, f⟩ | ⟨x, m'⟩
          · rw [prep_err acc _ d m _ hq] at hpr
            subst hpr
            have hr := HQ.out
            dsimp only at hr
            subst hr
            refine hcn.mono ?_
            rintro e w2 ⟨rfl, hx2⟩
            have HX := Lib.hid (HR.out.x.trans hx2)
            clear hcn hq hx2 HQ
            go_wp2
            exact ⟨rfl, rfl, HX.out⟩
          · rw [prep_ok acc _ d m x m' hq] at hpr
            have HPR := Lib.hid hpr; clear hpr
            refine hcn.mono ?_
            clear hcn hq
            rintro e w2 ⟨_, rfl, rfl, hrd2, hx2⟩
            clear hcR hcS
            have hP2 := HP.out.step hx2
            have hc2 := hP2.cell (fill_at (ints [a1, a2, a3, a4]) zT1 acc 6 (by omega))
            rw [show (ints [a1, a2, a3, a4]).length + acc.length = 4 + j by simp [ints, hacc]] at hc2
            have hz2 := hP2.free (4 + j)
            have hP3 := hP2.set (4 + j) (.int .i64 x)
            rw [fill_set (ints [a1, a2, a3, a4]) zT1 acc 6 (4 + j) x (by simp [ints, hacc]) (by omega)] at hP3
            have HD3 := Lib.hid (hP2.rd hrd2 (4 + j) (.int .i64 x))
            have HR3 := Lib.hid ((HR.out.step hx2).other (g' := (w.heap.size + 2)) hP2.new (by omega) (4 + j) (.int .i64 x))
            have HT3 := Lib.hid ((HT.out.step hx2).other (g' := (w.heap.size + 2)) hP2.new (by omega) (4 + j) (.int .i64 x))
            have HS3 := Lib.hid ((HS.out.step hx2).other (g' := (w.heap.size + 2)) hP2.new (by omega) (4 + j) (.int .i64 x))
            have HP3 := Lib.hid hP3; clear hP3 hP2 HP HR HT HS HD hrd2 hx2
            go_wp2
            go_roundw
            case rel => exact ⟨j + 1, m', acc ++ [x], by omega, by go_num, by simp [hacc], HR3.out, HT3.out, HS3.out, HP3.out, HD3.out, by rw [show 6 - (j + 1) = d by omega]; exact HPR.out⟩
            case measure => simp [intOf]; omega
        · rw [show 6 - j = 0 by omega, prep_zero] at hpr
          subst hpr
          have hr := HQ.out
          dsimp only at hr
          clear HQ hS
          obtain ⟨b1, b2, b3, b4, b5, b6, rfl⟩ : ∃ b1 b2 b3 b4 b5 b6, acc = [b1, b2, b3, b4, b5, b6] := by
            match acc, (show acc.length = 6 by omega) with
            | [b1, b2, b3, b4, b5, b6], _ => exact ⟨b1, b2, b3, b4, b5, b6, rfl⟩
          change Held w B wr (w.heap.size + 2) [.int .i64 a1, .int .i64 a2, .int .i64 a3, .int .i64 a4, .int .i64 b1, .int .i64 b2, .int .i64 b3, .int .i64 b4, .int .i64 b5, .int .i64 b6, .int .i64 0] at hP
          have HR := Lib.hid hR; clear hR
          have HT := Lib.hid hT; clear hT
          have HP := Lib.hid hP; clear hP
          have HD := Lib.hid hrd; clear hrd
          have HQ := Lib.hid hr; clear hr
          have hcR := HR.out.cell (j := 0) rfl
          go_wp2_with fail
          have hcn := num_c _ B l _ HD.out 4 0 2147483647 hl (by omega)
          have hr := HQ.out
          clear HQ
          unfold RdPost readerV at hcn
          generalize hq : numS l 4 0 2147483647 m = rq at hcn hr
          rcases rq with ⟨c, f⟩ | ⟨lim, m3⟩
          · dsimp only at hr
            subst hr
            refine hcn.mono ?_
            rintro e w5 ⟨rfl, hx2⟩
            have HX := Lib.hid (HR.out.x.trans hx2)
            clear hcn hq hx2
            go_wp2
            exact ⟨rfl, rfl, HX.out⟩
          dsimp only at hr
          have HQ := Lib.hid hr; clear hr
          refine hcn.mono ?_
          clear hcn hq
          rintro e w5 ⟨_, rfl, rfl, hrd2, hx2⟩
          clear hcR
          have hP2 := HP.out.step hx2
          have hc2 := hP2.cell (j := 10) rfl
          have hz2 := hP2.free 10
          have HD2 := Lib.hid (hP2.rd hrd2 10 (.int .i64 lim))
          have HR2 := Lib.hid ((HR.out.step hx2).other (g' := (w.heap.size + 2)) hP2.new (by omega) 10 (.int .i64 lim))
          have HT2 := Lib.hid ((HT.out.step hx2).other (g' := (w.heap.size + 2)) hP2.new (by omega) 10 (.int .i64 lim))
          have hP3 := hP2.set 10 (.int .i64 lim)
          change Held w B _ (w.heap.size + 2) [.int .i64 a1, .int .i64 a2, .int .i64 a3, .int .i64 a4, .int .i64 b1, .int .i64 b2, .int .i64 b3, .int .i64 b4, .int .i64 b5, .int .i64 b6, .int .i64 lim] at hP3
          clear HD HR HT HP hrd2 hx2 hP2
          have HD := HD2; clear HD2
          have HR := HR2; clear HR2
          have HT := HT2; clear HT2
          have HP := Lib.hid hP3; clear hP3
          have hr := HQ.out
          subst hr
          have HIN := Lib.hid (show (Tryz.prog.info? 72).map (·.size) = some ([.int .i64 a1, .int .i64 a2, .int .i64 a3, .int .i64 a4, .int .i64 b1, .int .i64 b2, .int .i64 b3, .int .i64 b4, .int .i64 b5, .int .i64 b6, .int .i64 lim] : List Value).length by kernel_rfl)
          have HIN2 := Lib.hid (show (Tryz.prog.info? 72).map (·.size) = some ([.int .i64 a1, .int .i64 a2, .int .i64 a3, .int .i64 a4, .int .i64 b1, .int .i64 b2, .int .i64 b3, .int .i64 b4, .int .i64 b5, .int .i64 b6, .int .i64 lim] : List Value).toArray.size by kernel_rfl)
          have HRG := Lib.hid HP.out.range
          have HTH := Lib.hid (HT.out.there 0 11 (by simp))
          have HT2 := Lib.hid (HT.out.all [.int .i64 a1, .int .i64 a2, .int .i64 a3, .int .i64 a4, .int .i64 b1, .int .i64 b2, .int .i64 b3, .int .i64 b4, .int .i64 b5, .int .i64 b6, .int .i64 lim] rfl)
          have HD2 := Lib.hid (HT.out.sets_rd HD.out 0 [.int .i64 a1, .int .i64 a2, .int .i64 a3, .int .i64 a4, .int .i64 b1, .int .i64 b2, .int .i64 b3, .int .i64 b4, .int .i64 b5, .int .i64 b6, .int .i64 lim])
          have HON := Lib.hid (show ([.int .i64 a1, .int .i64 a2, .int .i64 a3, .int .i64 a4, .int .i64 b1, .int .i64 b2, .int .i64 b3, .int .i64 b4, .int .i64 b5, .int .i64 b6, .int .i64 lim] : List Value).toArray.all (·.oneCell') = true from all_oneCell_toArray (by simp [Value.oneCell']))
          clear HP HT HD HR HQ
          go_wp2_with (first
            | ((with_reducible refine atLoad _ rfl ?_); refine wpList_load_mid rfl 72 _ rfl _ _ rfl _ _ HRG.out Tryz.underlying72 rfl HIN.out ?_)
            | ((with_reducible refine atStore _ rfl ?_); refine wpList_store_mid rfl 72 _ _ rfl (w.heap.size + 1) 0 _ rfl rfl HTH.out HIN2.out HON.out ?_))
          exact bodyPost_ret (results_agg rfl _ _ _ _ rfl _ _ HT2.out.range Tryz.underlying72 rfl HIN.out) rfl ⟨_, rfl, rfl, HD2.out, HT2.out.x⟩
end Go.Proofs.YtpopnmelcplbbaaGreat
