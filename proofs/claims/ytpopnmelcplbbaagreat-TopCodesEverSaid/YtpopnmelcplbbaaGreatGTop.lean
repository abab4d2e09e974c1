/-
  crossbucktop.awake: the sample is written and read again. crossbucktop.TopCodesEver: the walk. The law 'crossbucktop.TopCodesEver': for any bytes, and both values of 'own', the call returns true, and the bytes read afterwards as they read before. No further conditions.
-/
import Derived.Test.YtpopnmelcplbbaaGreatGLaws
import Derived.Test.YtpopnmelcplbbaaGreatCheck
import Derived.Test.YtpopnmelcplbbaaGreatGRef
import Derived.Deep.RegionHeld2
import Derived.Test.YtpopnmelcplbbaaGreatRows
import Derived.WalkKit
import Derived.ProofKit
import Derived.OpenShut
import Derived.ShutString
import Derived.ChangeOld
import Derived.Below
set_option linter.unusedVariables false
set_option linter.unusedSimpArgs false
namespace Go.Proofs.YtpopnmelcplbbaaGreat
open Go.RowKit

/-- cells of a table that lies in memory -/
def TabC (w : World) (t : Tab) (cs : List Value) : Prop := ∃ gv dv rv bv, cs = t.cells gv dv rv bv ∧ TabAt w gv dv rv bv t
section
variable {w w' : World} {t : Tab} {cs cs2 : List Value}
theorem TabC.len (h : TabC w t cs) : cs.length = 131 := by obtain ⟨gv, dv, rv, bv, rfl, _⟩ := h; exact t.cells_len gv dv rv bv
theorem TabC.one (h : TabC w t cs) : cs.toArray.all (·.oneCell') = true := by obtain ⟨gv, dv, rv, bv, rfl, h⟩ := h; exact tab_one h
theorem TabC.ext (h : TabC w t cs) (x : Ext w w') : TabC w' t cs := by obtain ⟨gv, dv, rv, bv, rfl, h⟩ := h; exact ⟨gv, dv, rv, bv, rfl, h.ext x⟩
theorem All_t (h : TabC w t cs) : Calls Tryz.prog 9 #[.agg cs.toArray] w (Ret w (.tuple #[boundsA (allS t).1, faultA (allS t).2])) := by
  obtain ⟨gv, dv, rv, bv, rfl, h⟩ := h; exact All_c w gv dv rv bv t h
theorem Check_t (h : TabC w t cs) : Calls Tryz.prog 11 #[.agg cs.toArray] w (Ret w (faultA (checkS t))) := by
  obtain ⟨gv, dv, rv, bv, rfl, h⟩ := h; exact Check_c w gv dv rv bv t h
theorem Same_t (h : TabC w t cs) (h2 : TabC w t cs2) (hk : Keyed t) : Calls Tryz.prog 7 #[.agg cs.toArray, .agg cs2.toArray] w (Ret w (.bool true)) := by
  obtain ⟨gv, dv, rv, bv, rfl, h⟩ := h
  obtain ⟨gv2, dv2, rv2, bv2, rfl, h2⟩ := h2
  exact Same_c w gv dv rv bv gv2 dv2 rv2 bv2 t h h2 hk
/-- bytes that were written -/
def RetRow (w : World) (l : List UInt8) : Ending → World → Prop := fun e w' => ∃ (a : Option Addr) (r : Nat), e = .returned (.tuple #[.slice a l.length r, .int .i64 0]) ∧ RowIn w' (.slice a l.length r) l.length (bytes8 l) ∧ l.length ≤ r ∧ Ext w w'
theorem Enc_t (h : TabC w t cs) (hm : mayOk t = true) : Calls Tryz.prog 8 #[.agg cs.toArray] w (RetRow w (encB t)) := by
  obtain ⟨gv, dv, rv, bv, rfl, h⟩ := h
  refine (Encode_c w gv dv rv bv t h).mono ?_
  intro e w' hr
  unfold RetEnc at hr
  rw [if_pos hm] at hr
  obtain ⟨v, rfl, ⟨hr, hf⟩, hx⟩ := hr
  obtain ⟨a, r, rfl, _⟩ := id hr
  exact ⟨a, r, rfl, hr, hf, hx⟩
def RetTab (w : World) (t : Tab) : Ending → World → Prop := fun e w' => ∃ cs : List Value, e = .returned (.tuple #[.agg cs.toArray, .agg #[.int .i64 0, .int .i64 0]]) ∧ TabC w' t cs ∧ Ext w w'
theorem Dec_t {a : Option Addr} {r : Nat} {l : List UInt8} (hv : RowIn w (.slice a l.length r) l.length (bytes8 l)) (hr : l.length ≤ r) (hl : l.length ≤ 1000000000) (hd : decodeS l = .ok t) :
    Calls Tryz.prog 6 #[.slice a l.length r] w (RetTab w t) := by
  refine (Decode_c w a r l hv hr hl).mono ?_
  intro e w' h
  rw [hd] at h
  obtain ⟨gv, dv, rv, bv, rfl, h, hx⟩ := h
  exact ⟨_, rfl, ⟨gv, dv, rv, bv, rfl, h⟩, hx⟩
end

/-- the facts of sizes that the stores ask -/
structure Sizes (cs : List Value) : Prop where
  z : Tryz.zeroCells34.size = cs.length
  s : (Tryz.prog.info? 34).map (·.size) = some cs.toArray.size
  l : (Tryz.prog.info? 34).map (·.size) = some cs.length
theorem TabC.sizes {w : World} {t : Tab} {cs : List Value} (h : TabC w t cs) : Sizes cs := by
  have hl := h.len
  exact ⟨by rw [hl]; kernel_rfl, by rw [List.size_toArray, hl]; kernel_rfl, by rw [hl]; kernel_rfl⟩
theorem sizeF (c f : Int) : (Tryz.prog.info? 37).map (·.size) = some ([.int .i64 c, .int .i64 f] : List Value).toArray.size := by kernel_rfl
theorem sizeFl (c f : Int) : (Tryz.prog.info? 37).map (·.size) = some ([.int .i64 c, .int .i64 f] : List Value).length := by kernel_rfl
theorem sizeB (ws : List Int) (h : ws.length = 12) : (Tryz.prog.info? 45).map (·.size) = some (ints ws).toArray.size := by
  rw [List.size_toArray, ints_len, h]; kernel_rfl
theorem oneF (c f : Int) : ([.int .i64 c, .int .i64 f] : List Value).toArray.all (·.oneCell') = true := by kernel_rfl

/-- two boxes are made, and filled one behind the other -/
theorem two_boxes (W0 W : World) (x : Ext W0 W) (Z1 Z2 : Array Value) (T1 T2 : TypeId) (c1 c2 : List Value) (l1 : Z1.size = c1.length) (l2 : Z2.size = c2.length) :
    ((W.alloc (.cells Z1 T1)).alloc (.cells Z2 T2)).there W.heap.size 0 c1.toArray.size ∧ (((W.alloc (.cells Z1 T1)).alloc (.cells Z2 T2)).setCells W.heap.size 0 c1).there (W.heap.size + 1) 0 c2.toArray.size ∧
    Own0 W0 ((((W.alloc (.cells Z1 T1)).alloc (.cells Z2 T2)).setCells W.heap.size 0 c1).setCells (W.heap.size + 1) 0 c2) W.heap.size c1 ∧
    Own0 W0 ((((W.alloc (.cells Z1 T1)).alloc (.cells Z2 T2)).setCells W.heap.size 0 c1).setCells (W.heap.size + 1) 0 c2) (W.heap.size + 1) c2 ∧
    Ext W ((((W.alloc (.cells Z1 T1)).alloc (.cells Z2 T2)).setCells W.heap.size 0 c1).setCells (W.heap.size + 1) 0 c2) := by
  have h1 := (Own0.made x Z1.toList T1).ext ((Ext.refl _).alloc (.cells Z2 T2))
  have h2 := Own0.made (x.alloc (.cells Z1 T1)) Z2.toList T2
  rw [World.size_alloc] at h2
  have hsz := x.size
  have k1 := h1.all c1 (by simpa using l1)
  have k2 := h2.sets_other (g' := W.heap.size) h1.new (by omega) 0 c1
  have m1 := k1.sets_other (g' := W.heap.size + 1) h2.new (by omega) 0 c2
  have m2 := k2.all c2 (by simpa using l2)
  refine ⟨h1.there 0 _ (by simp; omega), k2.there 0 _ (by simp; omega), m1, m2, ?_⟩
  exact ((((Ext.refl W).alloc _).alloc _).setCells (Nat.le_refl _) 0 c1).setCells (by omega) 0 c2

set_option maxRecDepth 100000 in
set_option maxHeartbeats 8000000 in
theorem awake_c (w : World) : Calls Tryz.prog 4 #[] w (Ret w (.bool true)) := by
  have hzs : Tryz.zeroCells34.size = 131 := by kernel_rfl
  have hin : (Tryz.prog.info? 34).map (·.size) = some 131 := by kernel_rfl
  have hib : (Tryz.prog.info? 45).map (·.size) = some 12 := by kernel_rfl
  have hif : (Tryz.prog.info? 37).map (·.size) = some 2 := by kernel_rfl
  have HZS := Lib.hid hzs; clear hzs
  have HIN := Lib.hid hin; clear hin
  have HIB := Lib.hid hib; clear hib
  have HIF := Lib.hid hif; clear hif
  go_enter Tryz.func4, Tryz.ntmps4
  go_wp2_with fail
  refine (Sample_c _).mono ?_
  rintro e w1 ⟨gv, dv, rv, bv, rfl, hT, hx⟩
  obtain ⟨cs, hcs⟩ : ∃ cs, cs = smT.cells gv dv rv bv := ⟨_, rfl⟩
  have hC : TabC w1 smT cs := ⟨gv, dv, rv, bv, hcs, hT⟩
  have h0 : cs[0]? = some (.bool true) := by rw [hcs]; exact smT_on gv dv rv bv
  unfold tabV
  rw [← hcs]
  clear hcs hT
  have HLEN := Lib.hid hC.len
  have HONE := Lib.hid hC.one
  have H0 := Lib.hid h0; clear h0
  have his : (Tryz.prog.info? 34).map (·.size) = some cs.toArray.size := by rw [List.size_toArray, HLEN.out]; exact HIN.out
  have hil : (Tryz.prog.info? 34).map (·.size) = some cs.length := by rw [HLEN.out]; exact HIN.out
  have HIS := Lib.hid his; clear his
  have HIL := Lib.hid hil; clear hil
  have hzz : Tryz.zeroCells34.size = cs.toArray.size := by rw [HZS.out, List.size_toArray, HLEN.out]
  have HZZ := Lib.hid hzz; clear hzz
  go_wp2_with ((with_reducible refine atStore 34 rfl ?_); refine wpList_store_new 34 _ _ rfl rfl w1 Tryz.zeroCells34 cs.toArray rfl w1.heap.size rfl rfl rfl HIS.out HZZ.out HONE.out (halt ?_))
  unfold Halt
  have hx1 := (Ext.refl w1).alloc (.cells cs.toArray 34)
  have hB := Own0.made hx cs 34
  have hC1 := hC.ext hx1
  clear hx1 hC
  generalize w1.alloc (.cells cs.toArray 34) = W1 at hB hC1 ⊢
  generalize w1.heap.size = b1 at hB ⊢
  have hAll := All_t hC1
  rw [smT_all] at hAll
  have hwl := allS_len smT
  generalize (allS smT).1 = ws at hAll hwl
  have HA := Lib.hid hAll; clear hAll
  have HR := Lib.hid hB.range
  have HB := Lib.hid hB; clear hB
  have HC := Lib.hid hC1; clear hC1
  have HWL := Lib.hid hwl; clear hwl
  go_wp2_with ((with_reducible refine atLoad 34 rfl ?_); refine wpList_load_mid rfl 34 _ rfl b1 0 rfl cs _ HR.out Tryz.underlying34 rfl HIL.out ?_)
  refine HA.out.mono ?_
  rintro e w2 ⟨rfl, hx2⟩
  clear HA HR
  have hxx := HB.out.x.trans hx2
  unfold boundsA faultA
  have hbone : (ints ws).toArray.all (·.oneCell') = true := ints_all ws
  have HBO := Lib.hid hbone; clear hbone
  have hbsz := sizeB ws HWL.out
  have HBS := Lib.hid hbsz; clear hbsz
  have hb12 : (#[.int .i64 0, .int .i64 0, .int .i64 0, .int .i64 0, .int .i64 0, .int .i64 0, .int .i64 0, .int .i64 0, .int .i64 0, .int .i64 0, .int .i64 0, .int .i64 0] : Array Value).size = (ints ws).length := by rw [ints_len, HWL.out]; rfl
  have HB12 := Lib.hid hb12; clear hb12
  obtain ⟨q1, q2, o1, o2, qx⟩ := two_boxes w w2 hxx (#[.int .i64 0, .int .i64 0, .int .i64 0, .int .i64 0, .int .i64 0, .int .i64 0, .int .i64 0, .int .i64 0, .int .i64 0, .int .i64 0, .int .i64 0, .int .i64 0] : Array Value) (#[.int .i64 0, .int .i64 0] : Array Value) 45 37 (ints ws) [.int .i64 0, .int .i64 0] HB12.out rfl
  have Q1 := Lib.hid q1; clear q1
  have Q2 := Lib.hid q2; clear q2
  have O1 := Lib.hid o1; clear o1
  have O2 := Lib.hid o2; clear o2
  have QX := Lib.hid qx; clear qx
  go_wp2_with (first
    | ((with_reducible refine atStore 45 rfl ?_); (refine wpList_store_mid rfl 45 _ _ rfl w2.heap.size 0 (ints ws).toArray rfl rfl Q1.out HBS.out HBO.out ?_))
    | ((with_reducible refine atStore 37 rfl ?_); (refine wpList_store_mid rfl 37 _ _ rfl (w2.heap.size + 1) 0 ([.int .i64 0, .int .i64 0]).toArray rfl rfl Q2.out (sizeF 0 0) (oneF 0 0) (halt ?_))))
  unfold Halt
  have o1 := O1.out
  have o2 := O2.out
  have qx := QX.out
  clear Q1 Q2 O1 O2 QX
  generalize (((w2.alloc (.cells (#[.int .i64 0, .int .i64 0, .int .i64 0, .int .i64 0, .int .i64 0, .int .i64 0, .int .i64 0, .int .i64 0, .int .i64 0, .int .i64 0, .int .i64 0, .int .i64 0] : Array Value) 45)).alloc (.cells (#[.int .i64 0, .int .i64 0] : Array Value) 37)).setCells w2.heap.size 0 (ints ws)).setCells (w2.heap.size + 1) 0 ([.int .i64 0, .int .i64 0]) = W3 at o1 o2 qx ⊢
  generalize w2.heap.size = b3 at o1 o2 ⊢
  have hB3 := (HB.out.ext hx2).ext qx
  have hC3 := (HC.out.ext hx2).ext qx
  have hE := Enc_t hC3 smT_may
  have hdec := smT_dec
  have hll : (encB smT).length ≤ 1000000000 := by rw [smT_len]; omega
  generalize encB smT = l at hE hdec hll
  have HE := Lib.hid hE; clear hE
  have HDEC := Lib.hid hdec; clear hdec
  have HLL := Lib.hid hll; clear hll
  have HR := Lib.hid hB3.range
  have HB3 := Lib.hid hB3; clear hB3
  have HC3 := Lib.hid hC3; clear hC3
  have HO := Lib.hid o2
  clear o1 o2 qx hxx hx2 HB HC HBO HBS HB12 HWL
  go_wp2_with ((with_reducible refine atLoad 34 rfl ?_); (refine wpList_loadG 34 _ rfl (by rfl) b1 0 rfl cs _ HR.out Tryz.underlying34 rfl HIL.out ?_))
  refine HE.out.mono ?_
  rintro e w4 ⟨a4, r4, rfl, hv4, hr4, hx4⟩
  have HD := Lib.hid (Dec_t hv4 hr4 HLL.out HDEC.out)
  have HB4 := Lib.hid (HB3.out.ext hx4)
  have HC4 := Lib.hid (HC3.out.ext hx4)
  have HO4 := Lib.hid (HO.out.ext hx4)
  clear HE HR HB3 HC3 HO hv4 hr4 hx4 HDEC HLL
  go_wp2_with fail
  refine HD.out.mono ?_
  rintro e w5 ⟨cs2, rfl, hC2, hx5⟩
  have hxx := (HB4.out.ext hx5).x
  have hsz := hC2.sizes
  have HSZ := Lib.hid hsz; clear hsz
  have HONE2 := Lib.hid hC2.one
  obtain ⟨q1, q2, o1, o2, qx⟩ := two_boxes w w5 hxx Tryz.zeroCells34 (#[.int .i64 0, .int .i64 0] : Array Value) 34 37 (cs2) [.int .i64 0, .int .i64 0] HSZ.out.z rfl
  have Q1 := Lib.hid q1; clear q1
  have Q2 := Lib.hid q2; clear q2
  have O1 := Lib.hid o1; clear o1
  have O2 := Lib.hid o2; clear o2
  have QX := Lib.hid qx; clear qx
  go_wp2_with (first
    | ((with_reducible refine atStore 34 rfl ?_); (refine wpList_store_mid rfl 34 _ _ rfl w5.heap.size 0 (cs2).toArray rfl rfl Q1.out HSZ.out.s HONE2.out ?_))
    | ((with_reducible refine atStore 37 rfl ?_); (refine wpList_store_mid rfl 37 _ _ rfl (w5.heap.size + 1) 0 ([.int .i64 0, .int .i64 0]).toArray rfl rfl Q2.out (sizeF 0 0) (oneF 0 0) (halt ?_))))
  unfold Halt
  have o1 := O1.out
  have o2 := O2.out
  have qx := QX.out
  clear Q1 Q2 O1 O2 QX
  generalize (((w5.alloc (.cells Tryz.zeroCells34 34)).alloc (.cells (#[.int .i64 0, .int .i64 0] : Array Value) 37)).setCells w5.heap.size 0 (cs2)).setCells (w5.heap.size + 1) 0 ([.int .i64 0, .int .i64 0]) = W6 at o1 o2 qx ⊢
  generalize w5.heap.size = b6 at o1 o2 ⊢
  have hB6 := (HB4.out.ext hx5).ext qx
  have hO6 := (HO4.out.ext hx5).ext qx
  have hC6 := (HC4.out.ext hx5).ext qx
  have k3 : W6.cell? ⟨b3 + 1, 0, none⟩ = some (.int .i64 0) := hO6.cell rfl
  have k7 : W6.cell? ⟨b6 + 1, 0, none⟩ = some (.int .i64 0) := o2.cell rfl
  have HS := Lib.hid (Same_t hC6 (hC2.ext qx) smT_keyed)
  have HR := Lib.hid hB6.range
  have HR2 := Lib.hid o1.range
  have HB6 := Lib.hid hB6
  clear o1 o2 qx hxx hx5 hB6 hO6 hC6 hC2 HB4 HC4 HO4 HD
  go_wp2_with (first
    | ((with_reducible refine atLoad 34 rfl ?_); (refine wpList_loadG 34 _ rfl (by rfl) b1 0 rfl cs _ HR.out Tryz.underlying34 rfl HIL.out ?_))
    | ((with_reducible refine atLoad 34 rfl ?_); (refine wpList_loadG 34 _ rfl (by rfl) b6 0 rfl cs2 _ HR2.out Tryz.underlying34 rfl HSZ.out.l ?_)))
  refine HS.out.mono ?_
  rintro e w7 ⟨rfl, hx7⟩
  have k0 : w7.cell? ⟨b1, 0, none⟩ = some (.bool true) := (HB6.out.ext hx7).cell H0.out
  have HX := Lib.hid (HB6.out.ext hx7).x
  clear HS HR HR2 HB6 hx7 k3 k7
  go_wp2
  go_ret
  exact ⟨rfl, HX.out⟩
end Go.Proofs.YtpopnmelcplbbaaGreat
namespace Go.Proofs.YtpopnmelcplbbaaGreat
open Go.RowKit

def RetFault (w : World) (c f : Int) : Ending → World → Prop := fun e w' => ∃ cs : List Value, e = .returned (.tuple #[.agg cs.toArray, .agg #[.int .i64 c, .int .i64 f]]) ∧ TabC w' zeroT cs ∧ Ext w w'
theorem Dec_f {w : World} {c f : Int} {a : Option Addr} {r : Nat} {l : List UInt8} (hv : RowIn w (.slice a l.length r) l.length (bytes8 l)) (hr : l.length ≤ r) (hl : l.length ≤ 1000000000) (hd : decodeS l = .error (c, f)) :
    Calls Tryz.prog 6 #[.slice a l.length r] w (RetFault w c f) := by
  refine (Decode_c w a r l hv hr hl).mono ?_
  intro e w' h
  rw [hd] at h
  obtain ⟨rfl, hx⟩ := h
  exact ⟨_, rfl, ⟨nilS, nilS, nilS, nilS, rfl, zeroT_at _⟩, hx⟩
theorem Same_zero {w : World} {cs : List Value} (h : TabC w zeroT cs) : Calls Tryz.prog 7 #[.agg cs.toArray, .agg Tryz.zeroCells34] w (Ret w (.bool true)) := by
  have h2 := Same_t h (cs2 := zeroT.cells nilS nilS nilS nilS) ⟨nilS, nilS, nilS, nilS, rfl, zeroT_at _⟩ zeroT_keyed
  have e : Value.agg Tryz.zeroCells34 = .agg (zeroT.cells nilS nilS nilS nilS).toArray := zeroT_V
  rw [e]
  exact h2
theorem field_code (c f : Int) (W : World) : (Instr.field 37 (.agg #[.int .i64 c, .int .i64 f]) 0).run Tryz.prog W = .ok (.int .i64 c) W := by kernel_rfl

set_option maxRecDepth 100000 in
set_option maxHeartbeats 16000000 in
theorem Top_c (w : World) (a : Option Addr) (cap : Nat) (l : List UInt8) (own : Bool) (hv : RowIn w (.slice a l.length cap) l.length (bytes8 l)) (hcap : l.length ≤ cap) :
    Calls Tryz.prog 3 #[.slice a l.length cap, .bool own] w (Ret w (.bool true)) := by
  by_cases hbig : 16777216 < l.length
  · have hb2 : (16777216 : Int) < (l.length : Int) := by omega
    clear hv hcap hbig
    go_enter Tryz.func3, Tryz.ntmps3
    go_wp2_with fail
    refine (awake_c _).mono ?_
    rintro e w5 ⟨rfl, hx5⟩
    go_wp2
    go_ret
    exact ⟨rfl, hx5⟩
  have hb2 : (l.length : Int) ≤ 16777216 := by omega
  cases own with
  | false =>
    have hx0 := Ext.refl w
    have HV := Lib.hid hv; clear hv
    have HCAP := Lib.hid hcap; clear hcap
    have HX0 := Lib.hid hx0; clear hx0
    go_enter Tryz.func3, Tryz.ntmps3
    obtain ⟨res, hres⟩ : ∃ res, decodeS l = res := ⟨_, rfl⟩
    rcases res with ⟨c, f⟩ | t
    · obtain ⟨hc0, hf0, hf1⟩ := decode_fault hres
      have hD := Dec_f HV.out HCAP.out (by omega) hres
      have HD := Lib.hid hD; clear hD hres
      go_wp2_with fail
      refine HD.out.mono ?_
      rintro e w2 ⟨cs, rfl, hC, hx2⟩
      have hxx := HX0.out.trans hx2
      have hsz := hC.sizes
      have HSZ := Lib.hid hsz; clear hsz
      have HONE := Lib.hid hC.one
      clear HD
      obtain ⟨q1, q2, o1, o2, qx⟩ := two_boxes w w2 hxx Tryz.zeroCells34 (#[.int .i64 0, .int .i64 0] : Array Value) 34 37 (cs) [.int .i64 c, .int .i64 f] HSZ.out.z rfl
      have Q1 := Lib.hid q1; clear q1
      have Q2 := Lib.hid q2; clear q2
      have O1 := Lib.hid o1; clear o1
      have O2 := Lib.hid o2; clear o2
      have QX := Lib.hid qx; clear qx
      go_wp2_with (first
        | ((with_reducible refine atStore 34 rfl ?_); (refine wpList_store_mid rfl 34 _ _ rfl w2.heap.size 0 (cs).toArray rfl rfl Q1.out HSZ.out.s HONE.out ?_))
        | ((with_reducible refine atStore 37 rfl ?_); (refine wpList_store_mid rfl 37 _ _ rfl (w2.heap.size + 1) 0 ([.int .i64 c, .int .i64 f]).toArray rfl rfl Q2.out (sizeF c f) (oneF c f) (halt ?_))))
      unfold Halt
      have o1 := O1.out
      have o2 := O2.out
      have qx := QX.out
      clear Q1 Q2 O1 O2 QX
      generalize (((w2.alloc (.cells Tryz.zeroCells34 34)).alloc (.cells (#[.int .i64 0, .int .i64 0] : Array Value) 37)).setCells w2.heap.size 0 (cs)).setCells (w2.heap.size + 1) 0 ([.int .i64 c, .int .i64 f]) = W3 at o1 o2 qx ⊢
      generalize w2.heap.size = b2 at o1 o2 ⊢
      have hC3 := hC.ext qx
      have k0 : W3.cell? ⟨b2 + 1, 0, none⟩ = some (.int .i64 c) := o2.cell rfl
      have hcn : (c != 0) = true := by simpa using hc0
      have HS := Lib.hid (Same_zero hC3)
      have HR := Lib.hid o1.range
      have HO2 := Lib.hid o2
      have HX := Lib.hid o2.x
      clear o1 o2 hC hC3 hc0 hxx hx2 qx
      go_wp2_with (first
        | ((with_reducible refine atLoad 34 rfl ?_); (refine wpList_loadG 34 _ rfl (by rfl) b2 0 rfl cs _ HR.out Tryz.underlying34 rfl HSZ.out.l ?_)))
      refine HS.out.mono ?_
      rintro e w4 ⟨rfl, hx4⟩
      have k1 : w4.cell? ⟨b2 + 1, 1, none⟩ = some (.int .i64 f) := (HO2.out.ext hx4).cell rfl
      have hxx := HX.out.trans hx4
      have HXX := Lib.hid hxx
      clear HS HR HO2 HX hx4 hxx k0
      go_wp2_with fail
      refine (awake_c _).mono ?_
      rintro e w5 ⟨rfl, hx5⟩
      go_wp2
      go_ret
      exact ⟨rfl, HXX.out.trans hx5⟩
    · obtain ⟨hmay, henc⟩ := decode_enc hres
      have hD := Dec_t HV.out HCAP.out (by omega) hres
      have HD := Lib.hid hD; clear hD hres
      have HMAY := Lib.hid hmay; clear hmay
      have HENC := Lib.hid henc; clear henc
      have HV := Lib.hid HV.out
      go_wp2_with fail
      refine HD.out.mono ?_
      rintro e w2 ⟨cs, rfl, hC, hx2⟩
      have hxx := HX0.out.trans hx2
      have hsz := hC.sizes
      have HSZ := Lib.hid hsz; clear hsz
      have HONE := Lib.hid hC.one
      have hv2 := HV.out.ext hx2
      clear HD HV
      obtain ⟨q1, q2, o1, o2, qx⟩ := two_boxes w w2 hxx Tryz.zeroCells34 (#[.int .i64 0, .int .i64 0] : Array Value) 34 37 (cs) [.int .i64 0, .int .i64 0] HSZ.out.z rfl
      have Q1 := Lib.hid q1; clear q1
      have Q2 := Lib.hid q2; clear q2
      have O1 := Lib.hid o1; clear o1
      have O2 := Lib.hid o2; clear o2
      have QX := Lib.hid qx; clear qx
      go_wp2_with (first
        | ((with_reducible refine atStore 34 rfl ?_); (refine wpList_store_mid rfl 34 _ _ rfl w2.heap.size 0 (cs).toArray rfl rfl Q1.out HSZ.out.s HONE.out ?_))
        | ((with_reducible refine atStore 37 rfl ?_); (refine wpList_store_mid rfl 37 _ _ rfl (w2.heap.size + 1) 0 ([.int .i64 0, .int .i64 0]).toArray rfl rfl Q2.out (sizeF 0 0) (oneF 0 0) (halt ?_))))
      unfold Halt
      have o1 := O1.out
      have o2 := O2.out
      have qx := QX.out
      clear Q1 Q2 O1 O2 QX
      generalize (((w2.alloc (.cells Tryz.zeroCells34 34)).alloc (.cells (#[.int .i64 0, .int .i64 0] : Array Value) 37)).setCells w2.heap.size 0 (cs)).setCells (w2.heap.size + 1) 0 ([.int .i64 0, .int .i64 0]) = W3 at o1 o2 qx ⊢
      generalize w2.heap.size = b2 at o1 o2 ⊢
      have hC3 := hC.ext qx
      have hv3 := hv2.ext qx
      have k0 : W3.cell? ⟨b2 + 1, 0, none⟩ = some (.int .i64 0) := o2.cell rfl
      have hE : Calls Tryz.prog 8 #[.agg cs.toArray] W3 (RetRow W3 l) := by
        have h9 := Enc_t hC3 HMAY.out
        rwa [HENC.out] at h9
      have HE := Lib.hid hE; clear hE
      have HC := Lib.hid hC3; clear hC3 hC
      have HV := Lib.hid hv3; clear hv3 hv2
      have HR := Lib.hid o1.range
      have HO := Lib.hid o1
      clear o1 o2 hxx hx2 qx
      go_wp2_with (first
        | ((with_reducible refine atLoad 34 rfl ?_); (refine wpList_loadG 34 _ rfl (by rfl) b2 0 rfl cs _ HR.out Tryz.underlying34 rfl HSZ.out.l ?_)))
      refine HE.out.mono ?_
      rintro e w4 ⟨a4, r4, rfl, hv4, -, hx4⟩
      have hC4 := HC.out.ext hx4
      have ho4 := HO.out.ext hx4
      have hv0 := HV.out.ext hx4
      clear HE HR HO HC HV k0 HMAY HENC
      have hA := All_t hC4
      have hws := allS_in t
      have hwl := allS_len t
      have hck := allS_check t
      generalize (allS t).1 = ws at hA hws hwl
      generalize hfa : (allS t).2 = fa at hA hck
      clear hfa
      obtain ⟨fc, ff⟩ := fa
      have HA := Lib.hid hA; clear hA
      have HWS := Lib.hid hws; clear hws
      have HWL := Lib.hid hwl; clear hwl
      have HCK := Lib.hid hck; clear hck
      have HC := Lib.hid hC4; clear hC4
      have HR := Lib.hid ho4.range
      have HO := Lib.hid ho4; clear ho4
      have HV0 := Lib.hid hv0; clear hv0
      have HV4 := Lib.hid hv4; clear hv4
      clear hx4
      go_wp2_with (first
        | ((with_reducible refine atLoad 34 rfl ?_); (refine wpList_loadG 34 _ rfl (by rfl) b2 0 rfl cs _ HR.out Tryz.underlying34 rfl HSZ.out.l ?_)))
      refine HA.out.mono ?_
      rintro e w6 ⟨rfl, hx6⟩
      unfold boundsA faultA
      have hC6 := HC.out.ext hx6
      have ho6 := HO.out.ext hx6
      have hv0 := HV0.out.ext hx6
      have hv4 := HV4.out.ext hx6
      have hxx := ho6.x
      have hbone : (ints ws).toArray.all (·.oneCell') = true := ints_all ws
      have HBO := Lib.hid hbone; clear hbone
      have hbsz := sizeB ws HWL.out
      have HBS := Lib.hid hbsz; clear hbsz
      have hb12 : (#[.int .i64 0, .int .i64 0, .int .i64 0, .int .i64 0, .int .i64 0, .int .i64 0, .int .i64 0, .int .i64 0, .int .i64 0, .int .i64 0, .int .i64 0, .int .i64 0] : Array Value).size = (ints ws).length := by rw [ints_len, HWL.out]; rfl
      have HB12 := Lib.hid hb12; clear hb12
      clear HA HC HR HO HV0 HV4
      obtain ⟨q1, q2, o1, o2, qx⟩ := two_boxes w w6 hxx (#[.int .i64 0, .int .i64 0, .int .i64 0, .int .i64 0, .int .i64 0, .int .i64 0, .int .i64 0, .int .i64 0, .int .i64 0, .int .i64 0, .int .i64 0, .int .i64 0] : Array Value) (#[.int .i64 0, .int .i64 0] : Array Value) 45 37 (ints ws) [.int .i64 fc, .int .i64 ff] HB12.out rfl
      have Q1 := Lib.hid q1; clear q1
      have Q2 := Lib.hid q2; clear q2
      have O1 := Lib.hid o1; clear o1
      have O2 := Lib.hid o2; clear o2
      have QX := Lib.hid qx; clear qx
      go_wp2_with (first
        | ((with_reducible refine atStore 45 rfl ?_); (refine wpList_store_mid rfl 45 _ _ rfl w6.heap.size 0 (ints ws).toArray rfl rfl Q1.out HBS.out HBO.out ?_))
        | ((with_reducible refine atStore 37 rfl ?_); (refine wpList_store_mid rfl 37 _ _ rfl (w6.heap.size + 1) 0 ([.int .i64 fc, .int .i64 ff]).toArray rfl rfl Q2.out (sizeF fc ff) (oneF fc ff) (halt ?_))))
      unfold Halt
      have o1 := O1.out
      have o2 := O2.out
      have qx := QX.out
      clear Q1 Q2 O1 O2 QX
      generalize (((w6.alloc (.cells (#[.int .i64 0, .int .i64 0, .int .i64 0, .int .i64 0, .int .i64 0, .int .i64 0, .int .i64 0, .int .i64 0, .int .i64 0, .int .i64 0, .int .i64 0, .int .i64 0] : Array Value) 45)).alloc (.cells (#[.int .i64 0, .int .i64 0] : Array Value) 37)).setCells w6.heap.size 0 (ints ws)).setCells (w6.heap.size + 1) 0 ([.int .i64 fc, .int .i64 ff]) = W7 at o1 o2 qx ⊢
      generalize w6.heap.size = b6 at o1 o2 ⊢
      have hC7 := hC6.ext qx
      have ho7 := ho6.ext qx
      have hv07 := hv0.ext qx
      have hv47 := hv4.ext qx
      have hw8 : ∀ p : Nat, p < 8 → ∃ v : Int, W7.cell? ⟨b6, p, none⟩ = some (.int .i64 v) ∧ 0 ≤ v ∧ v < 2147483647 := by
        intro p hp
        have hlt : p < ws.length := by rw [HWL.out]; omega
        have hin := HWS.out ws[p] (List.getElem_mem hlt)
        exact ⟨ws[p], o1.cell (ints_get ws p hlt), hin.1, hin.2⟩
      have HW8 := Lib.hid hw8; clear hw8
      have HS := Lib.hid (show W7.rangeAt b2 0 cs ∧ W7.rangeAt (b6 + 1) 0 [.int .i64 fc, .int .i64 ff] from ⟨ho7.range, o2.range⟩)
      have HC := Lib.hid hC7; clear hC7 hC6
      have HO := Lib.hid ho7; clear ho7 ho6
      have HV0 := Lib.hid hv07; clear hv07 hv0
      have HV4 := Lib.hid hv47; clear hv47 hv4
      have HL2 := Lib.hid (show b2 < W7.heap.size ∧ b6 + 1 < W7.heap.size from ⟨HO.out.lt, o2.lt⟩)
      clear o1 o2 qx hxx hx6 HBO HBS HB12 HWS HWL
      go_wp2_with fail
      go_loop [11] (fun i => ∃ p : Nat, p ≤ 8 ∧ i = .int .i64 (p : Int)) (fun i => 8 - (intOf i).toNat)
      case atStart => exact ⟨0, Nat.zero_le _, rfl⟩
      case round =>
        obtain ⟨p, hp, rfl⟩ := hrel
        by_cases hp8 : p < 8
        · have x0 : (0 : Int) ≤ (p : Int) := by omega
          have x1 : (p : Int) < 8 := by omega
          obtain ⟨v, hv1, hv2, hv3⟩ := HW8.out p hp8
          go_wp2
          go_round
          case rel => exact ⟨p + 1, by omega, by go_num⟩
          case measure => simp [intOf]; omega
        · have hpp : p = 8 := by omega
          subst hpp
          clear HW8
          have HXX := Lib.hid HO.out.x
          have hct : ∀ W, Ext W7 W → Calls Tryz.prog 11 #[.agg cs.toArray] W (Ret W (faultA (checkS t))) := fun W hx => Check_t (HC.out.ext hx)
          have hck := HCK.out
          clear HCK
          generalize checkS t = ck at hct hck
          obtain ⟨kc, kf⟩ := ck
          unfold faultA at hct
          have HCT := Lib.hid hct; clear hct
          by_cases hck1 : kc = 0
          · have hcb : (kc == 0) = true := by simpa using hck1
            clear hck1 hck
            go_wp2_with fail
            refine wp_region_held_drew (S := fun w' : World => w'.rangeAt b2 0 cs ∧ w'.rangeAt (b6 + 1) 0 [.int .i64 fc, .int .i64 ff]) (by kernel_rfl) HS.out (fun hS => ?_)
            refine wpAnyH_take (i := 0) (oi := _) (v := .int .i64 0) rfl (by kernel_rfl) (by kernel_rfl) (by kernel_rfl) (fun _ _ _ h => h) (Or.inl ⟨by kernel_rfl, fun _ _ => by kernel_rfl⟩) hS ?_
            refine wpAnyH_take (i := 1) (oi := _) (v := .bool true) rfl (by kernel_rfl) (by kernel_rfl) (by kernel_rfl) (fun _ _ _ h => h) (Or.inl ⟨by kernel_rfl, fun W _ => by go_simp⟩) hS ?_
            refine wpAnyH_take (i := 2) (oi := _) (v := .bool true) rfl (by kernel_rfl) (by kernel_rfl) (by kernel_rfl) (fun _ _ _ h => h) (Or.inl ⟨by kernel_rfl, fun _ _ => by kernel_rfl⟩) hS ?_
            refine wpAnyH_take (i := 3) (oi := _) (v := .slice a l.length cap) rfl (by kernel_rfl) (by kernel_rfl) (by kernel_rfl) (fun _ _ _ h => h) (Or.inl ⟨by kernel_rfl, fun _ _ => by kernel_rfl⟩) hS ?_
            refine wpAnyH_take (i := 4) (oi := _) (v := .slice a4 l.length r4) rfl (by kernel_rfl) (by kernel_rfl) (by kernel_rfl) (fun _ _ _ h => h) (Or.inl ⟨by kernel_rfl, fun _ _ => by kernel_rfl⟩) hS ?_
            refine wpAnyH_call (i := 5) (f := 10) (args := #[.slice a l.length cap, .slice a4 l.length r4]) (v := .bool true) (by kernel_rfl) rfl (by kernel_rfl) (by kernel_rfl) (SameBytes_c _ _ _ l (HV0.out.ext ((Ext.refl W7).drew)) (HV4.out.ext ((Ext.refl W7).drew)) (by omega)) ?_
            rintro e u1 ⟨rfl, y1⟩
            have hS1 : (fun w' : World => w'.rangeAt b2 0 cs ∧ w'.rangeAt (b6 + 1) 0 [.int .i64 fc, .int .i64 ff]) u1 := ⟨rangeAt_ext hS.1 y1 (HL2.out.1), rangeAt_ext hS.2 y1 (HL2.out.2)⟩
            refine ⟨rfl, hS1, ?_⟩
            have Y1 := Lib.hid (((Ext.refl W7).drew).trans y1)
            refine wpAnyH_take (i := 6) (oi := _) (v := .bool true) rfl (by kernel_rfl) (by kernel_rfl) (by kernel_rfl) (fun _ _ _ h => h) (Or.inl ⟨by kernel_rfl, fun W _ => by go_simp⟩) hS1 ?_
            refine wpAnyH_take (i := 7) (oi := _) (v := .bool true) rfl (by kernel_rfl) (by kernel_rfl) (by kernel_rfl) (fun _ _ _ h => h) (Or.inl ⟨by kernel_rfl, fun _ _ => by kernel_rfl⟩) hS1 ?_
            refine wpAnyH_take (i := 8) (oi := _) (v := .agg (cs).toArray) rfl (by kernel_rfl) (by kernel_rfl) (by kernel_rfl) (fun _ _ _ h => h) (yieldsIf_load_mid (by kernel_rfl) 34 (.tmp 5) rfl b2 (0) (by kernel_rfl) (cs) _ (fun _ h => h.1) Tryz.underlying34 rfl HSZ.out.l) hS1 ?_
            refine wpAnyH_call (i := 9) (f := 11) (args := #[.agg cs.toArray]) (v := .agg #[.int .i64 kc, .int .i64 kf]) (by kernel_rfl) rfl (by kernel_rfl) (by kernel_rfl) (HCT.out u1 Y1.out) ?_
            rintro e u2 ⟨rfl, y2⟩
            have hS2 : (fun w' : World => w'.rangeAt b2 0 cs ∧ w'.rangeAt (b6 + 1) 0 [.int .i64 fc, .int .i64 ff]) u2 := ⟨rangeAt_ext hS1.1 y2 (Nat.lt_of_lt_of_le HL2.out.1 Y1.out.size), rangeAt_ext hS1.2 y2 (Nat.lt_of_lt_of_le HL2.out.2 Y1.out.size)⟩
            refine ⟨rfl, hS2, ?_⟩
            have Y2 := Lib.hid (Y1.out.trans y2)
            refine wpAnyH_take (i := 10) (oi := _) (v := .int .i64 kc) rfl (by kernel_rfl) (by kernel_rfl) (by kernel_rfl) (fun _ _ _ h => h) (yields_v (Instr.field 37 (.agg #[.int .i64 kc, .int .i64 kf]) 0) (by kernel_rfl) (by kernel_rfl) (fun w' _ => field_code kc kf w')) hS2 ?_
            refine wpAnyH_take (i := 11) (oi := _) (v := .bool true) rfl (by kernel_rfl) (by kernel_rfl) (by kernel_rfl) (fun _ _ _ h => h) (Or.inl ⟨by kernel_rfl, fun W _ => by go_simp⟩) hS2 ?_
            refine wpAnyH_take (i := 12) (oi := _) (v := .bool true) rfl (by kernel_rfl) (by kernel_rfl) (by kernel_rfl) (fun _ _ _ h => h) (Or.inl ⟨by kernel_rfl, fun _ _ => by kernel_rfl⟩) hS2 ?_
            refine wpAnyH_take (i := 13) (oi := _) (v := undef) rfl (by kernel_rfl) (by kernel_rfl) (by kernel_rfl) (fun _ _ _ h => h) (yields_no (by kernel_rfl)) hS2 ?_
            refine wpAnyH_take (i := 14) (oi := _) (v := undef) rfl (by kernel_rfl) (by kernel_rfl) (by kernel_rfl) (fun _ _ _ h => h) (yields_no (by kernel_rfl)) hS2 ?_
            refine wpAnyH_take (i := 15) (oi := _) (v := undef) rfl (by kernel_rfl) (by kernel_rfl) (by kernel_rfl) (fun _ _ _ h => h) (yields_no (by kernel_rfl)) hS2 ?_
            refine wpAnyH_take (i := 16) (oi := _) (v := undef) rfl (by kernel_rfl) (by kernel_rfl) (by kernel_rfl) (fun _ _ _ h => h) (yields_no (by kernel_rfl)) hS2 ?_
            refine wpAnyH_take (i := 17) (oi := _) (v := .bool true) rfl (by kernel_rfl) (by kernel_rfl) (by kernel_rfl) (fun _ _ _ h => h) (Or.inl ⟨by kernel_rfl, fun W _ => by go_simp⟩) hS2 ?_
            refine wpAnyH_take (i := 18) (oi := _) (v := .bool true) rfl (by kernel_rfl) (by kernel_rfl) (by kernel_rfl) (fun _ _ _ h => h) (Or.inl ⟨by kernel_rfl, fun W _ => by go_simp⟩) hS2 ?_
            refine wpAnyH_take (i := 19) (oi := _) (v := .bool true) rfl (by kernel_rfl) (by kernel_rfl) (by kernel_rfl) (fun _ _ _ h => h) (Or.inl ⟨by kernel_rfl, fun _ _ => by kernel_rfl⟩) hS2 ?_
            refine wpAnyH_call (i := 20) (f := 4) (args := #[]) (v := .bool true) (by kernel_rfl) rfl (by kernel_rfl) (by kernel_rfl) (awake_c _) ?_
            rintro e u4 ⟨rfl, y3⟩
            have hS3 : (fun w' : World => w'.rangeAt b2 0 cs ∧ w'.rangeAt (b6 + 1) 0 [.int .i64 fc, .int .i64 ff]) u4 := ⟨rangeAt_ext hS2.1 y3 (Nat.lt_of_lt_of_le HL2.out.1 Y2.out.size), rangeAt_ext hS2.2 y3 (Nat.lt_of_lt_of_le HL2.out.2 Y2.out.size)⟩
            refine ⟨rfl, hS3, ?_⟩
            have Y3 := Lib.hid (Y2.out.trans y3)
            refine wpAnyH_take (i := 21) (oi := _) (v := .bool true) rfl (by kernel_rfl) (by kernel_rfl) (by kernel_rfl) (fun _ _ _ h => h) (Or.inl ⟨by kernel_rfl, fun W _ => by go_simp⟩) hS3 ?_
            refine wpAnyH_take (i := 22) (oi := _) (v := .bool true) rfl (by kernel_rfl) (by kernel_rfl) (by kernel_rfl) (fun _ _ _ h => h) (Or.inl ⟨by kernel_rfl, fun _ _ => by kernel_rfl⟩) hS3 ?_
            refine wpAnyH_done (by kernel_rfl) ?_ _
            go_simp
            go_wp2
            go_ret
            exact ⟨rfl, HXX.out.trans Y3.out⟩
          · have hcb : (kc == 0) = false := by simpa using hck1
            obtain ⟨rfl, rfl⟩ := Prod.mk.inj (hck hck1)
            clear hck1 hck
            go_wp2_with fail
            refine wp_region_held_drew (S := fun w' : World => w'.rangeAt b2 0 cs ∧ w'.rangeAt (b6 + 1) 0 [.int .i64 fc, .int .i64 ff]) (by kernel_rfl) HS.out (fun hS => ?_)
            refine wpAnyH_take (i := 0) (oi := _) (v := .int .i64 0) rfl (by kernel_rfl) (by kernel_rfl) (by kernel_rfl) (fun _ _ _ h => h) (Or.inl ⟨by kernel_rfl, fun _ _ => by kernel_rfl⟩) hS ?_
            refine wpAnyH_take (i := 1) (oi := _) (v := .bool true) rfl (by kernel_rfl) (by kernel_rfl) (by kernel_rfl) (fun _ _ _ h => h) (Or.inl ⟨by kernel_rfl, fun W _ => by go_simp⟩) hS ?_
            refine wpAnyH_take (i := 2) (oi := _) (v := .bool true) rfl (by kernel_rfl) (by kernel_rfl) (by kernel_rfl) (fun _ _ _ h => h) (Or.inl ⟨by kernel_rfl, fun _ _ => by kernel_rfl⟩) hS ?_
            refine wpAnyH_take (i := 3) (oi := _) (v := .slice a l.length cap) rfl (by kernel_rfl) (by kernel_rfl) (by kernel_rfl) (fun _ _ _ h => h) (Or.inl ⟨by kernel_rfl, fun _ _ => by kernel_rfl⟩) hS ?_
            refine wpAnyH_take (i := 4) (oi := _) (v := .slice a4 l.length r4) rfl (by kernel_rfl) (by kernel_rfl) (by kernel_rfl) (fun _ _ _ h => h) (Or.inl ⟨by kernel_rfl, fun _ _ => by kernel_rfl⟩) hS ?_
            refine wpAnyH_call (i := 5) (f := 10) (args := #[.slice a l.length cap, .slice a4 l.length r4]) (v := .bool true) (by kernel_rfl) rfl (by kernel_rfl) (by kernel_rfl) (SameBytes_c _ _ _ l (HV0.out.ext ((Ext.refl W7).drew)) (HV4.out.ext ((Ext.refl W7).drew)) (by omega)) ?_
            rintro e u1 ⟨rfl, y1⟩
            have hS1 : (fun w' : World => w'.rangeAt b2 0 cs ∧ w'.rangeAt (b6 + 1) 0 [.int .i64 fc, .int .i64 ff]) u1 := ⟨rangeAt_ext hS.1 y1 (HL2.out.1), rangeAt_ext hS.2 y1 (HL2.out.2)⟩
            refine ⟨rfl, hS1, ?_⟩
            have Y1 := Lib.hid (((Ext.refl W7).drew).trans y1)
            refine wpAnyH_take (i := 6) (oi := _) (v := .bool true) rfl (by kernel_rfl) (by kernel_rfl) (by kernel_rfl) (fun _ _ _ h => h) (Or.inl ⟨by kernel_rfl, fun W _ => by go_simp⟩) hS1 ?_
            refine wpAnyH_take (i := 7) (oi := _) (v := .bool true) rfl (by kernel_rfl) (by kernel_rfl) (by kernel_rfl) (fun _ _ _ h => h) (Or.inl ⟨by kernel_rfl, fun _ _ => by kernel_rfl⟩) hS1 ?_
            refine wpAnyH_take (i := 8) (oi := _) (v := .agg (cs).toArray) rfl (by kernel_rfl) (by kernel_rfl) (by kernel_rfl) (fun _ _ _ h => h) (yieldsIf_load_mid (by kernel_rfl) 34 (.tmp 5) rfl b2 (0) (by kernel_rfl) (cs) _ (fun _ h => h.1) Tryz.underlying34 rfl HSZ.out.l) hS1 ?_
            refine wpAnyH_call (i := 9) (f := 11) (args := #[.agg cs.toArray]) (v := .agg #[.int .i64 fc, .int .i64 ff]) (by kernel_rfl) rfl (by kernel_rfl) (by kernel_rfl) (HCT.out u1 Y1.out) ?_
            rintro e u2 ⟨rfl, y2⟩
            have hS2 : (fun w' : World => w'.rangeAt b2 0 cs ∧ w'.rangeAt (b6 + 1) 0 [.int .i64 fc, .int .i64 ff]) u2 := ⟨rangeAt_ext hS1.1 y2 (Nat.lt_of_lt_of_le HL2.out.1 Y1.out.size), rangeAt_ext hS1.2 y2 (Nat.lt_of_lt_of_le HL2.out.2 Y1.out.size)⟩
            refine ⟨rfl, hS2, ?_⟩
            have Y2 := Lib.hid (Y1.out.trans y2)
            refine wpAnyH_take (i := 10) (oi := _) (v := .int .i64 fc) rfl (by kernel_rfl) (by kernel_rfl) (by kernel_rfl) (fun _ _ _ h => h) (yields_v (Instr.field 37 (.agg #[.int .i64 fc, .int .i64 ff]) 0) (by kernel_rfl) (by kernel_rfl) (fun w' _ => field_code fc ff w')) hS2 ?_
            refine wpAnyH_take (i := 11) (oi := _) (v := .bool false) rfl (by kernel_rfl) (by kernel_rfl) (by kernel_rfl) (fun _ _ _ h => h) (Or.inl ⟨by kernel_rfl, fun W _ => by go_simp⟩) hS2 ?_
            refine wpAnyH_take (i := 12) (oi := _) (v := .bool false) rfl (by kernel_rfl) (by kernel_rfl) (by kernel_rfl) (fun _ _ _ h => h) (Or.inl ⟨by kernel_rfl, fun _ _ => by kernel_rfl⟩) hS2 ?_
            refine wpAnyH_take (i := 13) (oi := _) (v := .agg ([.int .i64 fc, .int .i64 ff]).toArray) rfl (by kernel_rfl) (by kernel_rfl) (by kernel_rfl) (fun _ _ _ h => h) (yieldsIf_load_mid (by kernel_rfl) 37 (.tmp 10) rfl (b6 + 1) (0) (by kernel_rfl) ([.int .i64 fc, .int .i64 ff]) _ (fun _ h => h.2) Tryz.underlying37 rfl (sizeFl _ _)) hS2 ?_
            refine wpAnyH_take (i := 14) (oi := _) (v := .agg (cs).toArray) rfl (by kernel_rfl) (by kernel_rfl) (by kernel_rfl) (fun _ _ _ h => h) (yieldsIf_load_mid (by kernel_rfl) 34 (.tmp 5) rfl b2 (0) (by kernel_rfl) (cs) _ (fun _ h => h.1) Tryz.underlying34 rfl HSZ.out.l) hS2 ?_
            refine wpAnyH_call (i := 15) (f := 11) (args := #[.agg cs.toArray]) (v := .agg #[.int .i64 fc, .int .i64 ff]) (by kernel_rfl) rfl (by kernel_rfl) (by kernel_rfl) (HCT.out u2 Y2.out) ?_
            rintro e u3 ⟨rfl, y3⟩
            have hS3 : (fun w' : World => w'.rangeAt b2 0 cs ∧ w'.rangeAt (b6 + 1) 0 [.int .i64 fc, .int .i64 ff]) u3 := ⟨rangeAt_ext hS2.1 y3 (Nat.lt_of_lt_of_le HL2.out.1 Y2.out.size), rangeAt_ext hS2.2 y3 (Nat.lt_of_lt_of_le HL2.out.2 Y2.out.size)⟩
            refine ⟨rfl, hS3, ?_⟩
            have Y3 := Lib.hid (Y2.out.trans y3)
            refine wpAnyH_take (i := 16) (oi := _) (v := .bool true) rfl (by kernel_rfl) (by kernel_rfl) (by kernel_rfl) (fun _ _ _ h => h) (Or.inl ⟨by kernel_rfl, fun W _ => by go_simp⟩) hS3 ?_
            refine wpAnyH_take (i := 17) (oi := _) (v := .bool true) rfl (by kernel_rfl) (by kernel_rfl) (by kernel_rfl) (fun _ _ _ h => h) (Or.inl ⟨by kernel_rfl, fun W _ => by go_simp⟩) hS3 ?_
            refine wpAnyH_take (i := 18) (oi := _) (v := .bool true) rfl (by kernel_rfl) (by kernel_rfl) (by kernel_rfl) (fun _ _ _ h => h) (Or.inl ⟨by kernel_rfl, fun W _ => by go_simp⟩) hS3 ?_
            refine wpAnyH_take (i := 19) (oi := _) (v := .bool true) rfl (by kernel_rfl) (by kernel_rfl) (by kernel_rfl) (fun _ _ _ h => h) (Or.inl ⟨by kernel_rfl, fun _ _ => by kernel_rfl⟩) hS3 ?_
            refine wpAnyH_call (i := 20) (f := 4) (args := #[]) (v := .bool true) (by kernel_rfl) rfl (by kernel_rfl) (by kernel_rfl) (awake_c _) ?_
            rintro e u5 ⟨rfl, y4⟩
            have hS4 : (fun w' : World => w'.rangeAt b2 0 cs ∧ w'.rangeAt (b6 + 1) 0 [.int .i64 fc, .int .i64 ff]) u5 := ⟨rangeAt_ext hS3.1 y4 (Nat.lt_of_lt_of_le HL2.out.1 Y3.out.size), rangeAt_ext hS3.2 y4 (Nat.lt_of_lt_of_le HL2.out.2 Y3.out.size)⟩
            refine ⟨rfl, hS4, ?_⟩
            have Y4 := Lib.hid (Y3.out.trans y4)
            refine wpAnyH_take (i := 21) (oi := _) (v := .bool true) rfl (by kernel_rfl) (by kernel_rfl) (by kernel_rfl) (fun _ _ _ h => h) (Or.inl ⟨by kernel_rfl, fun W _ => by go_simp⟩) hS4 ?_
            refine wpAnyH_take (i := 22) (oi := _) (v := .bool true) rfl (by kernel_rfl) (by kernel_rfl) (by kernel_rfl) (fun _ _ _ h => h) (Or.inl ⟨by kernel_rfl, fun _ _ => by kernel_rfl⟩) hS4 ?_
            refine wpAnyH_done (by kernel_rfl) ?_ _
            go_simp
            go_wp2
            go_ret
            exact ⟨rfl, HXX.out.trans Y4.out⟩
  | true =>
    have hS := RefSeal_c w _ l hv (by omega)
    have HS := Lib.hid hS; clear hS hv hcap
    go_enter Tryz.func3, Tryz.ntmps3
    go_wp2_with fail
    refine HS.out.mono ?_
    rintro e w1 ⟨l1, p1, r1, rfl, hv1, hcap1, hlen1, hx1⟩
    have hl1 : l1.length ≤ 16777218 := by omega
    have HV := Lib.hid hv1; clear hv1
    have HCAP := Lib.hid hcap1; clear hcap1
    have HX0 := Lib.hid hx1; clear hx1 hlen1 HS
    obtain ⟨res, hres⟩ : ∃ res, decodeS l1 = res := ⟨_, rfl⟩
    rcases res with ⟨c, f⟩ | t
    · obtain ⟨hc0, hf0, hf1⟩ := decode_fault hres
      have hD := Dec_f HV.out HCAP.out (by omega) hres
      have HD := Lib.hid hD; clear hD hres
      go_wp2_with fail
      refine HD.out.mono ?_
      rintro e w2 ⟨cs, rfl, hC, hx2⟩
      have hxx := HX0.out.trans hx2
      have hsz := hC.sizes
      have HSZ := Lib.hid hsz; clear hsz
      have HONE := Lib.hid hC.one
      clear HD
      obtain ⟨q1, q2, o1, o2, qx⟩ := two_boxes w w2 hxx Tryz.zeroCells34 (#[.int .i64 0, .int .i64 0] : Array Value) 34 37 (cs) [.int .i64 c, .int .i64 f] HSZ.out.z rfl
      have Q1 := Lib.hid q1; clear q1
      have Q2 := Lib.hid q2; clear q2
      have O1 := Lib.hid o1; clear o1
      have O2 := Lib.hid o2; clear o2
      have QX := Lib.hid qx; clear qx
      go_wp2_with (first
        | ((with_reducible refine atStore 34 rfl ?_); (refine wpList_store_mid rfl 34 _ _ rfl w2.heap.size 0 (cs).toArray rfl rfl Q1.out HSZ.out.s HONE.out ?_))
        | ((with_reducible refine atStore 37 rfl ?_); (refine wpList_store_mid rfl 37 _ _ rfl (w2.heap.size + 1) 0 ([.int .i64 c, .int .i64 f]).toArray rfl rfl Q2.out (sizeF c f) (oneF c f) (halt ?_))))
      unfold Halt
      have o1 := O1.out
      have o2 := O2.out
      have qx := QX.out
      clear Q1 Q2 O1 O2 QX
      generalize (((w2.alloc (.cells Tryz.zeroCells34 34)).alloc (.cells (#[.int .i64 0, .int .i64 0] : Array Value) 37)).setCells w2.heap.size 0 (cs)).setCells (w2.heap.size + 1) 0 ([.int .i64 c, .int .i64 f]) = W3 at o1 o2 qx ⊢
      generalize w2.heap.size = b2 at o1 o2 ⊢
      have hC3 := hC.ext qx
      have k0 : W3.cell? ⟨b2 + 1, 0, none⟩ = some (.int .i64 c) := o2.cell rfl
      have hcn : (c != 0) = true := by simpa using hc0
      have HS := Lib.hid (Same_zero hC3)
      have HR := Lib.hid o1.range
      have HO2 := Lib.hid o2
      have HX := Lib.hid o2.x
      clear o1 o2 hC hC3 hc0 hxx hx2 qx
      go_wp2_with (first
        | ((with_reducible refine atLoad 34 rfl ?_); (refine wpList_loadG 34 _ rfl (by rfl) b2 0 rfl cs _ HR.out Tryz.underlying34 rfl HSZ.out.l ?_)))
      refine HS.out.mono ?_
      rintro e w4 ⟨rfl, hx4⟩
      have k1 : w4.cell? ⟨b2 + 1, 1, none⟩ = some (.int .i64 f) := (HO2.out.ext hx4).cell rfl
      have hxx := HX.out.trans hx4
      have HXX := Lib.hid hxx
      clear HS HR HO2 HX hx4 hxx k0
      go_wp2_with fail
      refine (awake_c _).mono ?_
      rintro e w5 ⟨rfl, hx5⟩
      go_wp2
      go_ret
      exact ⟨rfl, HXX.out.trans hx5⟩
    · obtain ⟨hmay, henc⟩ := decode_enc hres
      have hD := Dec_t HV.out HCAP.out (by omega) hres
      have HD := Lib.hid hD; clear hD hres
      have HMAY := Lib.hid hmay; clear hmay
      have HENC := Lib.hid henc; clear henc
      have HV := Lib.hid HV.out
      go_wp2_with fail
      refine HD.out.mono ?_
      rintro e w2 ⟨cs, rfl, hC, hx2⟩
      have hxx := HX0.out.trans hx2
      have hsz := hC.sizes
      have HSZ := Lib.hid hsz; clear hsz
      have HONE := Lib.hid hC.one
      have hv2 := HV.out.ext hx2
      clear HD HV
      obtain ⟨q1, q2, o1, o2, qx⟩ := two_boxes w w2 hxx Tryz.zeroCells34 (#[.int .i64 0, .int .i64 0] : Array Value) 34 37 (cs) [.int .i64 0, .int .i64 0] HSZ.out.z rfl
      have Q1 := Lib.hid q1; clear q1
      have Q2 := Lib.hid q2; clear q2
      have O1 := Lib.hid o1; clear o1
      have O2 := Lib.hid o2; clear o2
      have QX := Lib.hid qx; clear qx
      go_wp2_with (first
        | ((with_reducible refine atStore 34 rfl ?_); (refine wpList_store_mid rfl 34 _ _ rfl w2.heap.size 0 (cs).toArray rfl rfl Q1.out HSZ.out.s HONE.out ?_))
        | ((with_reducible refine atStore 37 rfl ?_); (refine wpList_store_mid rfl 37 _ _ rfl (w2.heap.size + 1) 0 ([.int .i64 0, .int .i64 0]).toArray rfl rfl Q2.out (sizeF 0 0) (oneF 0 0) (halt ?_))))
      unfold Halt
      have o1 := O1.out
      have o2 := O2.out
      have qx := QX.out
      clear Q1 Q2 O1 O2 QX
      generalize (((w2.alloc (.cells Tryz.zeroCells34 34)).alloc (.cells (#[.int .i64 0, .int .i64 0] : Array Value) 37)).setCells w2.heap.size 0 (cs)).setCells (w2.heap.size + 1) 0 ([.int .i64 0, .int .i64 0]) = W3 at o1 o2 qx ⊢
      generalize w2.heap.size = b2 at o1 o2 ⊢
      have hC3 := hC.ext qx
      have hv3 := hv2.ext qx
      have k0 : W3.cell? ⟨b2 + 1, 0, none⟩ = some (.int .i64 0) := o2.cell rfl
      have hE : Calls Tryz.prog 8 #[.agg cs.toArray] W3 (RetRow W3 l1) := by
        have h9 := Enc_t hC3 HMAY.out
        rwa [HENC.out] at h9
      have HE := Lib.hid hE; clear hE
      have HC := Lib.hid hC3; clear hC3 hC
      have HV := Lib.hid hv3; clear hv3 hv2
      have HR := Lib.hid o1.range
      have HO := Lib.hid o1
      clear o1 o2 hxx hx2 qx
      go_wp2_with (first
        | ((with_reducible refine atLoad 34 rfl ?_); (refine wpList_loadG 34 _ rfl (by rfl) b2 0 rfl cs _ HR.out Tryz.underlying34 rfl HSZ.out.l ?_)))
      refine HE.out.mono ?_
      rintro e w4 ⟨a4, r4, rfl, hv4, -, hx4⟩
      have hC4 := HC.out.ext hx4
      have ho4 := HO.out.ext hx4
      have hv0 := HV.out.ext hx4
      clear HE HR HO HC HV k0 HMAY HENC
      have hA := All_t hC4
      have hws := allS_in t
      have hwl := allS_len t
      have hck := allS_check t
      generalize (allS t).1 = ws at hA hws hwl
      generalize hfa : (allS t).2 = fa at hA hck
      clear hfa
      obtain ⟨fc, ff⟩ := fa
      have HA := Lib.hid hA; clear hA
      have HWS := Lib.hid hws; clear hws
      have HWL := Lib.hid hwl; clear hwl
      have HCK := Lib.hid hck; clear hck
      have HC := Lib.hid hC4; clear hC4
      have HR := Lib.hid ho4.range
      have HO := Lib.hid ho4; clear ho4
      have HV0 := Lib.hid hv0; clear hv0
      have HV4 := Lib.hid hv4; clear hv4
      clear hx4
      go_wp2_with (first
        | ((with_reducible refine atLoad 34 rfl ?_); (refine wpList_loadG 34 _ rfl (by rfl) b2 0 rfl cs _ HR.out Tryz.underlying34 rfl HSZ.out.l ?_)))
      refine HA.out.mono ?_
      rintro e w6 ⟨rfl, hx6⟩
      unfold boundsA faultA
      have hC6 := HC.out.ext hx6
      have ho6 := HO.out.ext hx6
      have hv0 := HV0.out.ext hx6
      have hv4 := HV4.out.ext hx6
      have hxx := ho6.x
      have hbone : (ints ws).toArray.all (·.oneCell') = true := ints_all ws
      have HBO := Lib.hid hbone; clear hbone
      have hbsz := sizeB ws HWL.out
      have HBS := Lib.hid hbsz; clear hbsz
      have hb12 : (#[.int .i64 0, .int .i64 0, .int .i64 0, .int .i64 0, .int .i64 0, .int .i64 0, .int .i64 0, .int .i64 0, .int .i64 0, .int .i64 0, .int .i64 0, .int .i64 0] : Array Value).size = (ints ws).length := by rw [ints_len, HWL.out]; rfl
      have HB12 := Lib.hid hb12; clear hb12
      clear HA HC HR HO HV0 HV4
      obtain ⟨q1, q2, o1, o2, qx⟩ := two_boxes w w6 hxx (#[.int .i64 0, .int .i64 0, .int .i64 0, .int .i64 0, .int .i64 0, .int .i64 0, .int .i64 0, .int .i64 0, .int .i64 0, .int .i64 0, .int .i64 0, .int .i64 0] : Array Value) (#[.int .i64 0, .int .i64 0] : Array Value) 45 37 (ints ws) [.int .i64 fc, .int .i64 ff] HB12.out rfl
      have Q1 := Lib.hid q1; clear q1
      have Q2 := Lib.hid q2; clear q2
      have O1 := Lib.hid o1; clear o1
      have O2 := Lib.hid o2; clear o2
      have QX := Lib.hid qx; clear qx
      go_wp2_with (first
        | ((with_reducible refine atStore 45 rfl ?_); (refine wpList_store_mid rfl 45 _ _ rfl w6.heap.size 0 (ints ws).toArray rfl rfl Q1.out HBS.out HBO.out ?_))
        | ((with_reducible refine atStore 37 rfl ?_); (refine wpList_store_mid rfl 37 _ _ rfl (w6.heap.size + 1) 0 ([.int .i64 fc, .int .i64 ff]).toArray rfl rfl Q2.out (sizeF fc ff) (oneF fc ff) (halt ?_))))
      unfold Halt
      have o1 := O1.out
      have o2 := O2.out
      have qx := QX.out
      clear Q1 Q2 O1 O2 QX
      generalize (((w6.alloc (.cells (#[.int .i64 0, .int .i64 0, .int .i64 0, .int .i64 0, .int .i64 0, .int .i64 0, .int .i64 0, .int .i64 0, .int .i64 0, .int .i64 0, .int .i64 0, .int .i64 0] : Array Value) 45)).alloc (.cells (#[.int .i64 0, .int .i64 0] : Array Value) 37)).setCells w6.heap.size 0 (ints ws)).setCells (w6.heap.size + 1) 0 ([.int .i64 fc, .int .i64 ff]) = W7 at o1 o2 qx ⊢
      generalize w6.heap.size = b6 at o1 o2 ⊢
      have hC7 := hC6.ext qx
      have ho7 := ho6.ext qx
      have hv07 := hv0.ext qx
      have hv47 := hv4.ext qx
      have hw8 : ∀ p : Nat, p < 8 → ∃ v : Int, W7.cell? ⟨b6, p, none⟩ = some (.int .i64 v) ∧ 0 ≤ v ∧ v < 2147483647 := by
        intro p hp
        have hlt : p < ws.length := by rw [HWL.out]; omega
        have hin := HWS.out ws[p] (List.getElem_mem hlt)
        exact ⟨ws[p], o1.cell (ints_get ws p hlt), hin.1, hin.2⟩
      have HW8 := Lib.hid hw8; clear hw8
      have HS := Lib.hid (show W7.rangeAt b2 0 cs ∧ W7.rangeAt (b6 + 1) 0 [.int .i64 fc, .int .i64 ff] from ⟨ho7.range, o2.range⟩)
      have HC := Lib.hid hC7; clear hC7 hC6
      have HO := Lib.hid ho7; clear ho7 ho6
      have HV0 := Lib.hid hv07; clear hv07 hv0
      have HV4 := Lib.hid hv47; clear hv47 hv4
      have HL2 := Lib.hid (show b2 < W7.heap.size ∧ b6 + 1 < W7.heap.size from ⟨HO.out.lt, o2.lt⟩)
      clear o1 o2 qx hxx hx6 HBO HBS HB12 HWS HWL
      go_wp2_with fail
      go_loop [11] (fun i => ∃ p : Nat, p ≤ 8 ∧ i = .int .i64 (p : Int)) (fun i => 8 - (intOf i).toNat)
      case atStart => exact ⟨0, Nat.zero_le _, rfl⟩
      case round =>
        obtain ⟨p, hp, rfl⟩ := hrel
        by_cases hp8 : p < 8
        · have x0 : (0 : Int) ≤ (p : Int) := by omega
          have x1 : (p : Int) < 8 := by omega
          obtain ⟨v, hv1, hv2, hv3⟩ := HW8.out p hp8
          go_wp2
          go_round
          case rel => exact ⟨p + 1, by omega, by go_num⟩
          case measure => simp [intOf]; omega
        · have hpp : p = 8 := by omega
          subst hpp
          clear HW8
          have HXX := Lib.hid HO.out.x
          have hct : ∀ W, Ext W7 W → Calls Tryz.prog 11 #[.agg cs.toArray] W (Ret W (faultA (checkS t))) := fun W hx => Check_t (HC.out.ext hx)
          have hck := HCK.out
          clear HCK
          generalize checkS t = ck at hct hck
          obtain ⟨kc, kf⟩ := ck
          unfold faultA at hct
          have HCT := Lib.hid hct; clear hct
          by_cases hck1 : kc = 0
          · have hcb : (kc == 0) = true := by simpa using hck1
            clear hck1 hck
            go_wp2_with fail
            refine wp_region_held_drew (S := fun w' : World => w'.rangeAt b2 0 cs ∧ w'.rangeAt (b6 + 1) 0 [.int .i64 fc, .int .i64 ff]) (by kernel_rfl) HS.out (fun hS => ?_)
            refine wpAnyH_take (i := 0) (oi := _) (v := .int .i64 0) rfl (by kernel_rfl) (by kernel_rfl) (by kernel_rfl) (fun _ _ _ h => h) (Or.inl ⟨by kernel_rfl, fun _ _ => by kernel_rfl⟩) hS ?_
            refine wpAnyH_take (i := 1) (oi := _) (v := .bool true) rfl (by kernel_rfl) (by kernel_rfl) (by kernel_rfl) (fun _ _ _ h => h) (Or.inl ⟨by kernel_rfl, fun W _ => by go_simp⟩) hS ?_
            refine wpAnyH_take (i := 2) (oi := _) (v := .bool true) rfl (by kernel_rfl) (by kernel_rfl) (by kernel_rfl) (fun _ _ _ h => h) (Or.inl ⟨by kernel_rfl, fun _ _ => by kernel_rfl⟩) hS ?_
            refine wpAnyH_take (i := 3) (oi := _) (v := .slice p1 l1.length r1) rfl (by kernel_rfl) (by kernel_rfl) (by kernel_rfl) (fun _ _ _ h => h) (Or.inl ⟨by kernel_rfl, fun _ _ => by kernel_rfl⟩) hS ?_
            refine wpAnyH_take (i := 4) (oi := _) (v := .slice a4 l1.length r4) rfl (by kernel_rfl) (by kernel_rfl) (by kernel_rfl) (fun _ _ _ h => h) (Or.inl ⟨by kernel_rfl, fun _ _ => by kernel_rfl⟩) hS ?_
            refine wpAnyH_call (i := 5) (f := 10) (args := #[.slice p1 l1.length r1, .slice a4 l1.length r4]) (v := .bool true) (by kernel_rfl) rfl (by kernel_rfl) (by kernel_rfl) (SameBytes_c _ _ _ l1 (HV0.out.ext ((Ext.refl W7).drew)) (HV4.out.ext ((Ext.refl W7).drew)) (by omega)) ?_
            rintro e u1 ⟨rfl, y1⟩
            have hS1 : (fun w' : World => w'.rangeAt b2 0 cs ∧ w'.rangeAt (b6 + 1) 0 [.int .i64 fc, .int .i64 ff]) u1 := ⟨rangeAt_ext hS.1 y1 (HL2.out.1), rangeAt_ext hS.2 y1 (HL2.out.2)⟩
            refine ⟨rfl, hS1, ?_⟩
            have Y1 := Lib.hid (((Ext.refl W7).drew).trans y1)
            refine wpAnyH_take (i := 6) (oi := _) (v := .bool true) rfl (by kernel_rfl) (by kernel_rfl) (by kernel_rfl) (fun _ _ _ h => h) (Or.inl ⟨by kernel_rfl, fun W _ => by go_simp⟩) hS1 ?_
            refine wpAnyH_take (i := 7) (oi := _) (v := .bool true) rfl (by kernel_rfl) (by kernel_rfl) (by kernel_rfl) (fun _ _ _ h => h) (Or.inl ⟨by kernel_rfl, fun _ _ => by kernel_rfl⟩) hS1 ?_
            refine wpAnyH_take (i := 8) (oi := _) (v := .agg (cs).toArray) rfl (by kernel_rfl) (by kernel_rfl) (by kernel_rfl) (fun _ _ _ h => h) (yieldsIf_load_mid (by kernel_rfl) 34 (.tmp 5) rfl b2 (0) (by kernel_rfl) (cs) _ (fun _ h => h.1) Tryz.underlying34 rfl HSZ.out.l) hS1 ?_
            refine wpAnyH_call (i := 9) (f := 11) (args := #[.agg cs.toArray]) (v := .agg #[.int .i64 kc, .int .i64 kf]) (by kernel_rfl) rfl (by kernel_rfl) (by kernel_rfl) (HCT.out u1 Y1.out) ?_
            rintro e u2 ⟨rfl, y2⟩
            have hS2 : (fun w' : World => w'.rangeAt b2 0 cs ∧ w'.rangeAt (b6 + 1) 0 [.int .i64 fc, .int .i64 ff]) u2 := ⟨rangeAt_ext hS1.1 y2 (Nat.lt_of_lt_of_le HL2.out.1 Y1.out.size), rangeAt_ext hS1.2 y2 (Nat.lt_of_lt_of_le HL2.out.2 Y1.out.size)⟩
            refine ⟨rfl, hS2, ?_⟩
            have Y2 := Lib.hid (Y1.out.trans y2)
            refine wpAnyH_take (i := 10) (oi := _) (v := .int .i64 kc) rfl (by kernel_rfl) (by kernel_rfl) (by kernel_rfl) (fun _ _ _ h => h) (yields_v (Instr.field 37 (.agg #[.int .i64 kc, .int .i64 kf]) 0) (by kernel_rfl) (by kernel_rfl) (fun w' _ => field_code kc kf w')) hS2 ?_
            refine wpAnyH_take (i := 11) (oi := _) (v := .bool true) rfl (by kernel_rfl) (by kernel_rfl) (by kernel_rfl) (fun _ _ _ h => h) (Or.inl ⟨by kernel_rfl, fun W _ => by go_simp⟩) hS2 ?_
            refine wpAnyH_take (i := 12) (oi := _) (v := .bool true) rfl (by kernel_rfl) (by kernel_rfl) (by kernel_rfl) (fun _ _ _ h => h) (Or.inl ⟨by kernel_rfl, fun _ _ => by kernel_rfl⟩) hS2 ?_
            refine wpAnyH_take (i := 13) (oi := _) (v := undef) rfl (by kernel_rfl) (by kernel_rfl) (by kernel_rfl) (fun _ _ _ h => h) (yields_no (by kernel_rfl)) hS2 ?_
            refine wpAnyH_take (i := 14) (oi := _) (v := undef) rfl (by kernel_rfl) (by kernel_rfl) (by kernel_rfl) (fun _ _ _ h => h) (yields_no (by kernel_rfl)) hS2 ?_
            refine wpAnyH_take (i := 15) (oi := _) (v := undef) rfl (by kernel_rfl) (by kernel_rfl) (by kernel_rfl) (fun _ _ _ h => h) (yields_no (by kernel_rfl)) hS2 ?_
            refine wpAnyH_take (i := 16) (oi := _) (v := undef) rfl (by kernel_rfl) (by kernel_rfl) (by kernel_rfl) (fun _ _ _ h => h) (yields_no (by kernel_rfl)) hS2 ?_
            refine wpAnyH_take (i := 17) (oi := _) (v := .bool true) rfl (by kernel_rfl) (by kernel_rfl) (by kernel_rfl) (fun _ _ _ h => h) (Or.inl ⟨by kernel_rfl, fun W _ => by go_simp⟩) hS2 ?_
            refine wpAnyH_take (i := 18) (oi := _) (v := .bool true) rfl (by kernel_rfl) (by kernel_rfl) (by kernel_rfl) (fun _ _ _ h => h) (Or.inl ⟨by kernel_rfl, fun W _ => by go_simp⟩) hS2 ?_
            refine wpAnyH_take (i := 19) (oi := _) (v := .bool true) rfl (by kernel_rfl) (by kernel_rfl) (by kernel_rfl) (fun _ _ _ h => h) (Or.inl ⟨by kernel_rfl, fun _ _ => by kernel_rfl⟩) hS2 ?_
            refine wpAnyH_call (i := 20) (f := 4) (args := #[]) (v := .bool true) (by kernel_rfl) rfl (by kernel_rfl) (by kernel_rfl) (awake_c _) ?_
            rintro e u4 ⟨rfl, y3⟩
            have hS3 : (fun w' : World => w'.rangeAt b2 0 cs ∧ w'.rangeAt (b6 + 1) 0 [.int .i64 fc, .int .i64 ff]) u4 := ⟨rangeAt_ext hS2.1 y3 (Nat.lt_of_lt_of_le HL2.out.1 Y2.out.size), rangeAt_ext hS2.2 y3 (Nat.lt_of_lt_of_le HL2.out.2 Y2.out.size)⟩
            refine ⟨rfl, hS3, ?_⟩
            have Y3 := Lib.hid (Y2.out.trans y3)
            refine wpAnyH_take (i := 21) (oi := _) (v := .bool true) rfl (by kernel_rfl) (by kernel_rfl) (by kernel_rfl) (fun _ _ _ h => h) (Or.inl ⟨by kernel_rfl, fun W _ => by go_simp⟩) hS3 ?_
            refine wpAnyH_take (i := 22) (oi := _) (v := .bool true) rfl (by kernel_rfl) (by kernel_rfl) (by kernel_rfl) (fun _ _ _ h => h) (Or.inl ⟨by kernel_rfl, fun _ _ => by kernel_rfl⟩) hS3 ?_
            refine wpAnyH_done (by kernel_rfl) ?_ _
            go_simp
            go_wp2
            go_ret
            exact ⟨rfl, HXX.out.trans Y3.out⟩
          · have hcb : (kc == 0) = false := by simpa using hck1
            obtain ⟨rfl, rfl⟩ := Prod.mk.inj (hck hck1)
            clear hck1 hck
            go_wp2_with fail
            refine wp_region_held_drew (S := fun w' : World => w'.rangeAt b2 0 cs ∧ w'.rangeAt (b6 + 1) 0 [.int .i64 fc, .int .i64 ff]) (by kernel_rfl) HS.out (fun hS => ?_)
            refine wpAnyH_take (i := 0) (oi := _) (v := .int .i64 0) rfl (by kernel_rfl) (by kernel_rfl) (by kernel_rfl) (fun _ _ _ h => h) (Or.inl ⟨by kernel_rfl, fun _ _ => by kernel_rfl⟩) hS ?_
            refine wpAnyH_take (i := 1) (oi := _) (v := .bool true) rfl (by kernel_rfl) (by kernel_rfl) (by kernel_rfl) (fun _ _ _ h => h) (Or.inl ⟨by kernel_rfl, fun W _ => by go_simp⟩) hS ?_
            refine wpAnyH_take (i := 2) (oi := _) (v := .bool true) rfl (by kernel_rfl) (by kernel_rfl) (by kernel_rfl) (fun _ _ _ h => h) (Or.inl ⟨by kernel_rfl, fun _ _ => by kernel_rfl⟩) hS ?_
            refine wpAnyH_take (i := 3) (oi := _) (v := .slice p1 l1.length r1) rfl (by kernel_rfl) (by kernel_rfl) (by kernel_rfl) (fun _ _ _ h => h) (Or.inl ⟨by kernel_rfl, fun _ _ => by kernel_rfl⟩) hS ?_
            refine wpAnyH_take (i := 4) (oi := _) (v := .slice a4 l1.length r4) rfl (by kernel_rfl) (by kernel_rfl) (by kernel_rfl) (fun _ _ _ h => h) (Or.inl ⟨by kernel_rfl, fun _ _ => by kernel_rfl⟩) hS ?_
            refine wpAnyH_call (i := 5) (f := 10) (args := #[.slice p1 l1.length r1, .slice a4 l1.length r4]) (v := .bool true) (by kernel_rfl) rfl (by kernel_rfl) (by kernel_rfl) (SameBytes_c _ _ _ l1 (HV0.out.ext ((Ext.refl W7).drew)) (HV4.out.ext ((Ext.refl W7).drew)) (by omega)) ?_
            rintro e u1 ⟨rfl, y1⟩
            have hS1 : (fun w' : World => w'.rangeAt b2 0 cs ∧ w'.rangeAt (b6 + 1) 0 [.int .i64 fc, .int .i64 ff]) u1 := ⟨rangeAt_ext hS.1 y1 (HL2.out.1), rangeAt_ext hS.2 y1 (HL2.out.2)⟩
            refine ⟨rfl, hS1, ?_⟩
            have Y1 := Lib.hid (((Ext.refl W7).drew).trans y1)
            refine wpAnyH_take (i := 6) (oi := _) (v := .bool true) rfl (by kernel_rfl) (by kernel_rfl) (by kernel_rfl) (fun _ _ _ h => h) (Or.inl ⟨by kernel_rfl, fun W _ => by go_simp⟩) hS1 ?_
            refine wpAnyH_take (i := 7) (oi := _) (v := .bool true) rfl (by kernel_rfl) (by kernel_rfl) (by kernel_rfl) (fun _ _ _ h => h) (Or.inl ⟨by kernel_rfl, fun _ _ => by kernel_rfl⟩) hS1 ?_
            refine wpAnyH_take (i := 8) (oi := _) (v := .agg (cs).toArray) rfl (by kernel_rfl) (by kernel_rfl) (by kernel_rfl) (fun _ _ _ h => h) (yieldsIf_load_mid (by kernel_rfl) 34 (.tmp 5) rfl b2 (0) (by kernel_rfl) (cs) _ (fun _ h => h.1) Tryz.underlying34 rfl HSZ.out.l) hS1 ?_
            refine wpAnyH_call (i := 9) (f := 11) (args := #[.agg cs.toArray]) (v := .agg #[.int .i64 fc, .int .i64 ff]) (by kernel_rfl) rfl (by kernel_rfl) (by kernel_rfl) (HCT.out u1 Y1.out) ?_
            rintro e u2 ⟨rfl, y2⟩
            have hS2 : (fun w' : World => w'.rangeAt b2 0 cs ∧ w'.rangeAt (b6 + 1) 0 [.int .i64 fc, .int .i64 ff]) u2 := ⟨rangeAt_ext hS1.1 y2 (Nat.lt_of_lt_of_le HL2.out.1 Y1.out.size), rangeAt_ext hS1.2 y2 (Nat.lt_of_lt_of_le HL2.out.2 Y1.out.size)⟩
            refine ⟨rfl, hS2, ?_⟩
            have Y2 := Lib.hid (Y1.out.trans y2)
            refine wpAnyH_take (i := 10) (oi := _) (v := .int .i64 fc) rfl (by kernel_rfl) (by kernel_rfl) (by kernel_rfl) (fun _ _ _ h => h) (yields_v (Instr.field 37 (.agg #[.int .i64 fc, .int .i64 ff]) 0) (by kernel_rfl) (by kernel_rfl) (fun w' _ => field_code fc ff w')) hS2 ?_
            refine wpAnyH_take (i := 11) (oi := _) (v := .bool false) rfl (by kernel_rfl) (by kernel_rfl) (by kernel_rfl) (fun _ _ _ h => h) (Or.inl ⟨by kernel_rfl, fun W _ => by go_simp⟩) hS2 ?_
            refine wpAnyH_take (i := 12) (oi := _) (v := .bool false) rfl (by kernel_rfl) (by kernel_rfl) (by kernel_rfl) (fun _ _ _ h => h) (Or.inl ⟨by kernel_rfl, fun _ _ => by kernel_rfl⟩) hS2 ?_
            refine wpAnyH_take (i := 13) (oi := _) (v := .agg ([.int .i64 fc, .int .i64 ff]).toArray) rfl (by kernel_rfl) (by kernel_rfl) (by kernel_rfl) (fun _ _ _ h => h) (yieldsIf_load_mid (by kernel_rfl) 37 (.tmp 10) rfl (b6 + 1) (0) (by kernel_rfl) ([.int .i64 fc, .int .i64 ff]) _ (fun _ h => h.2) Tryz.underlying37 rfl (sizeFl _ _)) hS2 ?_
            refine wpAnyH_take (i := 14) (oi := _) (v := .agg (cs).toArray) rfl (by kernel_rfl) (by kernel_rfl) (by kernel_rfl) (fun _ _ _ h => h) (yieldsIf_load_mid (by kernel_rfl) 34 (.tmp 5) rfl b2 (0) (by kernel_rfl) (cs) _ (fun _ h => h.1) Tryz.underlying34 rfl HSZ.out.l) hS2 ?_
            refine wpAnyH_call (i := 15) (f := 11) (args := #[.agg cs.toArray]) (v := .agg #[.int .i64 fc, .int .i64 ff]) (by kernel_rfl) rfl (by kernel_rfl) (by kernel_rfl) (HCT.out u2 Y2.out) ?_
            rintro e u3 ⟨rfl, y3⟩
            have hS3 : (fun w' : World => w'.rangeAt b2 0 cs ∧ w'.rangeAt (b6 + 1) 0 [.int .i64 fc, .int .i64 ff]) u3 := ⟨rangeAt_ext hS2.1 y3 (Nat.lt_of_lt_of_le HL2.out.1 Y2.out.size), rangeAt_ext hS2.2 y3 (Nat.lt_of_lt_of_le HL2.out.2 Y2.out.size)⟩
            refine ⟨rfl, hS3, ?_⟩
            have Y3 := Lib.hid (Y2.out.trans y3)
            refine wpAnyH_take (i := 16) (oi := _) (v := .bool true) rfl (by kernel_rfl) (by kernel_rfl) (by kernel_rfl) (fun _ _ _ h => h) (Or.inl ⟨by kernel_rfl, fun W _ => by go_simp⟩) hS3 ?_
            refine wpAnyH_take (i := 17) (oi := _) (v := .bool true) rfl (by kernel_rfl) (by kernel_rfl) (by kernel_rfl) (fun _ _ _ h => h) (Or.inl ⟨by kernel_rfl, fun W _ => by go_simp⟩) hS3 ?_
            refine wpAnyH_take (i := 18) (oi := _) (v := .bool true) rfl (by kernel_rfl) (by kernel_rfl) (by kernel_rfl) (fun _ _ _ h => h) (Or.inl ⟨by kernel_rfl, fun W _ => by go_simp⟩) hS3 ?_
            refine wpAnyH_take (i := 19) (oi := _) (v := .bool true) rfl (by kernel_rfl) (by kernel_rfl) (by kernel_rfl) (fun _ _ _ h => h) (Or.inl ⟨by kernel_rfl, fun _ _ => by kernel_rfl⟩) hS3 ?_
            refine wpAnyH_call (i := 20) (f := 4) (args := #[]) (v := .bool true) (by kernel_rfl) rfl (by kernel_rfl) (by kernel_rfl) (awake_c _) ?_
            rintro e u5 ⟨rfl, y4⟩
            have hS4 : (fun w' : World => w'.rangeAt b2 0 cs ∧ w'.rangeAt (b6 + 1) 0 [.int .i64 fc, .int .i64 ff]) u5 := ⟨rangeAt_ext hS3.1 y4 (Nat.lt_of_lt_of_le HL2.out.1 Y3.out.size), rangeAt_ext hS3.2 y4 (Nat.lt_of_lt_of_le HL2.out.2 Y3.out.size)⟩
            refine ⟨rfl, hS4, ?_⟩
            have Y4 := Lib.hid (Y3.out.trans y4)
            refine wpAnyH_take (i := 21) (oi := _) (v := .bool true) rfl (by kernel_rfl) (by kernel_rfl) (by kernel_rfl) (fun _ _ _ h => h) (Or.inl ⟨by kernel_rfl, fun W _ => by go_simp⟩) hS4 ?_
            refine wpAnyH_take (i := 22) (oi := _) (v := .bool true) rfl (by kernel_rfl) (by kernel_rfl) (by kernel_rfl) (fun _ _ _ h => h) (Or.inl ⟨by kernel_rfl, fun _ _ => by kernel_rfl⟩) hS4 ?_
            refine wpAnyH_done (by kernel_rfl) ?_ _
            go_simp
            go_wp2
            go_ret
            exact ⟨rfl, HXX.out.trans Y4.out⟩
end Go.Proofs.YtpopnmelcplbbaaGreat
namespace Go.Proofs.YtpopnmelcplbbaaGreat
open Go.ChangeShapes Go.WideShapes Go.ChangeAt Go.RowKit
open Go.ChangeMaps (open_string shut_string)
set_option linter.unusedVariables false

theorem top_own : ownKnob Tryz.prog.godebug = none := by kernel_rfl
theorem top_laidOut : laidOutB Tryz.prog = true := by kernel_rfl

/-- WHAT THE WALK IS TOLD OF A SLICE OF INTEGERS THAT CAME IN: it is nil; or it leads to a row of 'cap' cells, the numbers 'zs' (the first 'len' are its elements, the rest its spare room), each fitting its kind. -/
def IsRow (k : IntKind) (w : World) (a : Option Addr) (len cap : Nat) (zs : List Int) : Prop :=
  (a = none ∧ len = 0 ∧ cap = 0 ∧ zs = []) ∨
  ∃ x, a = some x ∧ len ≤ cap ∧ cap ≤ maxLen ∧ zs.length = cap ∧ (∀ i, i < zs.length → w.cell? (x.add i) = some (.int k (zs.getD i 0))) ∧ ∀ n ∈ zs, (Lit.int k n).wf = true

/-- the bytes that a row of numbers is -/
def bytesOf (zs : List Int) : List UInt8 := zs.map fun n => UInt8.ofNat n.toNat
theorem bytes_back (zs : List Int) (h : ∀ n ∈ zs, (Lit.int .u8 n).wf = true) : bytes8 (bytesOf zs) = zs.map fun n => .int .u8 n := by
  unfold bytes8 bytesOf
  rw [List.map_map]
  refine List.map_congr_left fun n hn => ?_
  have hw := h n hn
  simp only [Lit.wf, IntKind.min, IntKind.max, IntKind.signed, IntKind.bits, Bool.and_eq_true, decide_eq_true_eq] at hw
  simp at hw
  simp only [Function.comp_apply]
  rw [UInt8.toNat_ofNat']
  congr 1
  omega
theorem row_of (a0 : Option Addr) (len0 cap0 : Nat) (z0 : List Int) (w : World) (w0 : IsRow .u8 w a0 len0 cap0 z0) :
    ∃ l : List UInt8, l.length = len0 ∧ RowIn w (.slice a0 len0 cap0) len0 (bytes8 l) ∧ len0 ≤ cap0 := by
  rcases w0 with ⟨rfl, rfl, rfl, rfl⟩ | ⟨x, rfl, hlc, hm, hz, hcell, hwf⟩
  · exact ⟨[], rfl, ⟨none, 0, rfl, .inl ⟨rfl, rfl⟩⟩, Nat.le_refl _⟩
  · have hlen : (z0.take len0).length = len0 := by rw [List.length_take]; omega
    refine ⟨bytesOf (z0.take len0), by unfold bytesOf; rw [List.length_map, hlen], ?_, hlc⟩
    rw [bytes_back _ fun n hn => hwf n (List.mem_of_mem_take hn)]
    by_cases h0 : len0 = 0
    · subst h0
      exact ⟨some x, cap0, rfl, .inl ⟨rfl, rfl⟩⟩
    · obtain ⟨b, off, spot⟩ := x
      have hc := hcell 0 (by omega)
      have hspot : spot = none := by simpa [Addr.add] using World.cell?_spot hc
      subst hspot
      refine ⟨some ⟨b, off, none⟩, cap0, rfl, .inr ⟨b, off, rfl, ?_, ?_⟩⟩
      · have h1 : w.cell? ⟨b, off, none⟩ = some (.int .u8 (z0.getD 0 0)) := by simpa [Addr.add] using hc
        exact World.block_lt_of_cell? w _ h1
      · intro i c hi
        rw [List.getElem?_map, List.getElem?_take] at hi
        split at hi
        · rename_i hlt
          rw [List.getElem?_eq_getElem (by omega)] at hi
          have h2 := hcell i (by omega)
          rw [addr_add, List.getD_eq_getElem?_getD, List.getElem?_eq_getElem (by omega)] at h2
          rw [h2]
          simpa using hi
        · cases hi
theorem top_walk (a0 : Option Addr) (len0 cap0 : Nat) (z0 : List Int) (a1 : Bool) (w : World) (w0 : IsRow .u8 w a0 len0 cap0 z0) :
    Calls Tryz.prog 3 #[.slice a0 len0 cap0, .bool a1] w fun e w' => e = .returned (.bool true) ∧ Below w.heap.size w w' := by
  obtain ⟨l, rfl, hrow, hcap⟩ := row_of a0 len0 cap0 z0 w w0
  exact (Top_c w a0 cap0 l a1 hrow hcap).mono fun e w' h => ⟨h.1, h.2.below⟩

/-! ### THE ROW's STEP: WRITTEN OUT: LEAVE IT -/
set_option maxRecDepth 100000 in
theorem top_lifted (os : Os) (started : os.Started) (H : Type) (enc : TypeId × Value → H) :
    ReturnsInHanded {} Tryz.checked os 3 .any (Rows.topCodesEverSpec.pre6 enc Tryz.prog Tryz.f3 Rows.topCodesEverRow.domain false) (Rows.topCodesEverSpec.post enc Tryz.prog Tryz.f3 false true false false) := by
  refine returnsInHanded_of_change (C := Tryz.checked) top_own started (by kernel_rfl) Tryz.func3
    (ChangeSpec.witness6 (enc := enc) (C := Tryz.checked) false ⟨#[], #[.slice none 0 0, .bool false], []⟩ 8 (by kernel_rfl) (by kernel_rfl) (by kernel_rfl) (by kernel_rfl)) ?_
  intro W base args ds gs before hval0 hW hcnd _
  have hval : ∀ (j : Nat) t v, Tryz.f3.params[j]? = some t → args[j]? = some v → Value.okWide Tryz.prog W .any base t v := hval0
  have hW' := hW
  obtain ⟨p, q, hA0, hV, rfl, hfz, hnd⟩ := hW
  have hA : DataW.TrodAll enc Tryz.prog W 0 (fun _ => true) true Tryz.f3.params.toList args.toList ds p := hA0
  rw [Tryz.params3] at hA hval
  obtain ⟨v0, vs0, d0, ds0, p0, q0, hargs, rfl, rfl, h0, r0⟩ := trodAll_cons hA
  obtain ⟨v1, vs1, d1, ds1, p1, q1, rfl, rfl, rfl, h1, r1⟩ := trodAll_cons r0
  obtain ⟨rfl, rfl, rfl⟩ := trodAll_nil r1
  obtain rfl : args = #[v0, v1] := by cases args; simp_all
  obtain ⟨rfl, rfl⟩ := trodVars_none hV
  obtain ⟨a0, len0, cap0, rfl⟩ := okWide_slice Tryz.underlying22 (hval 0 22 v0 rfl rfl)
  have k0 := h0
  have lt0 : ∀ x ∈ p0, x.block < W.heap.size := by obtain ⟨m, hm⟩ := k0; exact DataW.trod_lt m _ _ _ hm
  obtain ⟨z0, w0⟩ : ∃ zs, IsRow .u8 W a0 len0 cap0 zs := by
    obtain ⟨fuel, hf⟩ := h0
    rcases open_ints Tryz.underlying22 Tryz.underlying5 (by kernel_rfl) hf with ⟨hcs, _⟩ | ⟨x, l, c, zs, hcs, _, hl, hm, hz, _, hcell, hwz⟩
    · simp [Value.cells] at hcs
      obtain ⟨rfl, rfl, rfl⟩ := hcs
      exact ⟨[], .inl ⟨rfl, rfl, rfl, rfl⟩⟩
    · simp [Value.cells] at hcs
      obtain ⟨rfl, rfl, rfl⟩ := hcs
      exact ⟨zs, .inr ⟨_, rfl, hl, hm, by simpa using hz, hcell, hwz⟩⟩
  obtain ⟨a1, rfl, rfl, rfl⟩ := open_bool Tryz.underlying4 (hval 1 4 v1 rfl rfl) h1
  clear hA0 hval0
  refine (top_walk a0 len0 cap0 z0 a1 W w0).mono fun e W' ⟨he, bel⟩ => ?_
  subst he
  exact ⟨_, rfl, _, _, _, [], _, [], hW', trodAll_mk1 (shut_bool Tryz.underlying4 _), (trodAll_cons_mk (Below.trod top_laidOut (by kernel_rfl) (of_decide_eq_true (by kernel_rfl)) k0 bel lt0) (trodAll_cons_mk (shut_bool Tryz.underlying4 _) trodAll_mk0)), rfl, bel.frame _, fun h => by cases h⟩

theorem top_over : Rows.topCodesEverRow.holds Tryz.pinned (OpenSpec.ofChange Rows.topCodesEverSpec) :=
  OpenClaim.holds_of_wide 3 Tryz.f3 rfl rfl rfl rfl rfl rfl rfl ⟨rfl, rfl, rfl, rfl, rfl⟩ rfl rfl rfl rfl rfl (by kernel_rfl) Tryz.func3 (by kernel_rfl)
    (of_decide_eq_true (by kernel_rfl)) (by unfold Func.isWrapper; first | (rw [if_pos (by decide +kernel)]; kernel_rfl) | (rw [if_neg (by decide +kernel)]; exact ⟨rfl, rfl⟩))
    (fun os started H enc _ => top_lifted os started H enc)

/-- ████ THE STATEMENT ████ -/
theorem TopCodesEver_proved : Rows.TopCodesEverSaid := top_over
#print axioms TopCodesEver_proved
end Go.Proofs.YtpopnmelcplbbaaGreat
