/- The examples of the chapter hold: the walk of the laws' function known. No condition. -/
import Derived.Test.YtkpmabknjdgkmaaGreatDoorLaw3
namespace Go.Proofs.YtkpmabknjdgkmaaGreatDoor
open Go.RowKit

def kt1 : Tm := ⟨1, ⟨#[52]⟩, [], ⟨#[]⟩⟩
def kt2 : Tm := ⟨1, ⟨#[52]⟩, [⟨#[108, 115]⟩], ⟨#[108, 115, 10]⟩⟩
def kt3 : Tm := ⟨1, ⟨#[52]⟩, [], ⟨#[108, 115, 10]⟩⟩
theorem k1 : beginT ⟨#[52]⟩ (emptyT 1) = (kt1, 0) := by decide +kernel
theorem k2 : typedT ⟨#[108, 115]⟩ kt1 = (kt2, 0) := by decide +kernel
theorem k3 : readT ⟨#[53]⟩ kt2 = (kt2, 10) := by decide +kernel
theorem k4 : readT ⟨#[52, 46, 49]⟩ kt2 = (kt3, 0) := by decide +kernel
theorem k5 : readT ⟨#[52, 46, 49]⟩ kt3 = (kt3, 19) := by decide +kernel
theorem k6 : readL ⟨#[52, 46, 49]⟩ kt2 = ⟨#[108, 115]⟩ := by decide +kernel
theorem k7 : chkT kt2 = 0 := by decide +kernel
theorem k8 : strB (encT kt2) = ⟨#[1, 1, 52, 1, 2, 108, 115, 3, 108, 115, 10]⟩ := by
  have : encT kt2 = [1, 1, 52, 1, 2, 108, 115, 3, 108, 115, 10] := by
    simp only [encT, textB, kt2, List.length_cons, List.length_nil, List.flatMap_cons, List.flatMap_nil]
    rw [natB_small (by decide), natB_small (by decide), natB_small (by decide), natB_small (by decide), natB_small (by decide)]
    decide
  rw [this]; rfl

def kX1 : Ts := Ts.put (fun _ => none) 7 kt1
def kX2 : Ts := kX1.put 7 kt2
def kX3 : Ts := kX2.put 7 kt3
theorem q1 : opR (fun _ => none) 7 1 (beginT ⟨#[52]⟩) = (kX1, 0) := opR_ok (by omega) (by omega) rfl k1
theorem q2 : opR kX1 7 1 (typedT ⟨#[108, 115]⟩) = (kX2, 0) := opR_ok (by omega) (by omega) (inT_put rfl) k2
theorem q3 : opR kX2 7 1 (readT ⟨#[53]⟩) = (kX2, 10) := opR_err (by omega) (by omega) (inT_put rfl) k3 (by decide)
theorem q4 : opR kX2 7 1 (readT ⟨#[52, 46, 49]⟩) = (kX3, 0) := opR_ok (by omega) (by omega) (inT_put rfl) k4
theorem q5 : opR kX3 7 1 (readT ⟨#[52, 46, 49]⟩) = (kX3, 19) := opR_err (by omega) (by omega) (inT_put rfl) k5 (by decide)
theorem q6 : lineR kX2 7 1 ⟨#[52, 46, 49]⟩ = ⟨#[108, 115]⟩ := by
  unfold lineR
  rw [if_pos (by omega), show inT (kX2 7) 1 = kt2 from inT_put rfl]
  exact k6
theorem q7 : getR kX2 7 1 = (kt2, 0) := by
  unfold getR
  rw [if_pos (by omega), show inT (kX2 7) 1 = kt2 from inT_put rfl]

set_option maxRecDepth 100000 in
set_option maxHeartbeats 1000000 in
theorem f24_any (w : World) : Calls Tryz.prog 11 #[] w fun e w' => e = .returned (.bool true) ∧ Kpt Non w w' := by
  go_enter Tryz.func11, Tryz.ntmps11
  go_wp2_with fail
  refine (f26_any _).mono ?_
  rintro e w1 ⟨rfl, rfl⟩
  go_wp2_with fail
  refine (V.new w).mono ?_
  rintro e w2 ⟨b, rfl, hv⟩
  obtain ⟨top, htop⟩ : ∃ top, w2.heap.size = top := ⟨_, rfl⟩
  rw [htop] at hv
  have HTop := Lib.hid htop; clear htop
  have HV := Lib.hid hv; clear hv
  go_wp2_with fail
  refine (V.begin (c' := 1) HV.out ⟨#[52]⟩ q1 rfl (by decide) (by decide)).mono ?_
  rintro e w3 ⟨rfl, hv, ka⟩
  have s3 := ka.size; clear ka
  have HV := Lib.hid hv; clear hv
  go_wp2_with fail
  refine (V.type (c' := 2) HV.out ⟨#[108, 115]⟩ q2 rfl (by decide) (by decide)).mono ?_
  rintro e w4 ⟨rfl, hv, ka⟩
  have s4 := ka.size; clear ka
  have HV := Lib.hid hv; clear hv
  go_wp2_with fail
  refine (V.getTm HV.out q7).mono ?_
  rintro e w5 ⟨A, cp, rfl, hca, hcb, hr, hv, ka⟩
  have s5 := ka.size; clear ka
  have hn : ¬ Btw w top w5.heap.size := fun h => by have := h.2; have := HTop.out; omega
  have HN := Lib.hid hn; clear hn
  have hv' := hv.non (Kpt.alloc (Kpt.refl _ _) (.cells #[.int .i64 kt2.epoch, .string kt2.session, .slice A kt2.typed.length cp, .string kt2.screen] 36))
  have hz : Blk (w5.alloc (.cells #[.int .i64 kt2.epoch, .string kt2.session, .slice A kt2.typed.length cp, .string kt2.screen] 36)) w5.heap.size 36 _ := Blk.new _ _ _
  have e36 := f36_any kt2 _ _ _ ⟨A, cp, rfl, hca, hcb, hr.alloc (.cells #[.int .i64 kt2.epoch, .string kt2.session, .slice A kt2.typed.length cp, .string kt2.screen] 36)⟩ (tmOk_chk k7) (by decide)
  rw [k7, if_pos rfl, k8] at e36
  simp only [kt2] at hv' hz e36
  have HV := Lib.hid hv'; have HZ := Lib.hid hz; have H36 := Lib.hid e36; clear hv hv' hz e36 hr
  simp only [kt2]
  go_wp2_with fail
  refine H36.out.mono ?_
  rintro e w6 ⟨rfl, k6⟩
  have hv := HV.out.non k6
  have hz := (HZ.out.kpt k6 (fun e => e))
  have HV := Lib.hid hv; have HZ := Lib.hid hz; clear hv hz k6
  go_wp2_with fail
  refine (V.read (c' := 2) HV.out ⟨#[53]⟩ q3 rfl rfl (by decide) (by decide)).mono ?_
  rintro e w7 ⟨rfl, hv, k7⟩
  have hz := HZ.out.kpt k7 HN.out
  have HV := Lib.hid hv; have HZ := Lib.hid hz; clear hv hz k7
  go_wp2_with fail
  refine (V.read (c' := 3) HV.out ⟨#[52, 46, 49]⟩ q4 q6 rfl (by decide) (by decide)).mono ?_
  rintro e w8 ⟨rfl, hv, k7⟩
  have hz := HZ.out.kpt k7 HN.out
  have HV := Lib.hid hv; have HZ := Lib.hid hz; clear hv hz k7
  go_wp2_with fail
  refine (V.read (c' := 3) HV.out ⟨#[52, 46, 49]⟩ q5 rfl rfl (by decide) (by decide)).mono ?_
  rintro e w9 ⟨rfl, hv, k7⟩
  have hz := HZ.out.kpt k7 HN.out
  have y3 := hz.cell 3
  simp only [List.getElem?_toArray, List.getElem?_cons_zero, List.getElem?_cons_succ] at y3
  have HV := Lib.hid hv; clear hv hz k7
  go_wp2_with fail
  go_ret
  exact ⟨rfl, HV.out.kpt⟩
end Go.Proofs.YtkpmabknjdgkmaaGreatDoor
