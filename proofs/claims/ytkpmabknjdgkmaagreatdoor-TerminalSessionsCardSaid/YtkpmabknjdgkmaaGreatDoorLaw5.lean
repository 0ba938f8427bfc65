/- The law TerminalSessions: its walk, and what it computes. No condition. -/
import Derived.Test.YtkpmabknjdgkmaaGreatDoorLaw4
namespace Go.Proofs.YtkpmabknjdgkmaaGreatDoor
open Go.RowKit

def X0 : Ts := fun _ => none
def s9 : ByteArray := ⟨#[57]⟩
def sX : ByteArray := ⟨#[120]⟩
def scx : ByteArray := strB (scr (bytesOf es ++ bytesOf (sX ++ nl)))

section
variable {a b c : ByteArray}
theorem p_begin_ok (hv : validB (bytesOf a) = true) (h0 : a.size ≠ 0) : opR X0 2 0 (beginT a) = (X0.put 2 ⟨0, a, [], es⟩, 0) :=
  opR_ok (t := emptyT 0) (by omega) (by omega) rfl (by unfold beginT; rw [if_pos ⟨hv, h0⟩, if_neg (by simp [emptyT, size_es])]; rfl)
theorem p_begin_no (h : ¬ (validB (bytesOf a) = true ∧ a.size ≠ 0)) : opR X0 2 0 (beginT a) = (X0, 12) :=
  opR_err (by omega) (by omega) rfl (by unfold beginT; rw [if_neg h]) (by decide)
theorem p_type_no : opR X0 2 0 (typedT sX) = (X0, 10) :=
  opR_err (t := emptyT 0) (t' := emptyT 0) (by omega) (by omega) rfl (by decide +kernel) (by decide)
theorem v9 : validB (bytesOf s9) = true ∧ s9.size ≠ 0 := by decide +kernel
theorem p_busy (h0 : a.size ≠ 0) : opR (X0.put 2 ⟨0, a, [], es⟩) 2 0 (beginT s9) = (X0.put 2 ⟨0, a, [], es⟩, 19) :=
  opR_err (by omega) (by omega) (inT_put rfl) (by unfold beginT; rw [if_pos v9, if_pos h0]) (by decide)
theorem p_type (h0 : a.size ≠ 0) : opR (X0.put 2 ⟨0, a, [], es⟩) 2 0 (typedT sX) = ((X0.put 2 ⟨0, a, [], es⟩).put 2 ⟨0, a, [sX], scx⟩, 0) :=
  opR_ok (by omega) (by omega) (inT_put rfl) (by
    unfold typedT
    rw [if_pos (by decide +kernel), if_neg h0, if_neg (by simp)]
    rfl)
theorem p_read_in {Y : Ts} {sc : ByteArray} (h0 : a.size ≠ 0) (hw : withinB (bytesOf c) (bytesOf a) = true) : opR (Y.put 2 ⟨0, a, [sX], sc⟩) 2 0 (readT c) = ((Y.put 2 ⟨0, a, [sX], sc⟩).put 2 ⟨0, a, [], sc⟩, 0) :=
  opR_ok (by omega) (by omega) (inT_put rfl) (by unfold readT; rw [if_pos ⟨h0, hw⟩])
theorem p_read_out {Y : Ts} {t : Tm} (he : t.epoch = 0) (hw : ¬ (t.session.size ≠ 0 ∧ withinB (bytesOf c) (bytesOf t.session) = true)) : opR (Y.put 2 t) 2 0 (readT c) = (Y.put 2 t, 10) :=
  opR_err (by omega) (by omega) (inT_put he) (by unfold readT; rw [if_neg hw]) (by decide)
theorem p_end_eq {Y : Ts} {t : Tm} (he : t.epoch = 0) (h0 : b.size ≠ 0) (hb : b = t.session) : opR (Y.put 2 t) 2 0 (endT b) = ((Y.put 2 t).put 2 ⟨0, es, [], t.screen⟩, 0) :=
  opR_ok (by omega) (by omega) (inT_put he) (by unfold endT; rw [if_pos ⟨h0, hb⟩, he])
theorem p_end_ne {Y : Ts} {t : Tm} (he : t.epoch = 0) (hb : b ≠ t.session) : opR (Y.put 2 t) 2 0 (endT b) = (Y.put 2 t, 10) :=
  opR_err (by omega) (by omega) (inT_put he) (by unfold endT; rw [if_neg (fun h => hb h.2)]) (by decide)
theorem p_begin_free {Y : Ts} {sc : ByteArray} : opR (Y.put 2 ⟨0, es, [], sc⟩) 2 0 (beginT s9) = ((Y.put 2 ⟨0, es, [], sc⟩).put 2 ⟨0, s9, [], es⟩, 0) :=
  opR_ok (by omega) (by omega) (inT_put rfl) (by unfold beginT; rw [if_pos v9, if_neg (by simp [size_es])])
end
theorem toList_eq_ {a b : ByteArray} (h : a = b) : (a.toList == b.toList) = true := by rw [h]; simp
theorem toList_ne_ {a b : ByteArray} (h : a ≠ b) : (a.toList == b.toList) = false := by
  rw [beq_eq_false_iff_ne]
  intro e
  rw [ByteArray.toList_eq, ByteArray.toList_eq] at e
  exact h (ByteArray.ext (Array.toList_inj.1 e))

/-- A size beyond the bound: the answer is known's. -/
theorem f4_great (a b c : ByteArray) (w : World) (h : 100 < a.size ∨ 100 < b.size ∨ 100 < c.size) : Calls Tryz.prog 4 #[.string a, .string b, .string c] w fun e w' => e = .returned (.bool true) ∧ Kpt Non w w' := by
  by_cases h1 : (100 : Int) < (a.size : Int)
  · clear h
    go_enter Tryz.func4, Tryz.ntmps4
    go_wp2_with fail
    refine (f24_any _).mono ?_
    rintro e w1 ⟨rfl, k1⟩
    have K1 := Lib.hid k1; clear k1
    go_wp2_with fail
    refine (f24_any _).mono ?_
    rintro e w2 ⟨rfl, k2⟩
    have K2 := Lib.hid k2; clear k2
    go_wp2_with fail
    go_ret
    exact ⟨rfl, Kpt.trans K1.out K2.out (fun _ e _ => e)⟩
  by_cases h2 : (100 : Int) < (b.size : Int)
  · clear h
    go_enter Tryz.func4, Tryz.ntmps4
    go_wp2_with fail
    refine (f24_any _).mono ?_
    rintro e w1 ⟨rfl, k1⟩
    have K1 := Lib.hid k1; clear k1
    go_wp2_with fail
    refine (f24_any _).mono ?_
    rintro e w2 ⟨rfl, k2⟩
    have K2 := Lib.hid k2; clear k2
    go_wp2_with fail
    go_ret
    exact ⟨rfl, Kpt.trans K1.out K2.out (fun _ e _ => e)⟩
  have h3 : (100 : Int) < (c.size : Int) := by omega
  clear h
  go_enter Tryz.func4, Tryz.ntmps4
  go_wp2_with fail
  refine (f24_any _).mono ?_
  rintro e w1 ⟨rfl, k1⟩
  have K1 := Lib.hid k1; clear k1
  go_wp2_with fail
  refine (f24_any _).mono ?_
  rintro e w2 ⟨rfl, k2⟩
  have K2 := Lib.hid k2; clear k2
  go_wp2_with fail
  go_ret
  exact ⟨rfl, Kpt.trans K1.out K2.out (fun _ e _ => e)⟩

set_option maxRecDepth 100000 in
set_option maxHeartbeats 1000000 in
/-- A session's name that is none. -/
theorem f4_bad (a b c : ByteArray) (w : World) (ha : ¬ (100 : Int) < (a.size : Int)) (hb : ¬ (100 : Int) < (b.size : Int)) (hc : ¬ (100 : Int) < (c.size : Int)) (hv : ¬ (validB (bytesOf a) = true ∧ a.size ≠ 0)) :
    Calls Tryz.prog 4 #[.string a, .string b, .string c] w fun e w' => e = .returned (.bool true) ∧ Kpt Non w w' := by
  have q1 := p_begin_no hv
  have Q1 := Lib.hid q1; clear q1
  by_cases hvv : validB a.data.toList = true
  · have h0 : a.size = 0 := Decidable.byContradiction fun h => hv ⟨hvv, h⟩
    have h0' := isEmpty_true h0
    have hs : a.size ≤ 140737488351232 := by omega
    have HV := Lib.hid hvv; have H0 := Lib.hid h0; clear hv hvv h0
    go_enter Tryz.func4, Tryz.ntmps4
    go_wp2_with fail
    refine (f24_any _).mono ?_
    rintro e w1 ⟨rfl, k1⟩
    have K1 := Lib.hid k1; clear k1
    go_wp2_with fail
    refine (f26_any _).mono ?_
    rintro e w2 ⟨rfl, rfl⟩
    go_wp2_with fail
    refine (V.new w1).mono ?_
    rintro e w2 ⟨vb, rfl, hv⟩
    generalize w2.heap.size = top at hv
    have HVV := Lib.hid hv; clear hv
    go_wp2_with fail
    refine (V.begin HVV.out a Q1.out rfl (by decide) hs).mono ?_
    rintro e w3 ⟨rfl, hv, -⟩
    have HVV := Lib.hid hv; clear hv
    go_wp2_with fail
    refine (f31_any a hs _).mono ?_
    rintro e w4 ⟨rfl, k4⟩
    rw [HV.out]
    have HVV := Lib.hid (HVV.out.non k4); clear k4
    go_wp2_with fail
    refine (V.type HVV.out sX p_type_no rfl (by decide) (by decide)).mono ?_
    rintro e w5 ⟨rfl, hv, -⟩
    have HVV := Lib.hid hv; clear hv
    go_wp2_with fail
    go_ret
    exact ⟨rfl, Kpt.trans K1.out HVV.out.kpt (fun _ e _ => e)⟩
  · have hs : a.size ≤ 140737488351232 := by omega
    have hvf : validB a.data.toList = false := by simpa using hvv
    have HV := Lib.hid hvf; clear hv hvv hvf
    go_enter Tryz.func4, Tryz.ntmps4
    go_wp2_with fail
    refine (f24_any _).mono ?_
    rintro e w1 ⟨rfl, k1⟩
    have K1 := Lib.hid k1; clear k1
    go_wp2_with fail
    refine (f26_any _).mono ?_
    rintro e w2 ⟨rfl, rfl⟩
    go_wp2_with fail
    refine (V.new w1).mono ?_
    rintro e w2 ⟨vb, rfl, hv⟩
    generalize w2.heap.size = top at hv
    have HVV := Lib.hid hv; clear hv
    go_wp2_with fail
    refine (V.begin HVV.out a Q1.out rfl (by decide) hs).mono ?_
    rintro e w3 ⟨rfl, hv, -⟩
    have HVV := Lib.hid hv; clear hv
    go_wp2_with fail
    refine (f31_any a hs _).mono ?_
    rintro e w4 ⟨rfl, k4⟩
    rw [HV.out]
    have HVV := Lib.hid (HVV.out.non k4); clear k4
    go_wp2_with fail
    refine (V.type HVV.out sX p_type_no rfl (by decide) (by decide)).mono ?_
    rintro e w5 ⟨rfl, hv, -⟩
    have HVV := Lib.hid hv; clear hv
    go_wp2_with fail
    go_ret
    exact ⟨rfl, Kpt.trans K1.out HVV.out.kpt (fun _ e _ => e)⟩

set_option maxRecDepth 100000 in
set_option maxHeartbeats 4000000 in
/-- A session's name that is one; the other name is the same. -/
theorem f4_same (a b c : ByteArray) (w : World) (ha : ¬ (100 : Int) < (a.size : Int)) (hb : ¬ (100 : Int) < (b.size : Int)) (hc : ¬ (100 : Int) < (c.size : Int)) (hv : validB (bytesOf a) = true) (h0 : a.size ≠ 0) (wi : Bool)
    (hwi : withinB (bytesOf c) (bytesOf a) = wi) (hba : b = a) :
    Calls Tryz.prog 4 #[.string a, .string b, .string c] w fun e w' => e = .returned (.bool true) ∧ Kpt Non w w' := by
  have Q1 := Lib.hid (p_begin_ok hv h0)
  have Q2 := Lib.hid (p_busy h0)
  have Q3 := Lib.hid (p_type h0)
  have hsa : a.size ≤ 140737488351232 := by omega
  have hsc : c.size ≤ 140737488351232 := by omega
  have h0' := isEmpty_false h0
  have HV := Lib.hid (show validB a.data.toList = true from hv)
  obtain ⟨t, Y, hx4, he4, hs4⟩ : ∃ (t : Tm) (Y : Ts), opR ((X0.put 2 ⟨0, a, [], es⟩).put 2 ⟨0, a, [sX], scx⟩) 2 0 (readT c) = (Y.put 2 t, if wi = true then 0 else 10) ∧ t.epoch = 0 ∧ t.session = a := by
    cases wi with
    | true => exact ⟨⟨0, a, [], scx⟩, _, p_read_in h0 hwi, rfl, rfl⟩
    | false => exact ⟨⟨0, a, [sX], scx⟩, _, p_read_out (t := ⟨0, a, [sX], scx⟩) rfl (fun h => by rw [hwi] at h; exact absurd h.2 (by decide)), rfl, rfl⟩
  have Q4 := Lib.hid hx4
  have Q6 := Lib.hid (p_end_eq (Y := Y) he4 h0 hs4.symm)
  have Q8 := Lib.hid (p_begin_free (Y := Y.put 2 t) (sc := t.screen))
  have Q7 := Lib.hid (p_read_out (c := a) (Y := Y.put 2 t) (t := ⟨0, es, [], t.screen⟩) rfl (fun h => h.1 rfl))
  have HWI := Lib.hid (show withinB c.data.toList a.data.toList = wi from hwi)
  have heq := toList_eq_ hba.symm
  have Q5 := Lib.hid (p_end_eq (b := b) (Y := Y) he4 (by rw [hba]; exact h0) (by rw [hba, hs4]))
  clear hba hx4 he4 hs4 hwi hv h0
  cases wi with
  | true =>
    simp only [if_true] at Q4
    go_enter Tryz.func4, Tryz.ntmps4
    go_wp2_with fail
    refine (f24_any _).mono ?_
    rintro e w1 ⟨rfl, k1⟩
    have K1 := Lib.hid k1; clear k1
    go_wp2_with fail
    refine (f26_any _).mono ?_
    rintro e w2 ⟨rfl, rfl⟩
    go_wp2_with fail
    refine (V.new w1).mono ?_
    rintro e w2 ⟨vb, rfl, hv⟩
    generalize w2.heap.size = top at hv
    have HVV := Lib.hid hv; clear hv
    go_wp2_with fail
    refine (V.begin (c' := 1) HVV.out a Q1.out rfl (by decide) hsa).mono ?_
    rintro e w3 ⟨rfl, hv, -⟩
    have HVV := Lib.hid hv; clear hv
    go_wp2_with fail
    refine (f31_any a hsa _).mono ?_
    rintro e w4 ⟨rfl, k4⟩
    rw [HV.out]
    have HVV := Lib.hid (HVV.out.non k4); clear k4
    go_wp2_with fail
    refine (V.begin (c' := 1) HVV.out s9 Q2.out rfl (by decide) (by decide)).mono ?_
    rintro e w5 ⟨rfl, hv, -⟩
    have HVV := Lib.hid hv; clear hv
    go_wp2_with fail
    refine (V.type (c' := 2) HVV.out sX Q3.out rfl (by decide) (by decide)).mono ?_
    rintro e w6 ⟨rfl, hv, -⟩
    have HVV := Lib.hid hv; clear hv
    go_wp2_with fail
    refine (V.read (c' := 3) HVV.out c Q4.out rfl rfl (by decide) hsc).mono ?_
    rintro e w7 ⟨rfl, hv, -⟩
    have HVV := Lib.hid hv; clear hv
    go_wp2_with fail
    refine (V.end_ (c' := 4) HVV.out b Q5.out rfl (by decide)).mono ?_
    rintro e w8 ⟨rfl, hv, -⟩
    have HVV := Lib.hid hv; clear hv
    go_wp2_with fail
    refine (f33_any c a hsc hsa _).mono ?_
    rintro e w9 ⟨rfl, k9⟩
    rw [HWI.out]
    have HVV := Lib.hid (HVV.out.non k9); clear k9
    go_wp2_with fail
    refine (V.read (c' := 4) HVV.out a Q7.out rfl rfl (by decide) hsa).mono ?_
    rintro e w11 ⟨rfl, hv, -⟩
    have HVV := Lib.hid hv; clear hv
    go_wp2_with fail
    refine (V.begin (c' := 5) HVV.out s9 Q8.out rfl (by decide) (by decide)).mono ?_
    rintro e w12 ⟨rfl, hv, -⟩
    have HVV := Lib.hid hv; clear hv
    go_wp2_with fail
    go_ret
    exact ⟨rfl, Kpt.trans K1.out HVV.out.kpt (fun _ e _ => e)⟩
  | false =>
    simp only [if_false, Bool.false_eq_true] at Q4
    go_enter Tryz.func4, Tryz.ntmps4
    go_wp2_with fail
    refine (f24_any _).mono ?_
    rintro e w1 ⟨rfl, k1⟩
    have K1 := Lib.hid k1; clear k1
    go_wp2_with fail
    refine (f26_any _).mono ?_
    rintro e w2 ⟨rfl, rfl⟩
    go_wp2_with fail
    refine (V.new w1).mono ?_
    rintro e w2 ⟨vb, rfl, hv⟩
    generalize w2.heap.size = top at hv
    have HVV := Lib.hid hv; clear hv
    go_wp2_with fail
    refine (V.begin (c' := 1) HVV.out a Q1.out rfl (by decide) hsa).mono ?_
    rintro e w3 ⟨rfl, hv, -⟩
    have HVV := Lib.hid hv; clear hv
    go_wp2_with fail
    refine (f31_any a hsa _).mono ?_
    rintro e w4 ⟨rfl, k4⟩
    rw [HV.out]
    have HVV := Lib.hid (HVV.out.non k4); clear k4
    go_wp2_with fail
    refine (V.begin (c' := 1) HVV.out s9 Q2.out rfl (by decide) (by decide)).mono ?_
    rintro e w5 ⟨rfl, hv, -⟩
    have HVV := Lib.hid hv; clear hv
    go_wp2_with fail
    refine (V.type (c' := 2) HVV.out sX Q3.out rfl (by decide) (by decide)).mono ?_
    rintro e w6 ⟨rfl, hv, -⟩
    have HVV := Lib.hid hv; clear hv
    go_wp2_with fail
    refine (V.read (c' := 2) HVV.out c Q4.out rfl rfl (by decide) hsc).mono ?_
    rintro e w7 ⟨rfl, hv, -⟩
    have HVV := Lib.hid hv; clear hv
    go_wp2_with fail
    refine (V.end_ (c' := 3) HVV.out b Q5.out rfl (by decide)).mono ?_
    rintro e w8 ⟨rfl, hv, -⟩
    have HVV := Lib.hid hv; clear hv
    go_wp2_with fail
    refine (f33_any c a hsc hsa _).mono ?_
    rintro e w9 ⟨rfl, k9⟩
    rw [HWI.out]
    have HVV := Lib.hid (HVV.out.non k9); clear k9
    go_wp2_with fail
    refine (V.read (c' := 3) HVV.out a Q7.out rfl rfl (by decide) hsa).mono ?_
    rintro e w11 ⟨rfl, hv, -⟩
    have HVV := Lib.hid hv; clear hv
    go_wp2_with fail
    refine (V.begin (c' := 4) HVV.out s9 Q8.out rfl (by decide) (by decide)).mono ?_
    rintro e w12 ⟨rfl, hv, -⟩
    have HVV := Lib.hid hv; clear hv
    go_wp2_with fail
    go_ret
    exact ⟨rfl, Kpt.trans K1.out HVV.out.kpt (fun _ e _ => e)⟩

set_option maxRecDepth 100000 in
set_option maxHeartbeats 4000000 in
/-- A session's name that is one; the other name is another. -/
theorem f4_diff (a b c : ByteArray) (w : World) (ha : ¬ (100 : Int) < (a.size : Int)) (hb : ¬ (100 : Int) < (b.size : Int)) (hc : ¬ (100 : Int) < (c.size : Int)) (hv : validB (bytesOf a) = true) (h0 : a.size ≠ 0) (wi : Bool)
    (hwi : withinB (bytesOf c) (bytesOf a) = wi) (hba : b ≠ a) :
    Calls Tryz.prog 4 #[.string a, .string b, .string c] w fun e w' => e = .returned (.bool true) ∧ Kpt Non w w' := by
  have Q1 := Lib.hid (p_begin_ok hv h0)
  have Q2 := Lib.hid (p_busy h0)
  have Q3 := Lib.hid (p_type h0)
  have hsa : a.size ≤ 140737488351232 := by omega
  have hsc : c.size ≤ 140737488351232 := by omega
  have h0' := isEmpty_false h0
  have HV := Lib.hid (show validB a.data.toList = true from hv)
  obtain ⟨t, Y, hx4, he4, hs4⟩ : ∃ (t : Tm) (Y : Ts), opR ((X0.put 2 ⟨0, a, [], es⟩).put 2 ⟨0, a, [sX], scx⟩) 2 0 (readT c) = (Y.put 2 t, if wi = true then 0 else 10) ∧ t.epoch = 0 ∧ t.session = a := by
    cases wi with
    | true => exact ⟨⟨0, a, [], scx⟩, _, p_read_in h0 hwi, rfl, rfl⟩
    | false => exact ⟨⟨0, a, [sX], scx⟩, _, p_read_out (t := ⟨0, a, [sX], scx⟩) rfl (fun h => by rw [hwi] at h; exact absurd h.2 (by decide)), rfl, rfl⟩
  have Q4 := Lib.hid hx4
  have Q6 := Lib.hid (p_end_eq (Y := Y) he4 h0 hs4.symm)
  have Q8 := Lib.hid (p_begin_free (Y := Y.put 2 t) (sc := t.screen))
  have Q7 := Lib.hid (p_read_out (c := a) (Y := Y.put 2 t) (t := ⟨0, es, [], t.screen⟩) rfl (fun h => h.1 rfl))
  have HWI := Lib.hid (show withinB c.data.toList a.data.toList = wi from hwi)
  have heq := toList_ne_ (fun e => hba e.symm)
  have Q5 := Lib.hid (p_end_ne (b := b) (Y := Y) he4 (by rw [hs4]; exact hba))
  clear hba hx4 he4 hs4 hwi hv h0
  cases wi with
  | true =>
    simp only [if_true] at Q4
    go_enter Tryz.func4, Tryz.ntmps4
    go_wp2_with fail
    refine (f24_any _).mono ?_
    rintro e w1 ⟨rfl, k1⟩
    have K1 := Lib.hid k1; clear k1
    go_wp2_with fail
    refine (f26_any _).mono ?_
    rintro e w2 ⟨rfl, rfl⟩
    go_wp2_with fail
    refine (V.new w1).mono ?_
    rintro e w2 ⟨vb, rfl, hv⟩
    generalize w2.heap.size = top at hv
    have HVV := Lib.hid hv; clear hv
    go_wp2_with fail
    refine (V.begin (c' := 1) HVV.out a Q1.out rfl (by decide) hsa).mono ?_
    rintro e w3 ⟨rfl, hv, -⟩
    have HVV := Lib.hid hv; clear hv
    go_wp2_with fail
    refine (f31_any a hsa _).mono ?_
    rintro e w4 ⟨rfl, k4⟩
    rw [HV.out]
    have HVV := Lib.hid (HVV.out.non k4); clear k4
    go_wp2_with fail
    refine (V.begin (c' := 1) HVV.out s9 Q2.out rfl (by decide) (by decide)).mono ?_
    rintro e w5 ⟨rfl, hv, -⟩
    have HVV := Lib.hid hv; clear hv
    go_wp2_with fail
    refine (V.type (c' := 2) HVV.out sX Q3.out rfl (by decide) (by decide)).mono ?_
    rintro e w6 ⟨rfl, hv, -⟩
    have HVV := Lib.hid hv; clear hv
    go_wp2_with fail
    refine (V.read (c' := 3) HVV.out c Q4.out rfl rfl (by decide) hsc).mono ?_
    rintro e w7 ⟨rfl, hv, -⟩
    have HVV := Lib.hid hv; clear hv
    go_wp2_with fail
    refine (V.end_ (c' := 3) HVV.out b Q5.out rfl (by decide)).mono ?_
    rintro e w8 ⟨rfl, hv, -⟩
    have HVV := Lib.hid hv; clear hv
    go_wp2_with fail
    refine (f33_any c a hsc hsa _).mono ?_
    rintro e w9 ⟨rfl, k9⟩
    rw [HWI.out]
    have HVV := Lib.hid (HVV.out.non k9); clear k9
    go_wp2_with fail
    refine (V.end_ (c' := 4) HVV.out a Q6.out rfl (by decide)).mono ?_
    rintro e w10 ⟨rfl, hv, -⟩
    have HVV := Lib.hid hv; clear hv
    go_wp2_with fail
    refine (V.read (c' := 4) HVV.out a Q7.out rfl rfl (by decide) hsa).mono ?_
    rintro e w11 ⟨rfl, hv, -⟩
    have HVV := Lib.hid hv; clear hv
    go_wp2_with fail
    refine (V.begin (c' := 5) HVV.out s9 Q8.out rfl (by decide) (by decide)).mono ?_
    rintro e w12 ⟨rfl, hv, -⟩
    have HVV := Lib.hid hv; clear hv
    go_wp2_with fail
    go_ret
    exact ⟨rfl, Kpt.trans K1.out HVV.out.kpt (fun _ e _ => e)⟩
  | false =>
    simp only [if_false, Bool.false_eq_true] at Q4
    go_enter Tryz.func4, Tryz.ntmps4
    go_wp2_with fail
    refine (f24_any _).mono ?_
    rintro e w1 ⟨rfl, k1⟩
    have K1 := Lib.hid k1; clear k1
    go_wp2_with fail
    refine (f26_any _).mono ?_
    rintro e w2 ⟨rfl, rfl⟩
    go_wp2_with fail
    refine (V.new w1).mono ?_
    rintro e w2 ⟨vb, rfl, hv⟩
    generalize w2.heap.size = top at hv
    have HVV := Lib.hid hv; clear hv
    go_wp2_with fail
    refine (V.begin (c' := 1) HVV.out a Q1.out rfl (by decide) hsa).mono ?_
    rintro e w3 ⟨rfl, hv, -⟩
    have HVV := Lib.hid hv; clear hv
    go_wp2_with fail
    refine (f31_any a hsa _).mono ?_
    rintro e w4 ⟨rfl, k4⟩
    rw [HV.out]
    have HVV := Lib.hid (HVV.out.non k4); clear k4
    go_wp2_with fail
    refine (V.begin (c' := 1) HVV.out s9 Q2.out rfl (by decide) (by decide)).mono ?_
    rintro e w5 ⟨rfl, hv, -⟩
    have HVV := Lib.hid hv; clear hv
    go_wp2_with fail
    refine (V.type (c' := 2) HVV.out sX Q3.out rfl (by decide) (by decide)).mono ?_
    rintro e w6 ⟨rfl, hv, -⟩
    have HVV := Lib.hid hv; clear hv
    go_wp2_with fail
    refine (V.read (c' := 2) HVV.out c Q4.out rfl rfl (by decide) hsc).mono ?_
    rintro e w7 ⟨rfl, hv, -⟩
    have HVV := Lib.hid hv; clear hv
    go_wp2_with fail
    refine (V.end_ (c' := 2) HVV.out b Q5.out rfl (by decide)).mono ?_
    rintro e w8 ⟨rfl, hv, -⟩
    have HVV := Lib.hid hv; clear hv
    go_wp2_with fail
    refine (f33_any c a hsc hsa _).mono ?_
    rintro e w9 ⟨rfl, k9⟩
    rw [HWI.out]
    have HVV := Lib.hid (HVV.out.non k9); clear k9
    go_wp2_with fail
    refine (V.end_ (c' := 3) HVV.out a Q6.out rfl (by decide)).mono ?_
    rintro e w10 ⟨rfl, hv, -⟩
    have HVV := Lib.hid hv; clear hv
    go_wp2_with fail
    refine (V.read (c' := 3) HVV.out a Q7.out rfl rfl (by decide) hsa).mono ?_
    rintro e w11 ⟨rfl, hv, -⟩
    have HVV := Lib.hid hv; clear hv
    go_wp2_with fail
    refine (V.begin (c' := 4) HVV.out s9 Q8.out rfl (by decide) (by decide)).mono ?_
    rintro e w12 ⟨rfl, hv, -⟩
    have HVV := Lib.hid hv; clear hv
    go_wp2_with fail
    go_ret
    exact ⟨rfl, Kpt.trans K1.out HVV.out.kpt (fun _ e _ => e)⟩

theorem f4_any (a b c : ByteArray) (w : World) : Calls Tryz.prog 4 #[.string a, .string b, .string c] w fun e w' => e = .returned (.bool true) ∧ Kpt Non w w' := by
  by_cases h : 100 < a.size ∨ 100 < b.size ∨ 100 < c.size
  · exact f4_great a b c w h
  · by_cases hv : validB (bytesOf a) = true ∧ a.size ≠ 0
    · by_cases hb : b = a
      · exact f4_same a b c w (by omega) (by omega) (by omega) hv.1 hv.2 _ rfl hb
      · exact f4_diff a b c w (by omega) (by omega) (by omega) hv.1 hv.2 _ rfl hb
    · exact f4_bad a b c w (by omega) (by omega) (by omega) hv
end Go.Proofs.YtkpmabknjdgkmaaGreatDoor
