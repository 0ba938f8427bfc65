/- The walks of the terminal's methods. -/
import Derived.Test.YtkpmabknjdgkmaaGreatDoorTerm4
namespace Go.Proofs.YtkpmabknjdgkmaaGreatDoor
open Go.RowKit

/-- The terminal t in the variable at block tb; its lines lie in D. -/
def TmB (w : World) (tb : Nat) (D : Nat → Prop) (t : Tm) : Prop :=
  ∃ A c, Blk w tb 36 #[.int .i64 t.epoch, .string t.session, .slice A t.typed.length c, .string t.screen] ∧ t.typed.length ≤ c ∧ c ≤ maxLen ∧ Rd w D 1 A t.typed.length (t.typed.map Value.string) ∧ ¬ D tb

theorem Rd.lt {w : World} {D : Nat → Prop} {n : Nat} {A : Option Addr} {xs : List Value} (h : Rd w D 1 A n xs) : Rd w (fun i => D i ∧ i < w.heap.size) 1 A n xs := by
  refine ⟨h.1, fun hn => ?_⟩
  obtain ⟨ad, e, hd, hc⟩ := h.2 hn
  refine ⟨ad, e, ⟨hd, ?_⟩, hc⟩
  have hl : 0 < xs.length := by have := h.1; omega
  have := hc 0 xs[0] (List.getElem?_eq_getElem hl)
  have := World.block_lt_of_cell? w _ this
  rwa [block_add] at this

/-- What the screen shows. -/
def scr (l : List UInt8) : List UInt8 := l.drop (l.length - 2048)

theorem scr_eq (a b : ByteArray) : strB (scr (bytesOf a ++ bytesOf b)) = (a ++ b).extract ((a ++ b).size - 2048) (a ++ b).size := by
  have hd : (a ++ b).data.toList = bytesOf a ++ bytesOf b := by simp [bytesOf]
  have hs : (bytesOf a ++ bytesOf b).length = (a ++ b).size := by rw [List.length_append, len_bytesOf, len_bytesOf]; simp
  apply ByteArray.ext
  rw [ByteArray.data_extract]
  apply Array.toList_inj.1
  rw [Array.toList_extract, hd, scr, strB, hs]
  simp only [List.extract_eq_take_drop]
  rw [List.take_of_length_le]
  rw [List.length_drop, hs]
  omega

set_option maxRecDepth 100000 in
set_option maxHeartbeats 1000000 in
theorem f164_any (tb : Nat) (D : Nat → Prop) (t : Tm) (s : ByteArray) (w : World) (h : TmB w tb D t) (h1 : t.screen.size ≤ 1099511627776) (h2 : s.size ≤ 1099511627776) :
    Calls Tryz.prog 80 #[.pointer (some ⟨tb, 0, none⟩), .string s] w fun e w' => e = .returned (.tuple #[]) ∧ TmB w' tb D { t with screen := strB (scr (bytesOf t.screen ++ bytesOf s)) } ∧ Kpt (One tb) w w' := by
  obtain ⟨A, c, hb, hc1, hc2, hr, hd⟩ := h
  obtain ⟨ep, ss, ls, sc⟩ := t
  simp only at hb hc1 hr h1 ⊢
  have b3 := hb.cell 3
  have f3 := hb.frozen 3
  simp only [List.getElem?_toArray, List.getElem?_cons_zero, List.getElem?_cons_succ] at b3
  have HB := Lib.hid hb; have HR := Lib.hid hr; clear hb hr
  have hsz : (sc ++ s).size = sc.size + s.size := by simp
  generalize hcat : sc ++ s = cat at hsz
  have HCat := Lib.hid hcat
  by_cases hl : 2048 < cat.size
  · have hl1 : (0 : Int) < (cat.size : Int) - 2048 := by omega
    have hl2 : (cat.size : Int) ≤ 2199023255552 := by omega
    go_enter Tryz.func80, Tryz.ntmps80
    go_wp2_with fail
    go_region
    refine bodyPost_end (v := .tuple #[]) (by simp [results, Tryz.results80, go_sem]) rfl ⟨rfl, ?_, ?_⟩
    · rw [← hsz, scr_eq, HCat.out]
      exact ⟨A, c, (HB.out.set_ 3 _).set_ 3 _, hc1, hc2, (HR.out.set_ hd _).set_ hd _, hd⟩
    · exact Kpt.drew (Kpt.setOne (Kpt.setOne (Kpt.refl _ _) _ _) _ _)
  · have hl1 : ¬ (0 : Int) < (cat.size : Int) - 2048 := by omega
    have hl2 : (cat.size : Int) ≤ 2199023255552 := by omega
    go_enter Tryz.func80, Tryz.ntmps80
    go_wp2_with fail
    go_region
    refine bodyPost_end (v := .tuple #[]) (by simp [results, Tryz.results80, go_sem]) rfl ⟨rfl, ?_, ?_⟩
    · rw [← hsz, scr_eq, HCat.out, show cat.size - 2048 = 0 by omega]
      exact ⟨A, c, (HB.out.set_ 3 _).set_ 3 _, hc1, hc2, (HR.out.set_ hd _).set_ hd _, hd⟩
    · exact Kpt.drew (Kpt.setOne (Kpt.setOne (Kpt.refl _ _) _ _) _ _)

/-- A request at block q. -/
abbrev Rq (w : World) (q : Nat) (who text line : ByteArray) : Prop := Blk w q 98 #[.string who, .string text, .string line]

theorem TmB.non {w w' : World} {tb : Nat} {D : Nat → Prop} {t : Tm} (h : TmB w tb D t) (k : Kpt Non w w') : TmB w' tb D t := by
  obtain ⟨A, c, hb, hc1, hc2, hr, hd⟩ := h
  exact ⟨A, c, hb.kpt k (fun e => e), hc1, hc2, hr.kpt k (fun _ _ e => e), hd⟩

/-- What begin does to a terminal. -/
def beginT (who : ByteArray) (t : Tm) : Tm × Int :=
  if validB (bytesOf who) = true ∧ who.size ≠ 0 then (if t.session.size ≠ 0 then (t, 19) else (⟨t.epoch, who, [], es⟩, 0)) else (t, 12)

set_option maxRecDepth 100000 in
set_option maxHeartbeats 1000000 in
theorem f94_any (q tb : Nat) (who text line : ByteArray) (D : Nat → Prop) (t : Tm) (w : World) (hq : Rq w q who text line) (h : TmB w tb D t) (hw : who.size ≤ 140737488351232) :
    Calls Tryz.prog 45 #[.pointer (some ⟨q, 0, none⟩), .pointer (some ⟨tb, 0, none⟩)] w fun e w' => e = .returned (.int .i64 (beginT who t).2) ∧ TmB w' tb D (beginT who t).1 ∧ Kpt (One tb) w w' := by
  have HT := Lib.hid h
  have hA : beginT who t = beginT who t := rfl
  conv at hA => rhs; unfold beginT
  generalize beginT who t = X at hA ⊢
  obtain ⟨A, c, hb, hc1, hc2, hr, hd⟩ := h
  obtain ⟨ep, ss, ls, sc⟩ := t
  simp only at hb hc1 hr hA ⊢
  have q0 := hq.cell 0
  have b1 := hb.cell 1
  simp only [List.getElem?_toArray, List.getElem?_cons_zero, List.getElem?_cons_succ] at q0 b1
  have E31 := f31_any who hw
  have HB := Lib.hid hb; have HQ := Lib.hid hq; clear hb hq hr
  by_cases hv : validB (bytesOf who) = true
  · rw [show validB who.data.toList = true from hv] at E31
    have H31 := Lib.hid E31; clear E31
    by_cases h0 : who.size = 0
    · rw [if_neg (by simp [h0])] at hA
      subst hA
      have h0' := isEmpty_true h0
      have H0 := Lib.hid h0; clear h0 hv
      go_enter Tryz.func45, Tryz.ntmps45
      go_wp2_with fail
      refine (H31.out _).mono ?_
      rintro e w1 ⟨rfl, k1⟩
      have q01 := k1.cellv q0 (fun e => e)
      have K1 := Lib.hid k1; clear k1
      go_wp2_with fail
      go_ret
      exact ⟨rfl, HT.out.non K1.out, K1.out.up⟩
    · rw [if_pos (by exact ⟨hv, h0⟩)] at hA
      have h0' := isEmpty_false h0
      have H0 := Lib.hid h0; clear h0 hv
      by_cases hs : ss.size = 0
      · rw [if_neg (by simp [hs])] at hA
        subst hA
        have hs' := isEmpty_true hs
        have HS := Lib.hid hs; clear hs
        go_enter Tryz.func45, Tryz.ntmps45
        go_wp2_with fail
        refine (H31.out _).mono ?_
        rintro e w1 ⟨rfl, k1⟩
        have q01 := k1.cellv q0 (fun e => e)
        have hb1 := HB.out.kpt k1 (fun e => e)
        have b11 := hb1.cell 1
        have b12 := hb1.cell 2
        have b13 := hb1.cell 3
        have f11 := hb1.frozen 1
        have f12 := hb1.frozen 2
        have f13 := hb1.frozen 3
        simp only [List.getElem?_toArray, List.getElem?_cons_zero, List.getElem?_cons_succ] at b11 b12 b13
        have HB1 := Lib.hid hb1; have K1 := Lib.hid k1; clear hb1 k1
        go_wp2_with fail
        go_ret
        refine ⟨rfl, ⟨none, 0, ((HB1.out.set_ 1 _).set_ 2 _).set_ 3 _, Nat.le_refl _, by simp [maxLen], Rd.nil _ _ _ _, hd⟩, Kpt.setOne (Kpt.setOne (Kpt.setOne K1.out.up _ _) _ _) _ _⟩
      · rw [if_pos hs] at hA
        subst hA
        have hs' := isEmpty_false hs
        have HS := Lib.hid hs; clear hs
        go_enter Tryz.func45, Tryz.ntmps45
        go_wp2_with fail
        refine (H31.out _).mono ?_
        rintro e w1 ⟨rfl, k1⟩
        have q01 := k1.cellv q0 (fun e => e)
        have b11 := k1.cellv b1 (fun e => e)
        have K1 := Lib.hid k1; clear k1
        go_wp2_with fail
        go_ret
        exact ⟨rfl, HT.out.non K1.out, K1.out.up⟩
  · rw [if_neg (by simp [hv])] at hA
    subst hA
    rw [show validB who.data.toList = false by simpa [bytesOf] using hv] at E31
    have H31 := Lib.hid E31; clear E31 hv
    go_enter Tryz.func45, Tryz.ntmps45
    go_wp2_with fail
    refine (H31.out _).mono ?_
    rintro e w1 ⟨rfl, k1⟩
    have K1 := Lib.hid k1; clear k1
    go_wp2_with fail
    go_ret
    exact ⟨rfl, HT.out.non K1.out, K1.out.up⟩

/-- What end does to a terminal. -/
def endT (who : ByteArray) (t : Tm) : Tm × Int :=
  if who.size ≠ 0 ∧ who = t.session then (⟨t.epoch, es, [], t.screen⟩, 0) else (t, 10)

set_option maxRecDepth 100000 in
set_option maxHeartbeats 1000000 in
theorem f99_any (q tb : Nat) (who text line : ByteArray) (D : Nat → Prop) (t : Tm) (w : World) (hq : Rq w q who text line) (h : TmB w tb D t) :
    Calls Tryz.prog 50 #[.pointer (some ⟨q, 0, none⟩), .pointer (some ⟨tb, 0, none⟩)] w fun e w' => e = .returned (.int .i64 (endT who t).2) ∧ TmB w' tb D (endT who t).1 ∧ Kpt (One tb) w w' := by
  have HT := Lib.hid h
  have hA : endT who t = endT who t := rfl
  conv at hA => rhs; unfold endT
  generalize endT who t = X at hA ⊢
  obtain ⟨A, c, hb, hc1, hc2, hr, hd⟩ := h
  obtain ⟨ep, ss, ls, sc⟩ := t
  simp only at hb hc1 hr hA ⊢
  have q0 := hq.cell 0
  have b1 := hb.cell 1
  have b2 := hb.cell 2
  have f1 := hb.frozen 1
  have f2 := hb.frozen 2
  simp only [List.getElem?_toArray, List.getElem?_cons_zero, List.getElem?_cons_succ] at q0 b1 b2
  have HB := Lib.hid hb; have HQ := Lib.hid hq; clear hb hq hr
  by_cases h0 : who.size = 0
  · rw [if_neg (by simp [h0])] at hA
    subst hA
    have h0' := isEmpty_true h0
    have H0 := Lib.hid h0; clear h0
    go_enter Tryz.func50, Tryz.ntmps50
    go_wp2_with fail
    go_quiet (fail)
    go_wp2_with fail
    go_ret
    exact ⟨rfl, HT.out.non (Kpt.drewN (Kpt.refl _ _) _), Kpt.drewN (Kpt.refl _ _) _⟩
  · have h0' := isEmpty_false h0
    by_cases hs : who = ss
    · have hs' : (who.toList == ss.toList) = true := by rw [hs]; simp
      rw [if_pos (by exact ⟨h0, hs⟩)] at hA
      subst hA
      have HS := Lib.hid hs; clear hs
      have H0 := Lib.hid h0; clear h0
      go_enter Tryz.func50, Tryz.ntmps50
      go_wp2_with fail
      go_quiet (fail)
      go_wp2_with fail
      go_ret
      exact ⟨rfl, ⟨none, 0, ((HB.out.drewN _).set_ 1 _).set_ 2 _, Nat.le_refl _, by simp [maxLen], Rd.nil _ _ _ _, hd⟩, Kpt.setOne (Kpt.setOne (Kpt.drewN (Kpt.refl _ _) _) _ _) _ _⟩
    · have hs' : (who.toList == ss.toList) = false := by
        rw [beq_eq_false_iff_ne]
        intro e
        rw [ByteArray.toList_eq, ByteArray.toList_eq] at e
        exact hs (ByteArray.ext (Array.toList_inj.1 e))
      rw [if_neg (by simp [hs])] at hA
      subst hA
      have HS := Lib.hid hs; clear hs
      have H0 := Lib.hid h0; clear h0
      go_enter Tryz.func50, Tryz.ntmps50
      go_wp2_with fail
      go_quiet (fail)
      go_wp2_with fail
      go_ret
      exact ⟨rfl, HT.out.non (Kpt.drewN (Kpt.refl _ _) _), Kpt.drewN (Kpt.refl _ _) _⟩

/-- What shown does to a terminal. -/
def shownT (text : ByteArray) (t : Tm) : Tm := { t with screen := strB (scr (bytesOf t.screen ++ bytesOf text)) }

set_option maxRecDepth 100000 in
set_option maxHeartbeats 1000000 in
theorem f117_any (q tb : Nat) (who text line : ByteArray) (D : Nat → Prop) (t : Tm) (w : World) (hq : Rq w q who text line) (h : TmB w tb D t) (h1 : t.screen.size ≤ 1099511627776) (h2 : text.size ≤ 1099511627776) :
    Calls Tryz.prog 68 #[.pointer (some ⟨q, 0, none⟩), .pointer (some ⟨tb, 0, none⟩)] w fun e w' => e = .returned (.int .i64 0) ∧ TmB w' tb D (shownT text t) ∧ Kpt (One tb) w w' := by
  have E := f164_any tb D t text w h h1 h2
  have q1 := hq.cell 1
  simp only [List.getElem?_toArray, List.getElem?_cons_zero, List.getElem?_cons_succ] at q1
  have HE := Lib.hid E; have HT := Lib.hid h; clear E h hq
  go_enter Tryz.func68, Tryz.ntmps68
  go_wp2_with fail
  refine HE.out.mono ?_
  rintro e w1 ⟨rfl, hb1, k1⟩
  have HB1 := Lib.hid hb1; have K1 := Lib.hid k1; clear hb1 k1
  go_wp2_with fail
  go_ret
  exact ⟨rfl, HB1.out, K1.out⟩
end Go.Proofs.YtkpmabknjdgkmaaGreatDoor
