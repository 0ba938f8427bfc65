/- The walks of the reference's Same, of terminal.Equal and of slices.Equal. No condition but that the counts of lines fit. -/
import Derived.Test.YtkpmabknjdgkmaaGreatDoorTerm4
import Derived.Deep.RegionHeld3
namespace Go.Proofs.YtkpmabknjdgkmaaGreatDoor
open Go.RowKit

theorem tl_prop {a b : ByteArray} (h : ¬ a = b) : ¬ a.toList = b.toList := fun e => by
  rw [ByteArray.toList_eq, ByteArray.toList_eq] at e
  exact h (ByteArray.ext (Array.toList_inj.1 e))
theorem lists_eq {ls ls2 : List ByteArray} (hl : ls.length = ls2.length) (h : ∀ i, i < ls.length → ls[i]? = ls2[i]?) : ls = ls2 := by
  apply List.ext_getElem?
  intro i
  by_cases hi : i < ls.length
  · exact h i hi
  · rw [List.getElem?_eq_none (by omega), List.getElem?_eq_none (by omega)]

set_option maxRecDepth 100000 in
set_option maxHeartbeats 2000000 in
theorem f43_any (a b : Tm) (va vb : Value) (D E : Nat → Prop) (w : World) (ha : TmV w D a va) (hb : TmV w E b vb) (hl : a.typed.length ≤ 1048576) :
    Calls Tryz.prog 30 #[va, vb] w fun e w' => e = .returned (.bool (decide (a = b))) ∧ Kpt Non w w' := by
  obtain ⟨A, c, rfl, hc1, hc2, hr⟩ := ha
  obtain ⟨B, d, rfl, hd1, hd2, hq⟩ := hb
  obtain ⟨ep, ss, ls, sc⟩ := a
  obtain ⟨ep2, ss2, ls2, sc2⟩ := b
  simp only at hc1 hr hd1 hq hl ⊢
  have HR := Lib.hid hr; have HQ := Lib.hid hq; clear hr hq
  have kk := Kpt.alloc (Kpt.alloc (Kpt.refl Non w) (.cells #[.int .i64 ep, .string ss, .slice A ls.length c, .string sc] 44)) (.cells #[.int .i64 ep2, .string ss2, .slice B ls2.length d, .string sc2] 44)
  have HK := Lib.hid kk; clear kk
  obtain ⟨dd, hdd⟩ : ∃ dd, decide ((⟨ep, ss, ls, sc⟩ : Tm) = ⟨ep2, ss2, ls2, sc2⟩) = dd := ⟨_, rfl⟩
  rw [hdd]
  have HDd := Lib.hid hdd; clear hdd
  by_cases h1 : ep = ep2
  · have h1' : (ep != ep2) = false := by rw [bne_eq_false_iff_eq]; exact h1
    have H1 := Lib.hid h1; clear h1
    by_cases h2 : ss = ss2
    · have h2' : ss.toList = ss2.toList := by rw [h2]
      have H2 := Lib.hid h2; clear h2
      by_cases h3 : sc = sc2
      · have h3' : sc.toList = sc2.toList := by rw [h3]
        have H3 := Lib.hid h3; clear h3
        by_cases h4 : ls.length = ls2.length
        · have h4' : ((ls.length : Int) != (ls2.length : Int)) = false := by rw [bne_eq_false_iff_eq]; omega
          have H4 := Lib.hid h4; clear h4
          have hp : Blk ((w.alloc (.cells #[.int .i64 ep, .string ss, .slice A ls.length c, .string sc] 44)).alloc (.cells #[.int .i64 ep2, .string ss2, .slice B ls2.length d, .string sc2] 44)) w.heap.size 44 #[.int .i64 ep, .string ss, .slice A ls.length c, .string sc] := (Blk.new _ _ _).alloc _
          have hqq : Blk ((w.alloc (.cells #[.int .i64 ep, .string ss, .slice A ls.length c, .string sc] 44)).alloc (.cells #[.int .i64 ep2, .string ss2, .slice B ls2.length d, .string sc2] 44)) (w.heap.size + 1) 44 #[.int .i64 ep2, .string ss2, .slice B ls2.length d, .string sc2] := by
            have := Blk.new (w.alloc (.cells #[.int .i64 ep, .string ss, .slice A ls.length c, .string sc] 44)) 44 #[.int .i64 ep2, .string ss2, .slice B ls2.length d, .string sc2]
            simpa using this
          have HP := Lib.hid hp; have HQq := Lib.hid hqq; clear hp hqq
          go_enter Tryz.func30, Tryz.ntmps30
          go_wp2_with fail
          go_loopw [5] (fun x5 wr => ∃ j : Nat, x5 = .int .i64 j ∧ j ≤ ls.length ∧ Hid (∀ i, i < j → ls[i]? = ls2[i]?) ∧ Hid (Kpt Non ((w.alloc (.cells #[.int .i64 ep, .string ss, .slice A ls.length c, .string sc] 44)).alloc (.cells #[.int .i64 ep2, .string ss2, .slice B ls2.length d, .string sc2] 44)) wr)) (fun x5 _ => ls.length - (intOf x5).toNat)
          case atStart => exact ⟨0, rfl, Nat.zero_le _, Lib.hid (fun i hi => absurd hi (by omega)), Lib.hid (Kpt.refl _ _)⟩
          case round =>
            obtain ⟨j, rfl, hj, HS, HKr⟩ := hrel
            have p2 := (HP.out.kpt HKr.out (fun e => e)).cell 2
            have q2 := (HQq.out.kpt HKr.out (fun e => e)).cell 2
            simp only [List.getElem?_toArray, List.getElem?_cons_zero, List.getElem?_cons_succ] at p2 q2
            have kw : Kpt Non w wr := Kpt.trans HK.out HKr.out (fun _ e _ => e)
            have KW := Lib.hid kw; clear kw
            by_cases h5 : j < ls.length
            · have h5' : (j : Int) < (ls.length : Int) := by omega
              have h6' : (j : Int) < (ls2.length : Int) := by have := H4.out; omega
              obtain ⟨ad1, u1, rfl, _, hu1, hc1'⟩ := (HR.out.kpt KW.out (fun _ _ e => e)).at_ h5
              obtain ⟨ad2, u2, rfl, _, hu2, hc2'⟩ := (HQ.out.kpt KW.out (fun _ _ e => e)).at_ (k := j) (by have := H4.out; omega)
              rw [List.getElem?_map] at hu1 hu2
              obtain ⟨x, hx, rfl⟩ := Option.map_eq_some_iff.1 hu1
              obtain ⟨y, hy, rfl⟩ := Option.map_eq_some_iff.1 hu2
              clear hu1 hu2
              have HX := Lib.hid hx; have HY := Lib.hid hy; clear hx hy
              by_cases hxy : x = y
              · subst hxy
                go_wp2_with fail
                go_region_held3 (fun w' => w'.cell? ⟨w.heap.size, 2, none⟩ = some (.slice (some ad1) ls.length c) ∧ w'.cell? ⟨w.heap.size + 1, 2, none⟩ = some (.slice (some ad2) ls2.length d) ∧ w'.cell? (ad1.add j) = some (.string x) ∧ w'.cell? (ad2.add j) = some (.string x)) (first | exact ⟨p2, q2, hc1', hc2'⟩) (first | fail)
                go_wp2_with fail
                refine ⟨⟨j + 1, by go_num, by omega, Lib.hid (fun i hi => ?_), Lib.hid (Kpt.drew HKr.out)⟩, by simp [intOf]; omega⟩
                by_cases hij : i < j
                · exact HS.out i hij
                · obtain rfl : i = j := by omega
                  rw [HX.out, HY.out]
              · have hxy' := tl_prop hxy
                have hxy'' : (x.toList == y.toList) = false := by rw [beq_eq_false_iff_ne]; exact hxy'
                have hne : decide ((⟨ep, ss, ls, sc⟩ : Tm) = ⟨ep2, ss2, ls2, sc2⟩) = false := by
                  rw [decide_eq_false_iff_not]
                  intro e
                  injection e with _ _ e _
                  have h1 := HX.out
                  rw [e, HY.out] at h1
                  injection h1 with h1
                  exact hxy h1.symm
                have HNe := Lib.hid hne
                have HXY := Lib.hid hxy; clear hxy hne
                go_wp2_with fail
                go_region_held3 (fun w' => w'.cell? ⟨w.heap.size, 2, none⟩ = some (.slice (some ad1) ls.length c) ∧ w'.cell? ⟨w.heap.size + 1, 2, none⟩ = some (.slice (some ad2) ls2.length d) ∧ w'.cell? (ad1.add j) = some (.string x) ∧ w'.cell? (ad2.add j) = some (.string y)) (first | exact ⟨p2, q2, hc1', hc2'⟩) (first | fail)
                go_wp2_with fail
                go_ret
                exact ⟨by rw [← HDd.out, HNe.out]; rfl, Kpt.drew KW.out⟩
            · have h5' : ¬ (j : Int) < (ls.length : Int) := by omega
              have hyes : decide ((⟨ep, ss, ls, sc⟩ : Tm) = ⟨ep2, ss2, ls2, sc2⟩) = true := by
                rw [decide_eq_true_eq, H1.out, H2.out, H3.out, lists_eq H4.out (fun i hi => HS.out i (by omega))]
              have HYes := Lib.hid hyes; clear hyes
              go_wp2_with fail
              go_ret
              exact ⟨by rw [← HDd.out, HYes.out]; rfl, KW.out⟩
        · have h4' : ((ls.length : Int) != (ls2.length : Int)) = true := by rw [bne_iff_ne]; omega
          have hne : decide ((⟨ep, ss, ls, sc⟩ : Tm) = ⟨ep2, ss2, ls2, sc2⟩) = false := by
            rw [decide_eq_false_iff_not]
            intro e
            injection e with _ _ e _
            exact h4 (by rw [e])
          obtain rfl : dd = false := by rw [← HDd.out]; exact hne
          have H4 := Lib.hid h4; clear h4 hne
          go_enter Tryz.func30, Tryz.ntmps30
          go_wp2_with fail
          go_ret
          exact ⟨rfl, HK.out⟩
      · have h3' := tl_prop h3
        have hne : decide ((⟨ep, ss, ls, sc⟩ : Tm) = ⟨ep2, ss2, ls2, sc2⟩) = false := by
          rw [decide_eq_false_iff_not]
          intro e
          injection e with _ _ _ e
          exact h3 e
        obtain rfl : dd = false := by rw [← HDd.out]; exact hne
        have H3 := Lib.hid h3; clear h3 hne
        go_enter Tryz.func30, Tryz.ntmps30
        go_wp2_with fail
        go_ret
        exact ⟨rfl, HK.out⟩
    · have h2' := tl_prop h2
      have hne : decide ((⟨ep, ss, ls, sc⟩ : Tm) = ⟨ep2, ss2, ls2, sc2⟩) = false := by
        rw [decide_eq_false_iff_not]
        intro e
        injection e with _ e _ _
        exact h2 e
      obtain rfl : dd = false := by rw [← HDd.out]; exact hne
      have H2 := Lib.hid h2; clear h2 hne
      go_enter Tryz.func30, Tryz.ntmps30
      go_wp2_with fail
      go_ret
      exact ⟨rfl, HK.out⟩
  · have h1' : (ep != ep2) = true := by rw [bne_iff_ne]; exact h1
    have hne : decide ((⟨ep, ss, ls, sc⟩ : Tm) = ⟨ep2, ss2, ls2, sc2⟩) = false := by
      rw [decide_eq_false_iff_not]
      intro e
      injection e with e _ _ _
      exact h1 e
    obtain rfl : dd = false := by rw [← HDd.out]; exact hne
    have H1 := Lib.hid h1; clear h1 hne
    go_enter Tryz.func30, Tryz.ntmps30
    go_wp2_with fail
    go_ret
    exact ⟨rfl, HK.out⟩

set_option maxRecDepth 100000 in
set_option maxHeartbeats 2000000 in
/-- slices.Equal, at strings. -/
theorem f116_any (A B : Option Addr) (c d : Nat) (ls ls2 : List ByteArray) (D E : Nat → Prop) (w : World) (hr : Rd w D 1 A ls.length (ls.map Value.string)) (hq : Rd w E 1 B ls2.length (ls2.map Value.string)) (hl : ls.length ≤ 1048576) :
    Calls Tryz.prog 67 #[.slice A ls.length c, .slice B ls2.length d] w fun e w' => e = .returned (.bool (decide (ls = ls2))) ∧ Kpt Non w w' := by
  have HR := Lib.hid hr; have HQ := Lib.hid hq; clear hr hq
  obtain ⟨dd, hdd⟩ : ∃ dd, decide (ls = ls2) = dd := ⟨_, rfl⟩
  rw [hdd]
  have HDd := Lib.hid hdd; clear hdd
  by_cases h4 : ls.length = ls2.length
  · have h4' : ((ls.length : Int) != (ls2.length : Int)) = false := by rw [bne_eq_false_iff_eq]; omega
    have H4 := Lib.hid h4; clear h4
    go_enter Tryz.func67, Tryz.ntmps67
    go_wp2_with fail
    go_loopw [13] (fun x5 wr => ∃ j : Nat, x5 = .int .i64 j ∧ j ≤ ls.length ∧ Hid (∀ i, i < j → ls[i]? = ls2[i]?) ∧ Hid (Kpt Non w wr)) (fun x5 _ => ls.length - (intOf x5).toNat)
    case atStart => exact ⟨0, rfl, Nat.zero_le _, Lib.hid (fun i hi => absurd hi (by omega)), Lib.hid (Kpt.refl _ _)⟩
    case round =>
      obtain ⟨j, rfl, hj, HS, KW⟩ := hrel
      by_cases h5 : j < ls.length
      · have h5' : (j : Int) < (ls.length : Int) := by omega
        have h6' : (j : Int) < (ls2.length : Int) := by have := H4.out; omega
        obtain ⟨ad1, u1, rfl, _, hu1, hc1'⟩ := (HR.out.kpt KW.out (fun _ _ e => e)).at_ h5
        obtain ⟨ad2, u2, rfl, _, hu2, hc2'⟩ := (HQ.out.kpt KW.out (fun _ _ e => e)).at_ (k := j) (by have := H4.out; omega)
        rw [List.getElem?_map] at hu1 hu2
        obtain ⟨x, hx, rfl⟩ := Option.map_eq_some_iff.1 hu1
        obtain ⟨y, hy, rfl⟩ := Option.map_eq_some_iff.1 hu2
        clear hu1 hu2
        have HX := Lib.hid hx; have HY := Lib.hid hy; clear hx hy
        by_cases hxy : x = y
        · subst hxy
          go_wp2_with fail
          go_region_held3 (fun w' => w'.cell? (ad1.add j) = some (.string x) ∧ w'.cell? (ad2.add j) = some (.string x)) (first | exact ⟨hc1', hc2'⟩) (first | fail)
          go_wp2_with fail
          refine ⟨⟨j + 1, by go_num, by omega, Lib.hid (fun i hi => ?_), Lib.hid (Kpt.drew KW.out)⟩, by simp [intOf]; omega⟩
          by_cases hij : i < j
          · exact HS.out i hij
          · obtain rfl : i = j := by omega
            rw [HX.out, HY.out]
        · have hxy' := tl_prop hxy
          have hxy'' : (x.toList == y.toList) = false := by rw [beq_eq_false_iff_ne]; exact hxy'
          have hne : decide (ls = ls2) = false := by
            rw [decide_eq_false_iff_not]
            intro e
            have h1 := HX.out
            rw [e, HY.out] at h1
            injection h1 with h1
            exact hxy h1.symm
          have HNe := Lib.hid hne
          have HXY := Lib.hid hxy; clear hxy hne
          go_wp2_with fail
          go_region_held3 (fun w' => w'.cell? (ad1.add j) = some (.string x) ∧ w'.cell? (ad2.add j) = some (.string y)) (first | exact ⟨hc1', hc2'⟩) (first | fail)
          go_wp2_with fail
          go_ret
          exact ⟨by rw [← HDd.out, HNe.out]; rfl, Kpt.drew KW.out⟩
      · have h5' : ¬ (j : Int) < (ls.length : Int) := by omega
        have hyes : decide (ls = ls2) = true := by
          rw [decide_eq_true_eq]
          exact lists_eq H4.out (fun i hi => HS.out i (by omega))
        have HYes := Lib.hid hyes; clear hyes
        go_wp2_with fail
        go_ret
        exact ⟨by rw [← HDd.out, HYes.out]; rfl, KW.out⟩
  · have h4' : ((ls.length : Int) != (ls2.length : Int)) = true := by rw [bne_iff_ne]; omega
    have hne : decide (ls = ls2) = false := by
      rw [decide_eq_false_iff_not]
      intro e
      exact h4 (by rw [e])
    obtain rfl : dd = false := by rw [← HDd.out]; exact hne
    have H4 := Lib.hid h4; clear h4 hne
    go_enter Tryz.func67, Tryz.ntmps67
    go_wp2_with fail
    go_ret
    exact ⟨rfl, Kpt.refl _ _⟩

set_option maxRecDepth 100000 in
set_option maxHeartbeats 2000000 in
/-- terminal.Equal. -/
theorem f45_any (a b : Tm) (va vb : Value) (D E : Nat → Prop) (w : World) (ha : TmV w D a va) (hb : TmV w E b vb) (hl : a.typed.length ≤ 1048576) :
    Calls Tryz.prog 32 #[va, vb] w fun e w' => e = .returned (.bool (decide (a = b))) ∧ Kpt Non w w' := by
  obtain ⟨A, c, rfl, hc1, hc2, hr⟩ := ha
  obtain ⟨B, d, rfl, hd1, hd2, hq⟩ := hb
  obtain ⟨ep, ss, ls, sc⟩ := a
  obtain ⟨ep2, ss2, ls2, sc2⟩ := b
  simp only at hc1 hr hd1 hq hl ⊢
  have kk := Kpt.alloc (Kpt.alloc (Kpt.refl Non w) (.cells #[.int .i64 ep, .string ss, .slice A ls.length c, .string sc] 36)) (.cells #[.int .i64 ep2, .string ss2, .slice B ls2.length d, .string sc2] 36)
  have e116 := f116_any A B c d ls ls2 D E _ (hr.kpt kk (fun _ _ e => e)) (hq.kpt kk (fun _ _ e => e)) hl
  have H116 := Lib.hid e116; have HK := Lib.hid kk; clear kk e116 hr hq
  obtain ⟨dd, hdd⟩ : ∃ dd, decide ((⟨ep, ss, ls, sc⟩ : Tm) = ⟨ep2, ss2, ls2, sc2⟩) = dd := ⟨_, rfl⟩
  rw [hdd]
  have HDd := Lib.hid hdd; clear hdd
  by_cases h1 : ep = ep2
  · have h1' : (ep == ep2) = true := by rw [beq_iff_eq]; exact h1
    have H1 := Lib.hid h1; clear h1
    by_cases h2 : ss = ss2
    · have h2' : (ss.toList == ss2.toList) = true := by rw [h2]; simp
      have h2'' : ss.toList = ss2.toList := by rw [h2]
      have H2 := Lib.hid h2; clear h2
      by_cases h3 : sc = sc2
      · have h3' : (sc.toList == sc2.toList) = true := by rw [h3]; simp
        have h3'' : sc.toList = sc2.toList := by rw [h3]
        have H3 := Lib.hid h3; clear h3
        have hd : decide ((⟨ep, ss, ls, sc⟩ : Tm) = ⟨ep2, ss2, ls2, sc2⟩) = decide (ls = ls2) := by
          rw [H1.out, H2.out, H3.out]
          simp
        obtain rfl : dd = decide (ls = ls2) := by rw [← HDd.out]; exact hd
        clear hd HDd
        generalize decide (ls = ls2) = dd at H116 ⊢
        cases dd
        all_goals
          go_enter Tryz.func32, Tryz.ntmps32
          go_wp2_with fail
          refine H116.out.mono ?_
          rintro e w1 ⟨rfl, k1⟩
          have K1 := Lib.hid k1; clear k1
          go_wp2_with fail
          go_ret
          exact ⟨rfl, Kpt.trans HK.out K1.out (fun _ e _ => e)⟩
      · have h3' := tl_prop h3
        have h3'' : (sc.toList == sc2.toList) = false := by rw [beq_eq_false_iff_ne]; exact h3'
        have hne : decide ((⟨ep, ss, ls, sc⟩ : Tm) = ⟨ep2, ss2, ls2, sc2⟩) = false := by
          rw [decide_eq_false_iff_not]
          intro e
          injection e with _ _ _ e
          exact h3 e
        obtain rfl : dd = false := by rw [← HDd.out]; exact hne
        have H3 := Lib.hid h3; clear h3 hne
        go_enter Tryz.func32, Tryz.ntmps32
        go_wp2_with fail
        go_ret
        exact ⟨rfl, HK.out⟩
    · have h2' := tl_prop h2
      have h2'' : (ss.toList == ss2.toList) = false := by rw [beq_eq_false_iff_ne]; exact h2'
      have hne : decide ((⟨ep, ss, ls, sc⟩ : Tm) = ⟨ep2, ss2, ls2, sc2⟩) = false := by
        rw [decide_eq_false_iff_not]
        intro e
        injection e with _ e _ _
        exact h2 e
      obtain rfl : dd = false := by rw [← HDd.out]; exact hne
      have H2 := Lib.hid h2; clear h2 hne
      go_enter Tryz.func32, Tryz.ntmps32
      go_wp2_with fail
      go_ret
      exact ⟨rfl, HK.out⟩
  · have h1' : (ep == ep2) = false := by rw [beq_eq_false_iff_ne]; exact h1
    have hne : decide ((⟨ep, ss, ls, sc⟩ : Tm) = ⟨ep2, ss2, ls2, sc2⟩) = false := by
      rw [decide_eq_false_iff_not]
      intro e
      injection e with e _ _ _
      exact h1 e
    obtain rfl : dd = false := by rw [← HDd.out]; exact hne
    have H1 := Lib.hid h1; clear h1 hne
    go_enter Tryz.func32, Tryz.ntmps32
    go_wp2_with fail
    go_ret
    exact ⟨rfl, HK.out⟩
end Go.Proofs.YtkpmabknjdgkmaaGreatDoor
