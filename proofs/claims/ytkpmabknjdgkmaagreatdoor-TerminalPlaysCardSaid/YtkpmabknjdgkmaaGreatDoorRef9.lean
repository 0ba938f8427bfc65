/- The walks of the laws' Of and To: a terminal copied. No condition but on the count of lines. The walks of the reference's Same, of terminal.Equal and of slices.Equal. No condition but that the counts of lines fit. -/
import Derived.Test.YtkpmabknjdgkmaaGreatDoorTerm4
import Derived.Deep.RegionLaw
import Derived.Deep.RegionHeld3
namespace Go.Proofs.YtkpmabknjdgkmaaGreatDoor
open Go.RowKit

set_option maxRecDepth 100000 in
set_option maxHeartbeats 2000000 in
theorem f44_any (t : Tm) (v : Value) (D : Nat → Prop) (w : World) (hv : TmV w D t v) (hl : t.typed.length ≤ 1048576) :
    Calls Tryz.prog 31 #[v] w fun e w' => ∃ v', e = .returned v' ∧ TmV w' (fun i => w.heap.size ≤ i) t v' ∧ Kpt Non w w' := by
  obtain ⟨i0, hi, hz, hz0, hz1⟩ := info_parts info9
  have HI := Lib.hid hi; have HZI := Lib.hid hz; have HZ0 := Lib.hid hz0; have HZ1 := Lib.hid hz1; clear hi hz hz0 hz1
  obtain ⟨A, c, rfl, hc1, hc2, hr⟩ := hv
  have HR := Lib.hid hr; clear hr
  obtain ⟨ep, ss, ls, sc⟩ := t
  simp only at hc1 HR hl ⊢
  have hp0 := ((Blk.new w 36 #[.int .i64 ep, .string ss, .slice A ls.length c, .string sc]).alloc (.cells #[.int .i64 0, .string ⟨#[]⟩, .slice none 0 0, .string ⟨#[]⟩] 44)).alloc (.cells #[.int .i64 ep, .string ss, .slice none 0 0, .string sc] 44)
  have hR0 : Blk (((w.alloc (.cells #[.int .i64 ep, .string ss, .slice A ls.length c, .string sc] 36)).alloc (.cells #[.int .i64 0, .string ⟨#[]⟩, .slice none 0 0, .string ⟨#[]⟩] 44)).alloc (.cells #[.int .i64 ep, .string ss, .slice none 0 0, .string sc] 44)) (w.heap.size + 1) 44 #[.int .i64 0, .string ⟨#[]⟩, .slice none 0 0, .string ⟨#[]⟩] := by
    have := (Blk.new (w.alloc (.cells #[.int .i64 ep, .string ss, .slice A ls.length c, .string sc] 36)) 44 #[.int .i64 0, .string ⟨#[]⟩, .slice none 0 0, .string ⟨#[]⟩]).alloc (.cells #[.int .i64 ep, .string ss, .slice none 0 0, .string sc] 44)
    simpa using this
  have hO0 : Blk (((w.alloc (.cells #[.int .i64 ep, .string ss, .slice A ls.length c, .string sc] 36)).alloc (.cells #[.int .i64 0, .string ⟨#[]⟩, .slice none 0 0, .string ⟨#[]⟩] 44)).alloc (.cells #[.int .i64 ep, .string ss, .slice none 0 0, .string sc] 44)) (w.heap.size + 1 + 1) 44 #[.int .i64 ep, .string ss, .slice none 0 0, .string sc] := by
    have := Blk.new ((w.alloc (.cells #[.int .i64 ep, .string ss, .slice A ls.length c, .string sc] 36)).alloc (.cells #[.int .i64 0, .string ⟨#[]⟩, .slice none 0 0, .string ⟨#[]⟩] 44)) 44 #[.int .i64 ep, .string ss, .slice none 0 0, .string sc]
    simpa using this
  have HP0 := Lib.hid hp0; have HR0 := Lib.hid hR0; have HO0 := Lib.hid hO0; clear hp0 hR0 hO0
  go_enter Tryz.func31, Tryz.ntmps31
  go_wp2_with fail
  go_loopw [4] (fun x4 wr => ∃ (k : Nat) (tv : Value), x4 = .int .i64 k ∧ k ≤ ls.length ∧ Hid (Blk wr (w.heap.size + 1 + 1) 44 #[.int .i64 ep, .string ss, tv, .string sc]) ∧ Hid (wr.ownsRow w.heap.size 9 1 tv k ((ls.take k).map Value.string)) ∧ Hid (Blk wr (w.heap.size + 1) 44 #[.int .i64 0, .string ⟨#[]⟩, .slice none 0 0, .string ⟨#[]⟩]) ∧ Hid (Blk wr w.heap.size 36 #[.int .i64 ep, .string ss, .slice A ls.length c, .string sc]) ∧ Hid (Kpt Non w wr)) (fun x4 _ => ls.length - (intOf x4).toNat)
  case atStart => exact ⟨0, .slice none 0 0, rfl, Nat.zero_le _, HO0, Lib.hid (World.ownsRow_nil _ _ _ _), HR0, HP0, Lib.hid (Kpt.alloc (Kpt.alloc (Kpt.alloc (Kpt.refl _ _) _) _) _)⟩
  case round =>
    obtain ⟨k, tv, rfl, hk, HO, HT, HRr, HP, HK⟩ := hrel
    have hp2 := HP.out.cell 2
    simp only [List.getElem?_toArray, List.getElem?_cons_zero, List.getElem?_cons_succ] at hp2
    by_cases h1 : k < ls.length
    · have h1' : (k : Int) < (ls.length : Int) := by omega
      obtain ⟨ad, u, rfl, _, hu, hcell⟩ := (HR.out.kpt HK.out (fun _ _ e => e)).at_ h1
      rw [List.getElem?_map] at hu
      obtain ⟨x, hx, rfl⟩ := Option.map_eq_some_iff.1 hu
      clear hu
      have htk : ls.take (k + 1) = ls.take k ++ [x] := by rw [List.take_add_one, hx]; rfl
      have hlk : k ≤ 1048576 := by omega
      have HTk := Lib.hid htk; clear htk hx
      have hp2d : wr.drew.cell? ⟨w.heap.size, 2, none⟩ = some (.slice (some ad) ls.length c) := hp2
      have hcd : wr.drew.cell? (ad.add k) = some (.string x) := hcell
      have ho2 := HO.out.cell 2
      simp only [List.getElem?_toArray, List.getElem?_cons_zero, List.getElem?_cons_succ] at ho2
      have ho2d : wr.drew.cell? ⟨w.heap.size + 1 + 1, 2, none⟩ = some tv := ho2
      have ho2b : ∀ o, (wr.alloc o).cell? ⟨w.heap.size + 1 + 1, 2, none⟩ = some tv := fun o => cell_alloc_ ho2 o
      have ho2a : ∀ o, (wr.drew.alloc o).cell? ⟨w.heap.size + 1 + 1, 2, none⟩ = some tv := fun o => cell_alloc_ ho2d o
      have hto : ∀ g, tv.ownBlock = some g → g ≠ w.heap.size + 1 + 1 := fun g hg e => Blk.own_ne HO.out HT.out (by decide) (by rw [hg]; exact congrArg some e)
      have htr : ∀ g, tv.ownBlock = some g → g ≠ w.heap.size + 1 := fun g hg e => Blk.own_ne HRr.out HT.out (by decide) (by rw [hg]; exact congrArg some e)
      have htp : ∀ g, tv.ownBlock = some g → g ≠ w.heap.size := fun g hg e => Blk.own_ne HP.out HT.out (by decide) (by rw [hg]; exact congrArg some e)
      have HTo := Lib.hid hto; have HTr := Lib.hid htr; have HTp := Lib.hid htp; clear hto htr htp
      have hsw := HK.out.size
      go_wp2_with fail
      go_upto_region 5 with fail
      go_region_law
        (first
          | (refine step_append_lies _ (by rfl) _ _ _ (by rfl) w.heap.size 9 i0 _ 1 16 Tryz.underlying22 HI.out HZI.out HZ0.out HZ1.out (by rfl) (by omega) tv _ _ (by rfl) ((own_kpt HT.out (Kpt.drew (Kpt.refl Non _)) (fun _ _ e => e)).alloc _) ⟨wr.heap.size, 0, none⟩ 1 1 [.string x] (by rfl) (by rfl) (cell_one_new _ _ _) (by simp [Value.oneCell']) (by omega) (by simp only [maxLen]; omega) (by omega) (by simp; omega) _ rfl ?_; intro g cap w7 hown hgrow hat hlt; have hb7 := ((HO.out.drew.alloc _).grown hgrow (fun e => HTo.out _ e.symm rfl)); have c7 := hb7.cell 2; have f7 := hb7.frozen 2; simp only [List.getElem?_toArray, List.getElem?_cons_zero, List.getElem?_cons_succ] at c7; have HB7 := Lib.hid hb7; have HO7 := Lib.hid hown; have HG7 := Lib.hid hgrow; clear hb7 hown hgrow hat)
          | fail)
      all_goals go_wp2_with fail
      all_goals (
        have kk : Kpt Non w wr.drew := Kpt.drew HK.out
        have k7 : Kpt Non w (w7.setCell ⟨w.heap.size + 1 + 1, 2, none⟩ (.slice (some ⟨g, 0, none⟩) (k + 1) cap)) := Kpt.setCell (Kpt.trans (Kpt.alloc kk _) (Kpt.grown (Kpt.refl (fun i => tv.ownBlock = some i) _) HG7.out (fun _ e _ => e)) (fun i e hlt => by have := (HT.out.lt i e).1; omega)) (p := ⟨w.heap.size + 1 + 1, 2, none⟩) (fun h => absurd h (by simp; omega)) _
        have hr7 := ((HRr.out.drew.alloc (.cells #[.string x] 9)).grown HG7.out (fun e => HTr.out _ e.symm rfl)).far (p := ⟨w.heap.size + 1 + 1, 2, none⟩) (by simp) (.slice (some ⟨g, 0, none⟩) (k + 1) cap)
        have hp7 := ((HP.out.drew.alloc (.cells #[.string x] 9)).grown HG7.out (fun e => HTp.out _ e.symm rfl)).far (p := ⟨w.heap.size + 1 + 1, 2, none⟩) (by simp; omega) (.slice (some ⟨g, 0, none⟩) (k + 1) cap)
        have ho7 := own_kpt HO7.out ((Kpt.refl (One (w.heap.size + 1 + 1)) w7).setOne 2 (.slice (some ⟨g, 0, none⟩) (k + 1) cap)) (fun g' hg' e => Blk.own_ne HB7.out HO7.out (by decide) (by rw [hg']; exact congrArg some e))
        refine ⟨⟨k + 1, _, by go_num, by omega, Lib.hid (HB7.out.set_ 2 _), Lib.hid ?_, Lib.hid hr7, Lib.hid hp7, Lib.hid k7⟩, by simp [intOf]; omega⟩
        rw [HTk.out]
        simpa using ho7)
    · have h1' : ¬ (k : Int) < (ls.length : Int) := by omega
      have hkl : k = ls.length := by omega
      obtain ⟨At, ct, rfl, hct1, hct2⟩ := own_slice HT.out
      have d0 := HO.out.cell 0
      have d1 := HO.out.cell 1
      have d2 := HO.out.cell 2
      have d3 := HO.out.cell 3
      have r0 := HRr.out.cell 0
      have r1 := HRr.out.cell 1
      have r2 := HRr.out.cell 2
      have r3 := HRr.out.cell 3
      have g0 := HRr.out.frozen 0
      have g1 := HRr.out.frozen 1
      have g2 := HRr.out.frozen 2
      have g3 := HRr.out.frozen 3
      simp only [List.getElem?_toArray, List.getElem?_cons_zero, List.getElem?_cons_succ] at d0 d1 d2 d3 r0 r1 r2 r3
      have HKl := Lib.hid hkl; clear hkl
      have htr : ∀ g, (Value.slice At k ct).ownBlock = some g → g ≠ w.heap.size + 1 := fun g hg e => Blk.own_ne HRr.out HT.out (by decide) (by rw [hg]; exact congrArg some e)
      have HTr := Lib.hid htr; clear htr
      have HT2 := HT
      go_wp2_with fail
      have hzf : Blk ((((wr.setCell ⟨w.heap.size + 1, 0, none⟩ (.int .i64 ep)).setCell ⟨w.heap.size + 1, 1, none⟩ (.string ss)).setCell ⟨w.heap.size + 1, 2, none⟩ (.slice At k ct)).setCell ⟨w.heap.size + 1, 3, none⟩ (.string sc)) (w.heap.size + 1) 44 #[(.int .i64 ep), (.string ss), (.slice At k ct), (.string sc)] := (((HRr.out.set_ 0 _).set_ 1 _).set_ 2 _).set_ 3 _
      have kz : Kpt (One (w.heap.size + 1)) wr ((((wr.setCell ⟨w.heap.size + 1, 0, none⟩ (.int .i64 ep)).setCell ⟨w.heap.size + 1, 1, none⟩ (.string ss)).setCell ⟨w.heap.size + 1, 2, none⟩ (.slice At k ct)).setCell ⟨w.heap.size + 1, 3, none⟩ (.string sc)) := ((((Kpt.refl (One (w.heap.size + 1)) wr).setOne 0 _).setOne 1 _).setOne 2 _).setOne 3 _
      have y0 := hzf.cell 0
      have y1 := hzf.cell 1
      have y2 := hzf.cell 2
      have y3 := hzf.cell 3
      simp only [List.getElem?_toArray, List.getElem?_cons_zero, List.getElem?_cons_succ] at y0 y1 y2 y3
      have hls : ls.take k = ls := by rw [HKl.out, List.take_length]
      have hn2 : k = ls.length := HKl.out
      have hrd := (Rd.of_own HT2.out).kpt kz (fun i hi e => HTr.out i hi.2 e)
      rw [hls] at hrd
      have hrd2 := hrd.more (D' := fun i => w.heap.size ≤ i) (fun i hi => hi.1)
      have hval : TmV ((((wr.setCell ⟨w.heap.size + 1, 0, none⟩ (.int .i64 ep)).setCell ⟨w.heap.size + 1, 1, none⟩ (.string ss)).setCell ⟨w.heap.size + 1, 2, none⟩ (.slice At k ct)).setCell ⟨w.heap.size + 1, 3, none⟩ (.string sc)) (fun i => w.heap.size ≤ i) ⟨ep, ss, ls, sc⟩ (.agg #[.int .i64 ep, .string ss, .slice At k ct, .string sc]) := ⟨At, ct, by rw [hn2], by rw [← hn2]; exact hct1, hct2, by rw [← hn2]; exact hrd2⟩
      clear hrd hrd2 hls hn2
      refine bodyPost_ret (v := .agg #[(.int .i64 ep), (.string ss), (.slice At k ct), (.string sc)]) ?_ rfl ⟨_, rfl, hval, Kpt.trans HK.out kz (fun i e hlt => by have e' : i = w.heap.size + 1 := e; omega)⟩
      clear hval kz hzf
      generalize ((((wr.setCell ⟨w.heap.size + 1, 0, none⟩ (.int .i64 ep)).setCell ⟨w.heap.size + 1, 1, none⟩ (.string ss)).setCell ⟨w.heap.size + 1, 2, none⟩ (.slice At k ct)).setCell ⟨w.heap.size + 1, 3, none⟩ (.string sc)) = wf at y0 y1 y2 y3
      simp [results, Tryz.results31, go_sem, y0, y1, y2, y3]

set_option maxRecDepth 100000 in
set_option maxHeartbeats 2000000 in
theorem f37_any (t : Tm) (v : Value) (D : Nat → Prop) (w : World) (hv : TmV w D t v) (hl : t.typed.length ≤ 20) :
    Calls Tryz.prog 24 #[v] w fun e w' => ∃ v', e = .returned v' ∧ TmV w' (fun i => w.heap.size ≤ i) t v' ∧ Kpt Non w w' := by
  obtain ⟨i0, hi, hz, hz0, hz1⟩ := info_parts info9
  have HI := Lib.hid hi; have HZI := Lib.hid hz; have HZ0 := Lib.hid hz0; have HZ1 := Lib.hid hz1; clear hi hz hz0 hz1
  obtain ⟨A, c, rfl, hc1, hc2, hr⟩ := hv
  have HR := Lib.hid hr; clear hr
  obtain ⟨ep, ss, ls, sc⟩ := t
  simp only at hc1 HR hl ⊢
  have hp0 := ((Blk.new w 44 #[.int .i64 ep, .string ss, .slice A ls.length c, .string sc]).alloc (.cells #[.int .i64 0, .string ⟨#[]⟩, .slice none 0 0, .string ⟨#[]⟩] 36)).alloc (.cells #[.int .i64 ep, .string ss, .slice none 0 0, .string sc] 36)
  have hR0 : Blk (((w.alloc (.cells #[.int .i64 ep, .string ss, .slice A ls.length c, .string sc] 44)).alloc (.cells #[.int .i64 0, .string ⟨#[]⟩, .slice none 0 0, .string ⟨#[]⟩] 36)).alloc (.cells #[.int .i64 ep, .string ss, .slice none 0 0, .string sc] 36)) (w.heap.size + 1) 36 #[.int .i64 0, .string ⟨#[]⟩, .slice none 0 0, .string ⟨#[]⟩] := by
    have := (Blk.new (w.alloc (.cells #[.int .i64 ep, .string ss, .slice A ls.length c, .string sc] 44)) 36 #[.int .i64 0, .string ⟨#[]⟩, .slice none 0 0, .string ⟨#[]⟩]).alloc (.cells #[.int .i64 ep, .string ss, .slice none 0 0, .string sc] 36)
    simpa using this
  have hO0 : Blk (((w.alloc (.cells #[.int .i64 ep, .string ss, .slice A ls.length c, .string sc] 44)).alloc (.cells #[.int .i64 0, .string ⟨#[]⟩, .slice none 0 0, .string ⟨#[]⟩] 36)).alloc (.cells #[.int .i64 ep, .string ss, .slice none 0 0, .string sc] 36)) (w.heap.size + 1 + 1) 36 #[.int .i64 ep, .string ss, .slice none 0 0, .string sc] := by
    have := Blk.new ((w.alloc (.cells #[.int .i64 ep, .string ss, .slice A ls.length c, .string sc] 44)).alloc (.cells #[.int .i64 0, .string ⟨#[]⟩, .slice none 0 0, .string ⟨#[]⟩] 36)) 36 #[.int .i64 ep, .string ss, .slice none 0 0, .string sc]
    simpa using this
  have HP0 := Lib.hid hp0; have HR0 := Lib.hid hR0; have HO0 := Lib.hid hO0; clear hp0 hR0 hO0
  go_enter Tryz.func24, Tryz.ntmps24
  go_wp2_with fail
  go_loopw [4] (fun x4 wr => ∃ (k : Nat) (tv : Value), x4 = .int .i64 k ∧ k ≤ ls.length ∧ Hid (Blk wr (w.heap.size + 1 + 1) 36 #[.int .i64 ep, .string ss, tv, .string sc]) ∧ Hid (wr.ownsRow w.heap.size 9 1 tv k ((ls.take k).map Value.string)) ∧ Hid (Blk wr (w.heap.size + 1) 36 #[.int .i64 0, .string ⟨#[]⟩, .slice none 0 0, .string ⟨#[]⟩]) ∧ Hid (Blk wr w.heap.size 44 #[.int .i64 ep, .string ss, .slice A ls.length c, .string sc]) ∧ Hid (Kpt Non w wr)) (fun x4 _ => ls.length - (intOf x4).toNat)
  case atStart => exact ⟨0, .slice none 0 0, rfl, Nat.zero_le _, HO0, Lib.hid (World.ownsRow_nil _ _ _ _), HR0, HP0, Lib.hid (Kpt.alloc (Kpt.alloc (Kpt.alloc (Kpt.refl _ _) _) _) _)⟩
  case round =>
    obtain ⟨k, tv, rfl, hk, HO, HT, HRr, HP, HK⟩ := hrel
    have hp2 := HP.out.cell 2
    simp only [List.getElem?_toArray, List.getElem?_cons_zero, List.getElem?_cons_succ] at hp2
    by_cases h1 : k < ls.length
    · have h1' : (k : Int) < (ls.length : Int) := by omega
      have h20 : (k : Int) < 20 := by omega
      obtain ⟨ad, u, rfl, _, hu, hcell⟩ := (HR.out.kpt HK.out (fun _ _ e => e)).at_ h1
      rw [List.getElem?_map] at hu
      obtain ⟨x, hx, rfl⟩ := Option.map_eq_some_iff.1 hu
      clear hu
      have htk : ls.take (k + 1) = ls.take k ++ [x] := by rw [List.take_add_one, hx]; rfl
      have hlk : k ≤ 20 := by omega
      have HTk := Lib.hid htk; clear htk hx
      have hp2d : wr.drew.cell? ⟨w.heap.size, 2, none⟩ = some (.slice (some ad) ls.length c) := hp2
      have hcd : wr.drew.cell? (ad.add k) = some (.string x) := hcell
      have ho2 := HO.out.cell 2
      simp only [List.getElem?_toArray, List.getElem?_cons_zero, List.getElem?_cons_succ] at ho2
      have ho2d : wr.drew.cell? ⟨w.heap.size + 1 + 1, 2, none⟩ = some tv := ho2
      have ho2b : ∀ o, (wr.alloc o).cell? ⟨w.heap.size + 1 + 1, 2, none⟩ = some tv := fun o => cell_alloc_ ho2 o
      have ho2a : ∀ o, (wr.drew.alloc o).cell? ⟨w.heap.size + 1 + 1, 2, none⟩ = some tv := fun o => cell_alloc_ ho2d o
      have hto : ∀ g, tv.ownBlock = some g → g ≠ w.heap.size + 1 + 1 := fun g hg e => Blk.own_ne HO.out HT.out (by decide) (by rw [hg]; exact congrArg some e)
      have htr : ∀ g, tv.ownBlock = some g → g ≠ w.heap.size + 1 := fun g hg e => Blk.own_ne HRr.out HT.out (by decide) (by rw [hg]; exact congrArg some e)
      have htp : ∀ g, tv.ownBlock = some g → g ≠ w.heap.size := fun g hg e => Blk.own_ne HP.out HT.out (by decide) (by rw [hg]; exact congrArg some e)
      have HTo := Lib.hid hto; have HTr := Lib.hid htr; have HTp := Lib.hid htp; clear hto htr htp
      have hsw := HK.out.size
      go_wp2_with fail
      go_upto_region 5 with fail
      go_region_law
        (first
          | (refine step_append_lies _ (by rfl) _ _ _ (by rfl) w.heap.size 9 i0 _ 1 16 Tryz.underlying22 HI.out HZI.out HZ0.out HZ1.out (by rfl) (by omega) tv _ _ (by rfl) ((own_kpt HT.out (Kpt.drew (Kpt.refl Non _)) (fun _ _ e => e)).alloc _) ⟨wr.heap.size, 0, none⟩ 1 1 [.string x] (by rfl) (by rfl) (cell_one_new _ _ _) (by simp [Value.oneCell']) (by omega) (by simp only [maxLen]; omega) (by omega) (by simp; omega) _ rfl ?_; intro g cap w7 hown hgrow hat hlt; have hb7 := ((HO.out.drew.alloc _).grown hgrow (fun e => HTo.out _ e.symm rfl)); have c7 := hb7.cell 2; have f7 := hb7.frozen 2; simp only [List.getElem?_toArray, List.getElem?_cons_zero, List.getElem?_cons_succ] at c7; have HB7 := Lib.hid hb7; have HO7 := Lib.hid hown; have HG7 := Lib.hid hgrow; clear hb7 hown hgrow hat)
          | fail)
      all_goals go_wp2_with fail
      all_goals (
        have kk : Kpt Non w wr.drew := Kpt.drew HK.out
        have k7 : Kpt Non w (w7.setCell ⟨w.heap.size + 1 + 1, 2, none⟩ (.slice (some ⟨g, 0, none⟩) (k + 1) cap)) := Kpt.setCell (Kpt.trans (Kpt.alloc kk _) (Kpt.grown (Kpt.refl (fun i => tv.ownBlock = some i) _) HG7.out (fun _ e _ => e)) (fun i e hlt => by have := (HT.out.lt i e).1; omega)) (p := ⟨w.heap.size + 1 + 1, 2, none⟩) (fun h => absurd h (by simp; omega)) _
        have hr7 := ((HRr.out.drew.alloc (.cells #[.string x] 9)).grown HG7.out (fun e => HTr.out _ e.symm rfl)).far (p := ⟨w.heap.size + 1 + 1, 2, none⟩) (by simp) (.slice (some ⟨g, 0, none⟩) (k + 1) cap)
        have hp7 := ((HP.out.drew.alloc (.cells #[.string x] 9)).grown HG7.out (fun e => HTp.out _ e.symm rfl)).far (p := ⟨w.heap.size + 1 + 1, 2, none⟩) (by simp; omega) (.slice (some ⟨g, 0, none⟩) (k + 1) cap)
        have ho7 := own_kpt HO7.out ((Kpt.refl (One (w.heap.size + 1 + 1)) w7).setOne 2 (.slice (some ⟨g, 0, none⟩) (k + 1) cap)) (fun g' hg' e => Blk.own_ne HB7.out HO7.out (by decide) (by rw [hg']; exact congrArg some e))
        refine ⟨⟨k + 1, _, by go_num, by omega, Lib.hid (HB7.out.set_ 2 _), Lib.hid ?_, Lib.hid hr7, Lib.hid hp7, Lib.hid k7⟩, by simp [intOf]; omega⟩
        rw [HTk.out]
        simpa using ho7)
    · have h1' : ¬ (k : Int) < (ls.length : Int) := by omega
      have hkl : k = ls.length := by omega
      obtain ⟨At, ct, rfl, hct1, hct2⟩ := own_slice HT.out
      have d0 := HO.out.cell 0
      have d1 := HO.out.cell 1
      have d2 := HO.out.cell 2
      have d3 := HO.out.cell 3
      have r0 := HRr.out.cell 0
      have r1 := HRr.out.cell 1
      have r2 := HRr.out.cell 2
      have r3 := HRr.out.cell 3
      have g0 := HRr.out.frozen 0
      have g1 := HRr.out.frozen 1
      have g2 := HRr.out.frozen 2
      have g3 := HRr.out.frozen 3
      simp only [List.getElem?_toArray, List.getElem?_cons_zero, List.getElem?_cons_succ] at d0 d1 d2 d3 r0 r1 r2 r3
      have HKl := Lib.hid hkl; clear hkl
      have htr : ∀ g, (Value.slice At k ct).ownBlock = some g → g ≠ w.heap.size + 1 := fun g hg e => Blk.own_ne HRr.out HT.out (by decide) (by rw [hg]; exact congrArg some e)
      have HTr := Lib.hid htr; clear htr
      have HT2 := HT
      go_wp2_with fail
      have hzf : Blk ((((wr.setCell ⟨w.heap.size + 1, 0, none⟩ (.int .i64 ep)).setCell ⟨w.heap.size + 1, 1, none⟩ (.string ss)).setCell ⟨w.heap.size + 1, 2, none⟩ (.slice At k ct)).setCell ⟨w.heap.size + 1, 3, none⟩ (.string sc)) (w.heap.size + 1) 36 #[(.int .i64 ep), (.string ss), (.slice At k ct), (.string sc)] := (((HRr.out.set_ 0 _).set_ 1 _).set_ 2 _).set_ 3 _
      have kz : Kpt (One (w.heap.size + 1)) wr ((((wr.setCell ⟨w.heap.size + 1, 0, none⟩ (.int .i64 ep)).setCell ⟨w.heap.size + 1, 1, none⟩ (.string ss)).setCell ⟨w.heap.size + 1, 2, none⟩ (.slice At k ct)).setCell ⟨w.heap.size + 1, 3, none⟩ (.string sc)) := ((((Kpt.refl (One (w.heap.size + 1)) wr).setOne 0 _).setOne 1 _).setOne 2 _).setOne 3 _
      have y0 := hzf.cell 0
      have y1 := hzf.cell 1
      have y2 := hzf.cell 2
      have y3 := hzf.cell 3
      simp only [List.getElem?_toArray, List.getElem?_cons_zero, List.getElem?_cons_succ] at y0 y1 y2 y3
      have hls : ls.take k = ls := by rw [HKl.out, List.take_length]
      have hn2 : k = ls.length := HKl.out
      have hrd := (Rd.of_own HT2.out).kpt kz (fun i hi e => HTr.out i hi.2 e)
      rw [hls] at hrd
      have hrd2 := hrd.more (D' := fun i => w.heap.size ≤ i) (fun i hi => hi.1)
      have hval : TmV ((((wr.setCell ⟨w.heap.size + 1, 0, none⟩ (.int .i64 ep)).setCell ⟨w.heap.size + 1, 1, none⟩ (.string ss)).setCell ⟨w.heap.size + 1, 2, none⟩ (.slice At k ct)).setCell ⟨w.heap.size + 1, 3, none⟩ (.string sc)) (fun i => w.heap.size ≤ i) ⟨ep, ss, ls, sc⟩ (.agg #[.int .i64 ep, .string ss, .slice At k ct, .string sc]) := ⟨At, ct, by rw [hn2], by rw [← hn2]; exact hct1, hct2, by rw [← hn2]; exact hrd2⟩
      clear hrd hrd2 hls hn2
      refine bodyPost_ret (v := .agg #[(.int .i64 ep), (.string ss), (.slice At k ct), (.string sc)]) ?_ rfl ⟨_, rfl, hval, Kpt.trans HK.out kz (fun i e hlt => by have e' : i = w.heap.size + 1 := e; omega)⟩
      clear hval kz hzf
      generalize ((((wr.setCell ⟨w.heap.size + 1, 0, none⟩ (.int .i64 ep)).setCell ⟨w.heap.size + 1, 1, none⟩ (.string ss)).setCell ⟨w.heap.size + 1, 2, none⟩ (.slice At k ct)).setCell ⟨w.heap.size + 1, 3, none⟩ (.string sc)) = wf at y0 y1 y2 y3
      simp [results, Tryz.results24, go_sem, y0, y1, y2, y3]
end Go.Proofs.YtkpmabknjdgkmaaGreatDoor

namespace Go.Proofs.YtkpmabknjdgkmaaGreatDoor
open Go.RowKit

theorem tl_prop {a b : ByteArray} (h : ¬ a = b) : ¬ a.toList = b.toList := fun e => by
  rw [ByteArray.toList_eq, ByteArray.toList_eq] at e
  exact h (ByteArray.ext (Array.toList_inj.1 e))
theorem lists_eq {ls ls2 : List ByteArray} (hl : ls.length = ls2.length) (h : ∀ i, i < ls.length → ls[i]? = ls2[i]?) : ls = ls2 := by
  apply List.ext_getElem?
  intro i
  by_cases hi : i < ls.length
  · exact h i hi
  · rw [List.getElem?_eq_none (by omega), List.getElem?_eq_none (by omega)]

set_option maxRecDepth 100000 in
set_option maxHeartbeats 2000000 in
theorem f43_any (a b : Tm) (va vb : Value) (D E : Nat → Prop) (w : World) (ha : TmV w D a va) (hb : TmV w E b vb) (hl : a.typed.length ≤ 1048576) :
    Calls Tryz.prog 30 #[va, vb] w fun e w' => e = .returned (.bool (decide (a = b))) ∧ Kpt Non w w' := by
  obtain ⟨A, c, rfl, hc1, hc2, hr⟩ := ha
  obtain ⟨B, d, rfl, hd1, hd2, hq⟩ := hb
  obtain ⟨ep, ss, ls, sc⟩ := a
  obtain ⟨ep2, ss2, ls2, sc2⟩ := b
  simp only at hc1 hr hd1 hq hl ⊢
  have HR := Lib.hid hr; have HQ := Lib.hid hq; clear hr hq
  have kk := Kpt.alloc (Kpt.alloc (Kpt.refl Non w) (.cells #[.int .i64 ep, .string ss, .slice A ls.length c, .string sc] 44)) (.cells #[.int .i64 ep2, .string ss2, .slice B ls2.length d, .string sc2] 44)
  have HK := Lib.hid kk; clear kk
  obtain ⟨dd, hdd⟩ : ∃ dd, decide ((⟨ep, ss, ls, sc⟩ : Tm) = ⟨ep2, ss2, ls2, sc2⟩) = dd := ⟨_, rfl⟩
  rw [hdd]
  have HDd := Lib.hid hdd; clear hdd
  by_cases h1 : ep = ep2
  · have h1' : (ep != ep2) = false := by rw [bne_eq_false_iff_eq]; exact h1
    have H1 := Lib.hid h1; clear h1
    by_cases h2 : ss = ss2
    · have h2' : ss.toList = ss2.toList := by rw [h2]
      have H2 := Lib.hid h2; clear h2
      by_cases h3 : sc = sc2
      · have h3' : sc.toList = sc2.toList := by rw [h3]
        have H3 := Lib.hid h3; clear h3
        by_cases h4 : ls.length = ls2.length
        · have h4' : ((ls.length : Int) != (ls2.length : Int)) = false := by rw [bne_eq_false_iff_eq]; omega
          have H4 := Lib.hid h4; clear h4
          have hp : Blk ((w.alloc (.cells #[.int .i64 ep, .string ss, .slice A ls.length c, .string sc] 44)).alloc (.cells #[.int .i64 ep2, .string ss2, .slice B ls2.length d, .string sc2] 44)) w.heap.size 44 #[.int .i64 ep, .string ss, .slice A ls.length c, .string sc] := (Blk.new _ _ _).alloc _
          have hqq : Blk ((w.alloc (.cells #[.int .i64 ep, .string ss, .slice A ls.length c, .string sc] 44)).alloc (.cells #[.int .i64 ep2, .string ss2, .slice B ls2.length d, .string sc2] 44)) (w.heap.size + 1) 44 #[.int .i64 ep2, .string ss2, .slice B ls2.length d, .string sc2] := by
            have := Blk.new (w.alloc (.cells #[.int .i64 ep, .string ss, .slice A ls.length c, .string sc] 44)) 44 #[.int .i64 ep2, .string ss2, .slice B ls2.length d, .string sc2]
            simpa using this
          have HP := Lib.hid hp; have HQq := Lib.hid hqq; clear hp hqq
          go_enter Tryz.func30, Tryz.ntmps30
          go_wp2_with fail
          go_loopw [5] (fun x5 wr => ∃ j : Nat, x5 = .int .i64 j ∧ j ≤ ls.length ∧ Hid (∀ i, i < j → ls[i]? = ls2[i]?) ∧ Hid (Kpt Non ((w.alloc (.cells #[.int .i64 ep, .string ss, .slice A ls.length c, .string sc] 44)).alloc (.cells #[.int .i64 ep2, .string ss2, .slice B ls2.length d, .string sc2] 44)) wr)) (fun x5 _ => ls.length - (intOf x5).toNat)
          case atStart => exact ⟨0, rfl, Nat.zero_le _, Lib.hid (fun i hi => absurd hi (by omega)), Lib.hid (Kpt.refl _ _)⟩
          case round =>
            obtain ⟨j, rfl, hj, HS, HKr⟩ := hrel
            have p2 := (HP.out.kpt HKr.out (fun e => e)).cell 2
            have q2 := (HQq.out.kpt HKr.out (fun e => e)).cell 2
            simp only [List.getElem?_toArray, List.getElem?_cons_zero, List.getElem?_cons_succ] at p2 q2
            have kw : Kpt Non w wr := Kpt.trans HK.out HKr.out (fun _ e _ => e)
            have KW := Lib.hid kw; clear kw
            by_cases h5 : j < ls.length
            · have h5' : (j : Int) < (ls.length : Int) := by omega
              have h6' : (j : Int) < (ls2.length : Int) := by have := H4.out; omega
              obtain ⟨ad1, u1, rfl, _, hu1, hc1'⟩ := (HR.out.kpt KW.out (fun _ _ e => e)).at_ h5
              obtain ⟨ad2, u2, rfl, _, hu2, hc2'⟩ := (HQ.out.kpt KW.out (fun _ _ e => e)).at_ (k := j) (by have := H4.out; omega)
              rw [List.getElem?_map] at hu1 hu2
              obtain ⟨x, hx, rfl⟩ := Option.map_eq_some_iff.1 hu1
              obtain ⟨y, hy, rfl⟩ := Option.map_eq_some_iff.1 hu2
              clear hu1 hu2
              have HX := Lib.hid hx; have HY := Lib.hid hy; clear hx hy
              by_cases hxy : x = y
              · subst hxy
                go_wp2_with fail
                go_region_held3 (fun w' => w'.cell? ⟨w.heap.size, 2, none⟩ = some (.slice (some ad1) ls.length c) ∧ w'.cell? ⟨w.heap.size + 1, 2, none⟩ = some (.slice (some ad2) ls2.length d) ∧ w'.cell? (ad1.add j) = some (.string x) ∧ w'.cell? (ad2.add j) = some (.string x)) (first | exact ⟨p2, q2, hc1', hc2'⟩) (first | fail)
                go_wp2_with fail
                refine ⟨⟨j + 1, by go_num, by omega, Lib.hid (fun i hi => ?_), Lib.hid (Kpt.drew HKr.out)⟩, by simp [intOf]; omega⟩
                by_cases hij : i < j
                · exact HS.out i hij
                · obtain rfl : i = j := by omega
                  rw [HX.out, HY.out]
              · have hxy' := tl_prop hxy
                have hxy'' : (x.toList == y.toList) = false := by rw [beq_eq_false_iff_ne]; exact hxy'
                have hne : decide ((⟨ep, ss, ls, sc⟩ : Tm) = ⟨ep2, ss2, ls2, sc2⟩) = false := by
                  rw [decide_eq_false_iff_not]
                  intro e
                  injection e with _ _ e _
                  have h1 := HX.out
                  rw [e, HY.out] at h1
                  injection h1 with h1
                  exact hxy h1.symm
                have HNe := Lib.hid hne
                have HXY := Lib.hid hxy; clear hxy hne
                go_wp2_with fail
                go_region_held3 (fun w' => w'.cell? ⟨w.heap.size, 2, none⟩ = some (.slice (some ad1) ls.length c) ∧ w'.cell? ⟨w.heap.size + 1, 2, none⟩ = some (.slice (some ad2) ls2.length d) ∧ w'.cell? (ad1.add j) = some (.string x) ∧ w'.cell? (ad2.add j) = some (.string y)) (first | exact ⟨p2, q2, hc1', hc2'⟩) (first | fail)
                go_wp2_with fail
                go_ret
                exact ⟨by rw [← HDd.out, HNe.out]; rfl, Kpt.drew KW.out⟩
            · have h5' : ¬ (j : Int) < (ls.length : Int) := by omega
              have hyes : decide ((⟨ep, ss, ls, sc⟩ : Tm) = ⟨ep2, ss2, ls2, sc2⟩) = true := by
                rw [decide_eq_true_eq, H1.out, H2.out, H3.out, lists_eq H4.out (fun i hi => HS.out i (by omega))]
              have HYes := Lib.hid hyes; clear hyes
              go_wp2_with fail
              go_ret
              exact ⟨by rw [← HDd.out, HYes.out]; rfl, KW.out⟩
        · have h4' : ((ls.length : Int) != (ls2.length : Int)) = true := by rw [bne_iff_ne]; omega
          have hne : decide ((⟨ep, ss, ls, sc⟩ : Tm) = ⟨ep2, ss2, ls2, sc2⟩) = false := by
            rw [decide_eq_false_iff_not]
            intro e
            injection e with _ _ e _
            exact h4 (by rw [e])
          obtain rfl : dd = false := by rw [← HDd.out]; exact hne
          have H4 := Lib.hid h4; clear h4 hne
          go_enter Tryz.func30, Tryz.ntmps30
          go_wp2_with fail
          go_ret
          exact ⟨rfl, HK.out⟩
      · have h3' := tl_prop h3
        have hne : decide ((⟨ep, ss, ls, sc⟩ : Tm) = ⟨ep2, ss2, ls2, sc2⟩) = false := by
          rw [decide_eq_false_iff_not]
          intro e
          injection e with _ _ _ e
          exact h3 e
        obtain rfl : dd = false := by rw [← HDd.out]; exact hne
        have H3 := Lib.hid h3; clear h3 hne
        go_enter Tryz.func30, Tryz.ntmps30
        go_wp2_with fail
        go_ret
        exact ⟨rfl, HK.out⟩
    · have h2' := tl_prop h2
      have hne : decide ((⟨ep, ss, ls, sc⟩ : Tm) = ⟨ep2, ss2, ls2, sc2⟩) = false := by
        rw [decide_eq_false_iff_not]
        intro e
        injection e with _ e _ _
        exact h2 e
      obtain rfl : dd = false := by rw [← HDd.out]; exact hne
      have H2 := Lib.hid h2; clear h2 hne
      go_enter Tryz.func30, Tryz.ntmps30
      go_wp2_with fail
      go_ret
      exact ⟨rfl, HK.out⟩
  · have h1' : (ep != ep2) = true := by rw [bne_iff_ne]; exact h1
    have hne : decide ((⟨ep, ss, ls, sc⟩ : Tm) = ⟨ep2, ss2, ls2, sc2⟩) = false := by
      rw [decide_eq_false_iff_not]
      intro e
      injection e with e _ _ _
      exact h1 e
    obtain rfl : dd = false := by rw [← HDd.out]; exact hne
    have H1 := Lib.hid h1; clear h1 hne
    go_enter Tryz.func30, Tryz.ntmps30
    go_wp2_with fail
    go_ret
    exact ⟨rfl, HK.out⟩

set_option maxRecDepth 100000 in
set_option maxHeartbeats 2000000 in
/-- slices.Equal, at strings. -/
theorem f116_any (A B : Option Addr) (c d : Nat) (ls ls2 : List ByteArray) (D E : Nat → Prop) (w : World) (hr : Rd w D 1 A ls.length (ls.map Value.string)) (hq : Rd w E 1 B ls2.length (ls2.map Value.string)) (hl : ls.length ≤ 1048576) :
    Calls Tryz.prog 67 #[.slice A ls.length c, .slice B ls2.length d] w fun e w' => e = .returned (.bool (decide (ls = ls2))) ∧ Kpt Non w w' := by
  have HR := Lib.hid hr; have HQ := Lib.hid hq; clear hr hq
  obtain ⟨dd, hdd⟩ : ∃ dd, decide (ls = ls2) = dd := ⟨_, rfl⟩
  rw [hdd]
  have HDd := Lib.hid hdd; clear hdd
  by_cases h4 : ls.length = ls2.length
  · have h4' : ((ls.length : Int) != (ls2.length : Int)) = false := by rw [bne_eq_false_iff_eq]; omega
    have H4 := Lib.hid h4; clear h4
    go_enter Tryz.func67, Tryz.ntmps67
    go_wp2_with fail
    go_loopw [13] (fun x5 wr => ∃ j : Nat, x5 = .int .i64 j ∧ j ≤ ls.length ∧ Hid (∀ i, i < j → ls[i]? = ls2[i]?) ∧ Hid (Kpt Non w wr)) (fun x5 _ => ls.length - (intOf x5).toNat)
    case atStart => exact ⟨0, rfl, Nat.zero_le _, Lib.hid (fun i hi => absurd hi (by omega)), Lib.hid (Kpt.refl _ _)⟩
    case round =>
      obtain ⟨j, rfl, hj, HS, KW⟩ := hrel
      by_cases h5 : j < ls.length
      · have h5' : (j : Int) < (ls.length : Int) := by omega
        have h6' : (j : Int) < (ls2.length : Int) := by have := H4.out; omega
        obtain ⟨ad1, u1, rfl, _, hu1, hc1'⟩ := (HR.out.kpt KW.out (fun _ _ e => e)).at_ h5
        obtain ⟨ad2, u2, rfl, _, hu2, hc2'⟩ := (HQ.out.kpt KW.out (fun _ _ e => e)).at_ (k := j) (by have := H4.out; omega)
        rw [List.getElem?_map] at hu1 hu2
        obtain ⟨x, hx, rfl⟩ := Option.map_eq_some_iff.1 hu1
        obtain ⟨y, hy, rfl⟩ := Option.map_eq_some_iff.1 hu2
        clear hu1 hu2
        have HX := Lib.hid hx; have HY := Lib.hid hy; clear hx hy
        by_cases hxy : x = y
        · subst hxy
          go_wp2_with fail
          go_region_held3 (fun w' => w'.cell? (ad1.add j) = some (.string x) ∧ w'.cell? (ad2.add j) = some (.string x)) (first | exact ⟨hc1', hc2'⟩) (first | fail)
          go_wp2_with fail
          refine ⟨⟨j + 1, by go_num, by omega, Lib.hid (fun i hi => ?_), Lib.hid (Kpt.drew KW.out)⟩, by simp [intOf]; omega⟩
          by_cases hij : i < j
          · exact HS.out i hij
          · obtain rfl : i = j := by omega
            rw [HX.out, HY.out]
        · have hxy' := tl_prop hxy
          have hxy'' : (x.toList == y.toList) = false := by rw [beq_eq_false_iff_ne]; exact hxy'
          have hne : decide (ls = ls2) = false := by
            rw [decide_eq_false_iff_not]
            intro e
            have h1 := HX.out
            rw [e, HY.out] at h1
            injection h1 with h1
            exact hxy h1.symm
          have HNe := Lib.hid hne
          have HXY := Lib.hid hxy; clear hxy hne
          go_wp2_with fail
          go_region_held3 (fun w' => w'.cell? (ad1.add j) = some (.string x) ∧ w'.cell? (ad2.add j) = some (.string y)) (first | exact ⟨hc1', hc2'⟩) (first | fail)
          go_wp2_with fail
          go_ret
          exact ⟨by rw [← HDd.out, HNe.out]; rfl, Kpt.drew KW.out⟩
      · have h5' : ¬ (j : Int) < (ls.length : Int) := by omega
        have hyes : decide (ls = ls2) = true := by
          rw [decide_eq_true_eq]
          exact lists_eq H4.out (fun i hi => HS.out i (by omega))
        have HYes := Lib.hid hyes; clear hyes
        go_wp2_with fail
        go_ret
        exact ⟨by rw [← HDd.out, HYes.out]; rfl, KW.out⟩
  · have h4' : ((ls.length : Int) != (ls2.length : Int)) = true := by rw [bne_iff_ne]; omega
    have hne : decide (ls = ls2) = false := by
      rw [decide_eq_false_iff_not]
      intro e
      exact h4 (by rw [e])
    obtain rfl : dd = false := by rw [← HDd.out]; exact hne
    have H4 := Lib.hid h4; clear h4 hne
    go_enter Tryz.func67, Tryz.ntmps67
    go_wp2_with fail
    go_ret
    exact ⟨rfl, Kpt.refl _ _⟩

set_option maxRecDepth 100000 in
set_option maxHeartbeats 2000000 in
/-- terminal.Equal. -/
theorem f45_any (a b : Tm) (va vb : Value) (D E : Nat → Prop) (w : World) (ha : TmV w D a va) (hb : TmV w E b vb) (hl : a.typed.length ≤ 1048576) :
    Calls Tryz.prog 32 #[va, vb] w fun e w' => e = .returned (.bool (decide (a = b))) ∧ Kpt Non w w' := by
  obtain ⟨A, c, rfl, hc1, hc2, hr⟩ := ha
  obtain ⟨B, d, rfl, hd1, hd2, hq⟩ := hb
  obtain ⟨ep, ss, ls, sc⟩ := a
  obtain ⟨ep2, ss2, ls2, sc2⟩ := b
  simp only at hc1 hr hd1 hq hl ⊢
  have kk := Kpt.alloc (Kpt.alloc (Kpt.refl Non w) (.cells #[.int .i64 ep, .string ss, .slice A ls.length c, .string sc] 36)) (.cells #[.int .i64 ep2, .string ss2, .slice B ls2.length d, .string sc2] 36)
  have e116 := f116_any A B c d ls ls2 D E _ (hr.kpt kk (fun _ _ e => e)) (hq.kpt kk (fun _ _ e => e)) hl
  have H116 := Lib.hid e116; have HK := Lib.hid kk; clear kk e116 hr hq
  obtain ⟨dd, hdd⟩ : ∃ dd, decide ((⟨ep, ss, ls, sc⟩ : Tm) = ⟨ep2, ss2, ls2, sc2⟩) = dd := ⟨_, rfl⟩
  rw [hdd]
  have HDd := Lib.hid hdd; clear hdd
  by_cases h1 : ep = ep2
  · have h1' : (ep == ep2) = true := by rw [beq_iff_eq]; exact h1
    have H1 := Lib.hid h1; clear h1
    by_cases h2 : ss = ss2
    · have h2' : (ss.toList == ss2.toList) = true := by rw [h2]; simp
      have h2'' : ss.toList = ss2.toList := by rw [h2]
      have H2 := Lib.hid h2; clear h2
      by_cases h3 : sc = sc2
      · have h3' : (sc.toList == sc2.toList) = true := by rw [h3]; simp
        have h3'' : sc.toList = sc2.toList := by rw [h3]
        have H3 := Lib.hid h3; clear h3
        have hd : decide ((⟨ep, ss, ls, sc⟩ : Tm) = ⟨ep2, ss2, ls2, sc2⟩) = decide (ls = ls2) := by
          rw [H1.out, H2.out, H3.out]
          simp
        obtain rfl : dd = decide (ls = ls2) := by rw [← HDd.out]; exact hd
        clear hd HDd
        generalize decide (ls = ls2) = dd at H116 ⊢
        cases dd
        all_goals
          go_enter Tryz.func32, Tryz.ntmps32
          go_wp2_with fail
          refine H116.out.mono ?_
          rintro e w1 ⟨rfl, k1⟩
          have K1 := Lib.hid k1; clear k1
          go_wp2_with fail
          go_ret
          exact ⟨rfl, Kpt.trans HK.out K1.out (fun _ e _ => e)⟩
      · have h3' := tl_prop h3
        have h3'' : (sc.toList == sc2.toList) = false := by rw [beq_eq_false_iff_ne]; exact h3'
        have hne : decide ((⟨ep, ss, ls, sc⟩ : Tm) = ⟨ep2, ss2, ls2, sc2⟩) = false := by
          rw [decide_eq_false_iff_not]
          intro e
          injection e with _ _ _ e
          exact h3 e
        obtain rfl : dd = false := by rw [← HDd.out]; exact hne
        have H3 := Lib.hid h3; clear h3 hne
        go_enter Tryz.func32, Tryz.ntmps32
        go_wp2_with fail
        go_ret
        exact ⟨rfl, HK.out⟩
    · have h2' := tl_prop h2
      have h2'' : (ss.toList == ss2.toList) = false := by rw [beq_eq_false_iff_ne]; exact h2'
      have hne : decide ((⟨ep, ss, ls, sc⟩ : Tm) = ⟨ep2, ss2, ls2, sc2⟩) = false := by
        rw [decide_eq_false_iff_not]
        intro e
        injection e with _ e _ _
        exact h2 e
      obtain rfl : dd = false := by rw [← HDd.out]; exact hne
      have H2 := Lib.hid h2; clear h2 hne
      go_enter Tryz.func32, Tryz.ntmps32
      go_wp2_with fail
      go_ret
      exact ⟨rfl, HK.out⟩
  · have h1' : (ep == ep2) = false := by rw [beq_eq_false_iff_ne]; exact h1
    have hne : decide ((⟨ep, ss, ls, sc⟩ : Tm) = ⟨ep2, ss2, ls2, sc2⟩) = false := by
      rw [decide_eq_false_iff_not]
      intro e
      injection e with e _ _ _
      exact h1 e
    obtain rfl : dd = false := by rw [← HDd.out]; exact hne
    have H1 := Lib.hid h1; clear h1 hne
    go_enter Tryz.func32, Tryz.ntmps32
    go_wp2_with fail
    go_ret
    exact ⟨rfl, HK.out⟩
end Go.Proofs.YtkpmabknjdgkmaaGreatDoor
