/- The walks of the laws' Of and To: a terminal copied. No condition but on the count of lines. -/
import Derived.Test.YtkpmabknjdgkmaaGreatDoorTerm4
import Derived.Deep.RegionLaw
namespace Go.Proofs.YtkpmabknjdgkmaaGreatDoor
open Go.RowKit

set_option maxRecDepth 100000 in
set_option maxHeartbeats 2000000 in
theorem f44_any (t : Tm) (v : Value) (D : Nat → Prop) (w : World) (hv : TmV w D t v) (hl : t.typed.length ≤ 1048576) :
    Calls Tryz.prog 31 #[v] w fun e w' => ∃ v', e = .returned v' ∧ TmV w' (fun i => w.heap.size ≤ i) t v' ∧ Kpt Non w w' := by
  obtain ⟨i0, hi, hz, hz0, hz1⟩ := info_parts info9
  have HI := Lib.hid hi; have HZI := Lib.hid hz; have HZ0 := Lib.hid hz0; have HZ1 := Lib.hid hz1; clear hi hz hz0 hz1
  obtain ⟨A, c, rfl, hc1, hc2, hr⟩ := hv
  have HR := Lib.hid hr; clear hr
  obtain ⟨ep, ss, ls, sc⟩ := t
  simp only at hc1 HR hl ⊢
  have hp0 := ((Blk.new w 36 #[.int .i64 ep, .string ss, .slice A ls.length c, .string sc]).alloc (.cells #[.int .i64 0, .string ⟨#[]⟩, .slice none 0 0, .string ⟨#[]⟩] 44)).alloc (.cells #[.int .i64 ep, .string ss, .slice none 0 0, .string sc] 44)
  have hR0 : Blk (((w.alloc (.cells #[.int .i64 ep, .string ss, .slice A ls.length c, .string sc] 36)).alloc (.cells #[.int .i64 0, .string ⟨#[]⟩, .slice none 0 0, .string ⟨#[]⟩] 44)).alloc (.cells #[.int .i64 ep, .string ss, .slice none 0 0, .string sc] 44)) (w.heap.size + 1) 44 #[.int .i64 0, .string ⟨#[]⟩, .slice none 0 0, .string ⟨#[]⟩] := by
    have := (Blk.new (w.alloc (.cells #[.int .i64 ep, .string ss, .slice A ls.length c, .string sc] 36)) 44 #[.int .i64 0, .string ⟨#[]⟩, .slice none 0 0, .string ⟨#[]⟩]).alloc (.cells #[.int .i64 ep, .string ss, .slice none 0 0, .string sc] 44)
    simpa using this
  have hO0 : Blk (((w.alloc (.cells #[.int .i64 ep, .string ss, .slice A ls.length c, .string sc] 36)).alloc (.cells #[.int .i64 0, .string ⟨#[]⟩, .slice none 0 0, .string ⟨#[]⟩] 44)).alloc (.cells #[.int .i64 ep, .string ss, .slice none 0 0, .string sc] 44)) (w.heap.size + 1 + 1) 44 #[.int .i64 ep, .string ss, .slice none 0 0, .string sc] := by
    have := Blk.new ((w.alloc (.cells #[.int .i64 ep, .string ss, .slice A ls.length c, .string sc] 36)).alloc (.cells #[.int .i64 0, .string ⟨#[]⟩, .slice none 0 0, .string ⟨#[]⟩] 44)) 44 #[.int .i64 ep, .string ss, .slice none 0 0, .string sc]
    simpa using this
  have HP0 := Lib.hid hp0; have HR0 := Lib.hid hR0; have HO0 := Lib.hid hO0; clear hp0 hR0 hO0
  go_enter Tryz.func31, Tryz.ntmps31
  go_wp2_with fail
  go_loopw [4] (fun x4 wr => ∃ (k : Nat) (tv : Value), x4 = .int .i64 k ∧ k ≤ ls.length ∧ Hid (Blk wr (w.heap.size + 1 + 1) 44 #[.int .i64 ep, .string ss, tv, .string sc]) ∧ Hid (wr.ownsRow w.heap.size 9 1 tv k ((ls.take k).map Value.string)) ∧ Hid (Blk wr (w.heap.size + 1) 44 #[.int .i64 0, .string ⟨#[]⟩, .slice none 0 0, .string ⟨#[]⟩]) ∧ Hid (Blk wr w.heap.size 36 #[.int .i64 ep, .string ss, .slice A ls.length c, .string sc]) ∧ Hid (Kpt Non w wr)) (fun x4 _ => ls.length - (intOf x4).toNat)
  case atStart => exact ⟨0, .slice none 0 0, rfl, Nat.zero_le _, HO0, Lib.hid (World.ownsRow_nil _ _ _ _), HR0, HP0, Lib.hid (Kpt.alloc (Kpt.alloc (Kpt.alloc (Kpt.refl _ _) _) _) _)⟩
  case round =>
    obtain ⟨k, tv, rfl, hk, HO, HT, HRr, HP, HK⟩ := hrel
    have hp2 := HP.out.cell 2
    simp only [List.getElem?_toArray, List.getElem?_cons_zero, List.getElem?_cons_succ] at hp2
    by_cases h1 : k < ls.length
    · have h1' : (k : Int) < (ls.length : Int) := by omega
      obtain ⟨ad, u, rfl, _, hu, hcell⟩ := (HR.out.kpt HK.out (fun _ _ e => e)).at_ h1
      rw [List.getElem?_map] at hu
      obtain ⟨x, hx, rfl⟩ := Option.map_eq_some_iff.1 hu
      clear hu
      have htk : ls.take (k + 1) = ls.take k ++ [x] := by rw [List.take_add_one, hx]; rfl
      have hlk : k ≤ 1048576 := by omega
      have HTk := Lib.hid htk; clear htk hx
      have hp2d : wr.drew.cell? ⟨w.heap.size, 2, none⟩ = some (.slice (some ad) ls.length c) := hp2
      have hcd : wr.drew.cell? (ad.add k) = some (.string x) := hcell
      have ho2 := HO.out.cell 2
      simp only [List.getElem?_toArray, List.getElem?_cons_zero, List.getElem?_cons_succ] at ho2
      have ho2d : wr.drew.cell? ⟨w.heap.size + 1 + 1, 2, none⟩ = some tv := ho2
      have ho2b : ∀ o, (wr.alloc o).cell? ⟨w.heap.size + 1 + 1, 2, none⟩ = some tv := fun o => cell_alloc_ ho2 o
      have ho2a : ∀ o, (wr.drew.alloc o).cell? ⟨w.heap.size + 1 + 1, 2, none⟩ = some tv := fun o => cell_alloc_ ho2d o
      have hto : ∀ g, tv.ownBlock = some g → g ≠ w.heap.size + 1 + 1 := fun g hg e => Blk.own_ne HO.out HT.out (by decide) (by rw [hg]; exact congrArg some e)
      have htr : ∀ g, tv.ownBlock = some g → g ≠ w.heap.size + 1 := fun g hg e => Blk.own_ne HRr.out HT.out (by decide) (by rw [hg]; exact congrArg some e)
      have htp : ∀ g, tv.ownBlock = some g → g ≠ w.heap.size := fun g hg e => Blk.own_ne HP.out HT.out (by decide) (by rw [hg]; exact congrArg some e)
      have HTo := Lib.hid hto; have HTr := Lib.hid htr; have HTp := Lib.hid htp; clear hto htr htp
      have hsw := HK.out.size
      go_wp2_with fail
      go_upto_region 5 with fail
      go_region_law
        (first
          | (refine step_append_lies _ (by rfl) _ _ _ (by rfl) w.heap.size 9 i0 _ 1 16 Tryz.underlying22 HI.out HZI.out HZ0.out HZ1.out (by rfl) (by omega) tv _ _ (by rfl) ((own_kpt HT.out (Kpt.drew (Kpt.refl Non _)) (fun _ _ e => e)).alloc _) ⟨wr.heap.size, 0, none⟩ 1 1 [.string x] (by rfl) (by rfl) (cell_one_new _ _ _) (by simp [Value.oneCell']) (by omega) (by simp only [maxLen]; omega) (by omega) (by simp; omega) _ rfl ?_; intro g cap w7 hown hgrow hat hlt; have hb7 := ((HO.out.drew.alloc _).grown hgrow (fun e => HTo.out _ e.symm rfl)); have c7 := hb7.cell 2; have f7 := hb7.frozen 2; simp only [List.getElem?_toArray, List.getElem?_cons_zero, List.getElem?_cons_succ] at c7; have HB7 := Lib.hid hb7; have HO7 := Lib.hid hown; have HG7 := Lib.hid hgrow; clear hb7 hown hgrow hat)
          | fail)
      all_goals go_wp2_with fail
      all_goals (
        have kk : Kpt Non w wr.drew := Kpt.drew HK.out
        have k7 : Kpt Non w (w7.setCell ⟨w.heap.size + 1 + 1, 2, none⟩ (.slice (some ⟨g, 0, none⟩) (k + 1) cap)) := Kpt.setCell (Kpt.trans (Kpt.alloc kk _) (Kpt.grown (Kpt.refl (fun i => tv.ownBlock = some i) _) HG7.out (fun _ e _ => e)) (fun i e hlt => by have := (HT.out.lt i e).1; omega)) (p := ⟨w.heap.size + 1 + 1, 2, none⟩) (fun h => absurd h (by simp; omega)) _
        have hr7 := ((HRr.out.drew.alloc (.cells #[.string x] 9)).grown HG7.out (fun e => HTr.out _ e.symm rfl)).far (p := ⟨w.heap.size + 1 + 1, 2, none⟩) (by simp) (.slice (some ⟨g, 0, none⟩) (k + 1) cap)
        have hp7 := ((HP.out.drew.alloc (.cells #[.string x] 9)).grown HG7.out (fun e => HTp.out _ e.symm rfl)).far (p := ⟨w.heap.size + 1 + 1, 2, none⟩) (by simp; omega) (.slice (some ⟨g, 0, none⟩) (k + 1) cap)
        have ho7 := own_kpt HO7.out ((Kpt.refl (One (w.heap.size + 1 + 1)) w7).setOne 2 (.slice (some ⟨g, 0, none⟩) (k + 1) cap)) (fun g' hg' e => Blk.own_ne HB7.out HO7.out (by decide) (by rw [hg']; exact congrArg some e))
        refine ⟨⟨k + 1, _, by go_num, by omega, Lib.hid (HB7.out.set_ 2 _), Lib.hid ?_, Lib.hid hr7, Lib.hid hp7, Lib.hid k7⟩, by simp [intOf]; omega⟩
        rw [HTk.out]
        simpa using ho7)
    · have h1' : ¬ (k : Int) < (ls.length : Int) := by omega
      have hkl : k = ls.length := by omega
      obtain ⟨At, ct, rfl, hct1, hct2⟩ := own_slice HT.out
      have d0 := HO.out.cell 0
      have d1 := HO.out.cell 1
      have d2 := HO.out.cell 2
      have d3 := HO.out.cell 3
      have r0 := HRr.out.cell 0
      have r1 := HRr.out.cell 1
      have r2 := HRr.out.cell 2
      have r3 := HRr.out.cell 3
      have g0 := HRr.out.frozen 0
      have g1 := HRr.out.frozen 1
      have g2 := HRr.out.frozen 2
      have g3 := HRr.out.frozen 3
      simp only [List.getElem?_toArray, List.getElem?_cons_zero, List.getElem?_cons_succ] at d0 d1 d2 d3 r0 r1 r2 r3
      have HKl := Lib.hid hkl; clear hkl
      have htr : ∀ g, (Value.slice At k ct).ownBlock = some g → g ≠ w.heap.size + 1 := fun g hg e => Blk.own_ne HRr.out HT.out (by decide) (by rw [hg]; exact congrArg some e)
      have HTr := Lib.hid htr; clear htr
      have HT2 := HT
      go_wp2_with fail
      have hzf : Blk ((((wr.setCell ⟨w.heap.size + 1, 0, none⟩ (.int .i64 ep)).setCell ⟨w.heap.size + 1, 1, none⟩ (.string ss)).setCell ⟨w.heap.size + 1, 2, none⟩ (.slice At k ct)).setCell ⟨w.heap.size + 1, 3, none⟩ (.string sc)) (w.heap.size + 1) 44 #[(.int .i64 ep), (.string ss), (.slice At k ct), (.string sc)] := (((HRr.out.set_ 0 _).set_ 1 _).set_ 2 _).set_ 3 _
      have kz : Kpt (One (w.heap.size + 1)) wr ((((wr.setCell ⟨w.heap.size + 1, 0, none⟩ (.int .i64 ep)).setCell ⟨w.heap.size + 1, 1, none⟩ (.string ss)).setCell ⟨w.heap.size + 1, 2, none⟩ (.slice At k ct)).setCell ⟨w.heap.size + 1, 3, none⟩ (.string sc)) := ((((Kpt.refl (One (w.heap.size + 1)) wr).setOne 0 _).setOne 1 _).setOne 2 _).setOne 3 _
      have y0 := hzf.cell 0
      have y1 := hzf.cell 1
      have y2 := hzf.cell 2
      have y3 := hzf.cell 3
      simp only [List.getElem?_toArray, List.getElem?_cons_zero, List.getElem?_cons_succ] at y0 y1 y2 y3
      have hls : ls.take k = ls := by rw [HKl.out, List.take_length]
      have hn2 : k = ls.length := HKl.out
      have hrd := (Rd.of_own HT2.out).kpt kz (fun i hi e => HTr.out i hi.2 e)
      rw [hls] at hrd
      have hrd2 := hrd.more (D' := fun i => w.heap.size ≤ i) (fun i hi => hi.1)
      have hval : TmV ((((wr.setCell ⟨w.heap.size + 1, 0, none⟩ (.int .i64 ep)).setCell ⟨w.heap.size + 1, 1, none⟩ (.string ss)).setCell ⟨w.heap.size + 1, 2, none⟩ (.slice At k ct)).setCell ⟨w.heap.size + 1, 3, none⟩ (.string sc)) (fun i => w.heap.size ≤ i) ⟨ep, ss, ls, sc⟩ (.agg #[.int .i64 ep, .string ss, .slice At k ct, .string sc]) := ⟨At, ct, by rw [hn2], by rw [← hn2]; exact hct1, hct2, by rw [← hn2]; exact hrd2⟩
      clear hrd hrd2 hls hn2
      refine bodyPost_ret (v := .agg #[(.int .i64 ep), (.string ss), (.slice At k ct), (.string sc)]) ?_ rfl ⟨_, rfl, hval, Kpt.trans HK.out kz (fun i e hlt => by have e' : i = w.heap.size + 1 := e; omega)⟩
      clear hval kz hzf
      generalize ((((wr.setCell ⟨w.heap.size + 1, 0, none⟩ (.int .i64 ep)).setCell ⟨w.heap.size + 1, 1, none⟩ (.string ss)).setCell ⟨w.heap.size + 1, 2, none⟩ (.slice At k ct)).setCell ⟨w.heap.size + 1, 3, none⟩ (.string sc)) = wf at y0 y1 y2 y3
      simp [results, Tryz.results31, go_sem, y0, y1, y2, y3]

set_option maxRecDepth 100000 in
set_option maxHeartbeats 2000000 in
theorem f37_any (t : Tm) (v : Value) (D : Nat → Prop) (w : World) (hv : TmV w D t v) (hl : t.typed.length ≤ 20) :
    Calls Tryz.prog 24 #[v] w fun e w' => ∃ v', e = .returned v' ∧ TmV w' (fun i => w.heap.size ≤ i) t v' ∧ Kpt Non w w' := by
  obtain ⟨i0, hi, hz, hz0, hz1⟩ := info_parts info9
  have HI := Lib.hid hi; have HZI := Lib.hid hz; have HZ0 := Lib.hid hz0; have HZ1 := Lib.hid hz1; clear hi hz hz0 hz1
  obtain ⟨A, c, rfl, hc1, hc2, hr⟩ := hv
  have HR := Lib.hid hr; clear hr
  obtain ⟨ep, ss, ls, sc⟩ := t
  simp only at hc1 HR hl ⊢
  have hp0 := ((Blk.new w 44 #[.int .i64 ep, .string ss, .slice A ls.length c, .string sc]).alloc (.cells #[.int .i64 0, .string ⟨#[]⟩, .slice none 0 0, .string ⟨#[]⟩] 36)).alloc (.cells #[.int .i64 ep, .string ss, .slice none 0 0, .string sc] 36)
  have hR0 : Blk (((w.alloc (.cells #[.int .i64 ep, .string ss, .slice A ls.length c, .string sc] 44)).alloc (.cells #[.int .i64 0, .string ⟨#[]⟩, .slice none 0 0, .string ⟨#[]⟩] 36)).alloc (.cells #[.int .i64 ep, .string ss, .slice none 0 0, .string sc] 36)) (w.heap.size + 1) 36 #[.int .i64 0, .string ⟨#[]⟩, .slice none 0 0, .string ⟨#[]⟩] := by
    have := (Blk.new (w.alloc (.cells #[.int .i64 ep, .string ss, .slice A ls.length c, .string sc] 44)) 36 #[.int .i64 0, .string ⟨#[]⟩, .slice none 0 0, .string ⟨#[]⟩]).alloc (.cells #[.int .i64 ep, .string ss, .slice none 0 0, .string sc] 36)
    simpa using this
  have hO0 : Blk (((w.alloc (.cells #[.int .i64 ep, .string ss, .slice A ls.length c, .string sc] 44)).alloc (.cells #[.int .i64 0, .string ⟨#[]⟩, .slice none 0 0, .string ⟨#[]⟩] 36)).alloc (.cells #[.int .i64 ep, .string ss, .slice none 0 0, .string sc] 36)) (w.heap.size + 1 + 1) 36 #[.int .i64 ep, .string ss, .slice none 0 0, .string sc] := by
    have := Blk.new ((w.alloc (.cells #[.int .i64 ep, .string ss, .slice A ls.length c, .string sc] 44)).alloc (.cells #[.int .i64 0, .string ⟨#[]⟩, .slice none 0 0, .string ⟨#[]⟩] 36)) 36 #[.int .i64 ep, .string ss, .slice none 0 0, .string sc]
    simpa using this
  have HP0 := Lib.hid hp0; have HR0 := Lib.hid hR0; have HO0 := Lib.hid hO0; clear hp0 hR0 hO0
  go_enter Tryz.func24, Tryz.ntmps24
  go_wp2_with fail
  go_loopw [4] (fun x4 wr => ∃ (k : Nat) (tv : Value), x4 = .int .i64 k ∧ k ≤ ls.length ∧ Hid (Blk wr (w.heap.size + 1 + 1) 36 #[.int .i64 ep, .string ss, tv, .string sc]) ∧ Hid (wr.ownsRow w.heap.size 9 1 tv k ((ls.take k).map Value.string)) ∧ Hid (Blk wr (w.heap.size + 1) 36 #[.int .i64 0, .string ⟨#[]⟩, .slice none 0 0, .string ⟨#[]⟩]) ∧ Hid (Blk wr w.heap.size 44 #[.int .i64 ep, .string ss, .slice A ls.length c, .string sc]) ∧ Hid (Kpt Non w wr)) (fun x4 _ => ls.length - (intOf x4).toNat)
  case atStart => exact ⟨0, .slice none 0 0, rfl, Nat.zero_le _, HO0, Lib.hid (World.ownsRow_nil _ _ _ _), HR0, HP0, Lib.hid (Kpt.alloc (Kpt.alloc (Kpt.alloc (Kpt.refl _ _) _) _) _)⟩
  case round =>
    obtain ⟨k, tv, rfl, hk, HO, HT, HRr, HP, HK⟩ := hrel
    have hp2 := HP.out.cell 2
    simp only [List.getElem?_toArray, List.getElem?_cons_zero, List.getElem?_cons_succ] at hp2
    by_cases h1 : k < ls.length
    · have h1' : (k : Int) < (ls.length : Int) := by omega
      have h20 : (k : Int) < 20 := by omega
      obtain ⟨ad, u, rfl, _, hu, hcell⟩ := (HR.out.kpt HK.out (fun _ _ e => e)).at_ h1
      rw [List.getElem?_map] at hu
      obtain ⟨x, hx, rfl⟩ := Option.map_eq_some_iff.1 hu
      clear hu
      have htk : ls.take (k + 1) = ls.take k ++ [x] := by rw [List.take_add_one, hx]; rfl
      have hlk : k ≤ 20 := by omega
      have HTk := Lib.hid htk; clear htk hx
      have hp2d : wr.drew.cell? ⟨w.heap.size, 2, none⟩ = some (.slice (some ad) ls.length c) := hp2
      have hcd : wr.drew.cell? (ad.add k) = some (.string x) := hcell
      have ho2 := HO.out.cell 2
      simp only [List.getElem?_toArray, List.getElem?_cons_zero, List.getElem?_cons_succ] at ho2
      have ho2d : wr.drew.cell? ⟨w.heap.size + 1 + 1, 2, none⟩ = some tv := ho2
      have ho2b : ∀ o, (wr.alloc o).cell? ⟨w.heap.size + 1 + 1, 2, none⟩ = some tv := fun o => cell_alloc_ ho2 o
      have ho2a : ∀ o, (wr.drew.alloc o).cell? ⟨w.heap.size + 1 + 1, 2, none⟩ = some tv := fun o => cell_alloc_ ho2d o
      have hto : ∀ g, tv.ownBlock = some g → g ≠ w.heap.size + 1 + 1 := fun g hg e => Blk.own_ne HO.out HT.out (by decide) (by rw [hg]; exact congrArg some e)
      have htr : ∀ g, tv.ownBlock = some g → g ≠ w.heap.size + 1 := fun g hg e => Blk.own_ne HRr.out HT.out (by decide) (by rw [hg]; exact congrArg some e)
      have htp : ∀ g, tv.ownBlock = some g → g ≠ w.heap.size := fun g hg e => Blk.own_ne HP.out HT.out (by decide) (by rw [hg]; exact congrArg some e)
      have HTo := Lib.hid hto; have HTr := Lib.hid htr; have HTp := Lib.hid htp; clear hto htr htp
      have hsw := HK.out.size
      go_wp2_with fail
      go_upto_region 5 with fail
      go_region_law
        (first
          | (refine step_append_lies _ (by rfl) _ _ _ (by rfl) w.heap.size 9 i0 _ 1 16 Tryz.underlying22 HI.out HZI.out HZ0.out HZ1.out (by rfl) (by omega) tv _ _ (by rfl) ((own_kpt HT.out (Kpt.drew (Kpt.refl Non _)) (fun _ _ e => e)).alloc _) ⟨wr.heap.size, 0, none⟩ 1 1 [.string x] (by rfl) (by rfl) (cell_one_new _ _ _) (by simp [Value.oneCell']) (by omega) (by simp only [maxLen]; omega) (by omega) (by simp; omega) _ rfl ?_; intro g cap w7 hown hgrow hat hlt; have hb7 := ((HO.out.drew.alloc _).grown hgrow (fun e => HTo.out _ e.symm rfl)); have c7 := hb7.cell 2; have f7 := hb7.frozen 2; simp only [List.getElem?_toArray, List.getElem?_cons_zero, List.getElem?_cons_succ] at c7; have HB7 := Lib.hid hb7; have HO7 := Lib.hid hown; have HG7 := Lib.hid hgrow; clear hb7 hown hgrow hat)
          | fail)
      all_goals go_wp2_with fail
      all_goals (
        have kk : Kpt Non w wr.drew := Kpt.drew HK.out
        have k7 : Kpt Non w (w7.setCell ⟨w.heap.size + 1 + 1, 2, none⟩ (.slice (some ⟨g, 0, none⟩) (k + 1) cap)) := Kpt.setCell (Kpt.trans (Kpt.alloc kk _) (Kpt.grown (Kpt.refl (fun i => tv.ownBlock = some i) _) HG7.out (fun _ e _ => e)) (fun i e hlt => by have := (HT.out.lt i e).1; omega)) (p := ⟨w.heap.size + 1 + 1, 2, none⟩) (fun h => absurd h (by simp; omega)) _
        have hr7 := ((HRr.out.drew.alloc (.cells #[.string x] 9)).grown HG7.out (fun e => HTr.out _ e.symm rfl)).far (p := ⟨w.heap.size + 1 + 1, 2, none⟩) (by simp) (.slice (some ⟨g, 0, none⟩) (k + 1) cap)
        have hp7 := ((HP.out.drew.alloc (.cells #[.string x] 9)).grown HG7.out (fun e => HTp.out _ e.symm rfl)).far (p := ⟨w.heap.size + 1 + 1, 2, none⟩) (by simp; omega) (.slice (some ⟨g, 0, none⟩) (k + 1) cap)
        have ho7 := own_kpt HO7.out ((Kpt.refl (One (w.heap.size + 1 + 1)) w7).setOne 2 (.slice (some ⟨g, 0, none⟩) (k + 1) cap)) (fun g' hg' e => Blk.own_ne HB7.out HO7.out (by decide) (by rw [hg']; exact congrArg some e))
        refine ⟨⟨k + 1, _, by go_num, by omega, Lib.hid (HB7.out.set_ 2 _), Lib.hid ?_, Lib.hid hr7, Lib.hid hp7, Lib.hid k7⟩, by simp [intOf]; omega⟩
        rw [HTk.out]
        simpa using ho7)
    · have h1' : ¬ (k : Int) < (ls.length : Int) := by omega
      have hkl : k = ls.length := by omega
      obtain ⟨At, ct, rfl, hct1, hct2⟩ := own_slice HT.out
      have d0 := HO.out.cell 0
      have d1 := HO.out.cell 1
      have d2 := HO.out.cell 2
      have d3 := HO.out.cell 3
      have r0 := HRr.out.cell 0
      have r1 := HRr.out.cell 1
      have r2 := HRr.out.cell 2
      have r3 := HRr.out.cell 3
      have g0 := HRr.out.frozen 0
      have g1 := HRr.out.frozen 1
      have g2 := HRr.out.frozen 2
      have g3 := HRr.out.frozen 3
      simp only [List.getElem?_toArray, List.getElem?_cons_zero, List.getElem?_cons_succ] at d0 d1 d2 d3 r0 r1 r2 r3
      have HKl := Lib.hid hkl; clear hkl
      have htr : ∀ g, (Value.slice At k ct).ownBlock = some g → g ≠ w.heap.size + 1 := fun g hg e => Blk.own_ne HRr.out HT.out (by decide) (by rw [hg]; exact congrArg some e)
      have HTr := Lib.hid htr; clear htr
      have HT2 := HT
      go_wp2_with fail
      have hzf : Blk ((((wr.setCell ⟨w.heap.size + 1, 0, none⟩ (.int .i64 ep)).setCell ⟨w.heap.size + 1, 1, none⟩ (.string ss)).setCell ⟨w.heap.size + 1, 2, none⟩ (.slice At k ct)).setCell ⟨w.heap.size + 1, 3, none⟩ (.string sc)) (w.heap.size + 1) 36 #[(.int .i64 ep), (.string ss), (.slice At k ct), (.string sc)] := (((HRr.out.set_ 0 _).set_ 1 _).set_ 2 _).set_ 3 _
      have kz : Kpt (One (w.heap.size + 1)) wr ((((wr.setCell ⟨w.heap.size + 1, 0, none⟩ (.int .i64 ep)).setCell ⟨w.heap.size + 1, 1, none⟩ (.string ss)).setCell ⟨w.heap.size + 1, 2, none⟩ (.slice At k ct)).setCell ⟨w.heap.size + 1, 3, none⟩ (.string sc)) := ((((Kpt.refl (One (w.heap.size + 1)) wr).setOne 0 _).setOne 1 _).setOne 2 _).setOne 3 _
      have y0 := hzf.cell 0
      have y1 := hzf.cell 1
      have y2 := hzf.cell 2
      have y3 := hzf.cell 3
      simp only [List.getElem?_toArray, List.getElem?_cons_zero, List.getElem?_cons_succ] at y0 y1 y2 y3
      have hls : ls.take k = ls := by rw [HKl.out, List.take_length]
      have hn2 : k = ls.length := HKl.out
      have hrd := (Rd.of_own HT2.out).kpt kz (fun i hi e => HTr.out i hi.2 e)
      rw [hls] at hrd
      have hrd2 := hrd.more (D' := fun i => w.heap.size ≤ i) (fun i hi => hi.1)
      have hval : TmV ((((wr.setCell ⟨w.heap.size + 1, 0, none⟩ (.int .i64 ep)).setCell ⟨w.heap.size + 1, 1, none⟩ (.string ss)).setCell ⟨w.heap.size + 1, 2, none⟩ (.slice At k ct)).setCell ⟨w.heap.size + 1, 3, none⟩ (.string sc)) (fun i => w.heap.size ≤ i) ⟨ep, ss, ls, sc⟩ (.agg #[.int .i64 ep, .string ss, .slice At k ct, .string sc]) := ⟨At, ct, by rw [hn2], by rw [← hn2]; exact hct1, hct2, by rw [← hn2]; exact hrd2⟩
      clear hrd hrd2 hls hn2
      refine bodyPost_ret (v := .agg #[(.int .i64 ep), (.string ss), (.slice At k ct), (.string sc)]) ?_ rfl ⟨_, rfl, hval, Kpt.trans HK.out kz (fun i e hlt => by have e' : i = w.heap.size + 1 := e; omega)⟩
      clear hval kz hzf
      generalize ((((wr.setCell ⟨w.heap.size + 1, 0, none⟩ (.int .i64 ep)).setCell ⟨w.heap.size + 1, 1, none⟩ (.string ss)).setCell ⟨w.heap.size + 1, 2, none⟩ (.slice At k ct)).setCell ⟨w.heap.size + 1, 3, none⟩ (.string sc)) = wf at y0 y1 y2 y3
      simp [results, Tryz.results24, go_sem, y0, y1, y2, y3]
end Go.Proofs.YtkpmabknjdgkmaaGreatDoor
