/- The walks of the reference's In, Begin and End. No condition but that sizes fit the machine. The walk of the reference's Show. No condition but that sizes fit the machine. The walk of the reference's Within. No condition but that sizes fit the machine. The walk of the reference's Type. No condition but that sizes fit the machine. The walk of the reference's ReadLine. No condition but that sizes fit the machine. -/
import Derived.Test.YtkpmabknjdgkmaaGreatDoorRef3
import Derived.Test.YtkpmabknjdgkmaaGreatDoorTerm6
import Derived.Test.YtkpmabknjdgkmaaGreatDoorRef1
import Derived.Deep.RegionHeld3
import Derived.Test.YtkpmabknjdgkmaaGreatDoorLaw6
import Derived.Test.YtkpmabknjdgkmaaGreatDoorPlay1
import Derived.Test.YtkpmabknjdgkmaaGreatDoorTerm11
namespace Go.Proofs.YtkpmabknjdgkmaaGreatDoor
open Go.RowKit

def inRef (t : Tm) (epoch : Int) : Tm := if t.epoch = epoch then t else ⟨epoch, es, [], es⟩

set_option maxRecDepth 100000 in
set_option maxHeartbeats 1000000 in
theorem f72_any (t : Tm) (epoch : Int) (v : Value) (D : Nat → Prop) (w : World) (hv : TmV w D t v) :
    Calls Tryz.prog 37 #[v, .int .i64 epoch] w fun e w' => ∃ v', e = .returned v' ∧ TmV w' (fun i => D i ∨ w.heap.size ≤ i) (inRef t epoch) v' ∧ Kpt Non w w' := by
  have hI : inRef t epoch = inRef t epoch := rfl
  conv at hI => rhs; unfold inRef
  generalize inRef t epoch = X at hI ⊢
  obtain ⟨A, c, rfl, hc1, hc2, hr⟩ := hv
  have HR := Lib.hid hr; clear hr
  obtain ⟨ep, ss, ls, sc⟩ := t
  simp only at hc1 HR ⊢
  have hR0 : Blk ((w.alloc (.cells #[.int .i64 ep, .string ss, .slice A ls.length c, .string sc] 44)).alloc (.cells #[.int .i64 0, .string ⟨#[]⟩, .slice none 0 0, .string ⟨#[]⟩] 44)) (w.heap.size + 1) 44 #[.int .i64 0, .string ⟨#[]⟩, .slice none 0 0, .string ⟨#[]⟩] := by
    have := Blk.new (w.alloc (.cells #[.int .i64 ep, .string ss, .slice A ls.length c, .string sc] 44)) 44 #[.int .i64 0, .string ⟨#[]⟩, .slice none 0 0, .string ⟨#[]⟩]
    simpa using this
  have hp0 : Blk ((w.alloc (.cells #[.int .i64 ep, .string ss, .slice A ls.length c, .string sc] 44)).alloc (.cells #[.int .i64 0, .string ⟨#[]⟩, .slice none 0 0, .string ⟨#[]⟩] 44)) w.heap.size 44 #[.int .i64 ep, .string ss, .slice A ls.length c, .string sc] := (Blk.new w 44 #[.int .i64 ep, .string ss, .slice A ls.length c, .string sc]).alloc _
  have k0 : Kpt Non w ((w.alloc (.cells #[.int .i64 ep, .string ss, .slice A ls.length c, .string sc] 44)).alloc (.cells #[.int .i64 0, .string ⟨#[]⟩, .slice none 0 0, .string ⟨#[]⟩] 44)) := Kpt.alloc (Kpt.alloc (Kpt.refl _ _) _) _
  have HR0 := Lib.hid hR0; have HP0 := Lib.hid hp0; have K0 := Lib.hid k0; clear hR0 hp0 k0
  by_cases h : ep = epoch
  · have h' : (ep != epoch) = false := by rw [bne_eq_false_iff_eq]; exact h
    rw [if_pos h] at hI
    subst hI
    have H := Lib.hid h; clear h
    go_enter Tryz.func37, Tryz.ntmps37
    go_wp2_with fail
    have hzf : Blk ((w.alloc (.cells #[.int .i64 ep, .string ss, .slice A ls.length c, .string sc] 44)).alloc (.cells #[(.int .i64 ep), (.string ss), (.slice A ls.length c), (.string sc)] 44)) (w.heap.size + 1) 44 #[(.int .i64 ep), (.string ss), (.slice A ls.length c), (.string sc)] := by have := Blk.new (w.alloc (.cells #[.int .i64 ep, .string ss, .slice A ls.length c, .string sc] 44)) 44 #[(.int .i64 ep), (.string ss), (.slice A ls.length c), (.string sc)]; simpa using this
    have kf : Kpt Non w ((w.alloc (.cells #[.int .i64 ep, .string ss, .slice A ls.length c, .string sc] 44)).alloc (.cells #[(.int .i64 ep), (.string ss), (.slice A ls.length c), (.string sc)] 44)) := Kpt.alloc (Kpt.alloc (Kpt.refl _ _) _) _
    have y0 := hzf.cell 0
    have y1 := hzf.cell 1
    have y2 := hzf.cell 2
    have y3 := hzf.cell 3
    simp only [List.getElem?_toArray, List.getElem?_cons_zero, List.getElem?_cons_succ] at y0 y1 y2 y3
    refine bodyPost_ret (v := .agg #[(.int .i64 ep), (.string ss), (.slice A ls.length c), (.string sc)]) ?_ rfl ⟨_, rfl, ⟨A, c, rfl, hc1, hc2, (HR.out.kpt kf (fun _ _ e => e)).more (fun i hi => .inl hi)⟩, kf⟩
    clear kf hzf
    generalize ((w.alloc (.cells #[.int .i64 ep, .string ss, .slice A ls.length c, .string sc] 44)).alloc (.cells #[(.int .i64 ep), (.string ss), (.slice A ls.length c), (.string sc)] 44)) = wf at y0 y1 y2 y3
    simp [results, Tryz.results37, go_sem, y0, y1, y2, y3]
  · have h' : (ep != epoch) = true := by rw [bne_iff_ne]; exact h
    rw [if_neg h] at hI
    subst hI
    have H := Lib.hid h; clear h
    go_enter Tryz.func37, Tryz.ntmps37
    go_wp2_with fail
    have hzf : Blk ((w.alloc (.cells #[.int .i64 ep, .string ss, .slice A ls.length c, .string sc] 44)).alloc (.cells #[(.int .i64 epoch), (.string ⟨#[]⟩), (.slice none 0 0), (.string ⟨#[]⟩)] 44)) (w.heap.size + 1) 44 #[(.int .i64 epoch), (.string ⟨#[]⟩), (.slice none 0 0), (.string ⟨#[]⟩)] := by have := Blk.new (w.alloc (.cells #[.int .i64 ep, .string ss, .slice A ls.length c, .string sc] 44)) 44 #[(.int .i64 epoch), (.string ⟨#[]⟩), (.slice none 0 0), (.string ⟨#[]⟩)]; simpa using this
    have kf : Kpt Non w ((w.alloc (.cells #[.int .i64 ep, .string ss, .slice A ls.length c, .string sc] 44)).alloc (.cells #[(.int .i64 epoch), (.string ⟨#[]⟩), (.slice none 0 0), (.string ⟨#[]⟩)] 44)) := Kpt.alloc (Kpt.alloc (Kpt.refl _ _) _) _
    have y0 := hzf.cell 0
    have y1 := hzf.cell 1
    have y2 := hzf.cell 2
    have y3 := hzf.cell 3
    simp only [List.getElem?_toArray, List.getElem?_cons_zero, List.getElem?_cons_succ] at y0 y1 y2 y3
    refine bodyPost_ret (v := .agg #[(.int .i64 epoch), (.string ⟨#[]⟩), (.slice none 0 0), (.string ⟨#[]⟩)]) ?_ rfl ⟨_, rfl, ⟨none, 0, rfl, Nat.le_refl _, by simp [maxLen], Rd.nil _ _ _ _⟩, kf⟩
    clear kf hzf
    generalize ((w.alloc (.cells #[.int .i64 ep, .string ss, .slice A ls.length c, .string sc] 44)).alloc (.cells #[(.int .i64 epoch), (.string ⟨#[]⟩), (.slice none 0 0), (.string ⟨#[]⟩)] 44)) = wf at y0 y1 y2 y3
    simp [results, Tryz.results37, go_sem, y0, y1, y2, y3]

set_option maxRecDepth 100000 in
set_option maxHeartbeats 1000000 in
theorem f176_any (t : Tm) (who : ByteArray) (v : Value) (D : Nat → Prop) (w : World) (hv : TmV w D t v) (hw : who.size ≤ 140737488351232) :
    Calls Tryz.prog 92 #[v, .string who] w fun e w' => ∃ v', e = .returned (.tuple #[v', .int .i64 (beginT who t).2]) ∧ TmV w' (fun i => D i ∨ w.heap.size ≤ i) (beginT who t).1 v' ∧ Kpt Non w w' := by
  have hI : beginT who t = beginT who t := rfl
  conv at hI => rhs; unfold beginT
  generalize beginT who t = X at hI ⊢
  obtain ⟨A, c, rfl, hc1, hc2, hr⟩ := hv
  have HR := Lib.hid hr; clear hr
  obtain ⟨ep, ss, ls, sc⟩ := t
  simp only at hc1 HR ⊢
  have hR0 : Blk ((w.alloc (.cells #[.int .i64 ep, .string ss, .slice A ls.length c, .string sc] 44)).alloc (.cells #[.int .i64 0, .string ⟨#[]⟩, .slice none 0 0, .string ⟨#[]⟩] 44)) (w.heap.size + 1) 44 #[.int .i64 0, .string ⟨#[]⟩, .slice none 0 0, .string ⟨#[]⟩] := by
    have := Blk.new (w.alloc (.cells #[.int .i64 ep, .string ss, .slice A ls.length c, .string sc] 44)) 44 #[.int .i64 0, .string ⟨#[]⟩, .slice none 0 0, .string ⟨#[]⟩]
    simpa using this
  have hp0 : Blk ((w.alloc (.cells #[.int .i64 ep, .string ss, .slice A ls.length c, .string sc] 44)).alloc (.cells #[.int .i64 0, .string ⟨#[]⟩, .slice none 0 0, .string ⟨#[]⟩] 44)) w.heap.size 44 #[.int .i64 ep, .string ss, .slice A ls.length c, .string sc] := (Blk.new w 44 #[.int .i64 ep, .string ss, .slice A ls.length c, .string sc]).alloc _
  have k0 : Kpt Non w ((w.alloc (.cells #[.int .i64 ep, .string ss, .slice A ls.length c, .string sc] 44)).alloc (.cells #[.int .i64 0, .string ⟨#[]⟩, .slice none 0 0, .string ⟨#[]⟩] 44)) := Kpt.alloc (Kpt.alloc (Kpt.refl _ _) _) _
  have HR0 := Lib.hid hR0; have HP0 := Lib.hid hp0; have K0 := Lib.hid k0; clear hR0 hp0 k0
  have E115 := f115_any who hw ((w.alloc (.cells #[.int .i64 ep, .string ss, .slice A ls.length c, .string sc] 44)).alloc (.cells #[.int .i64 0, .string ⟨#[]⟩, .slice none 0 0, .string ⟨#[]⟩] 44))
  by_cases h0 : who.size = 0
  · have h0' := isEmpty_true h0
    rw [if_neg (fun h => h.2 h0)] at hI
    subst hI
    have H := Lib.hid h0; clear h0 E115
    go_enter Tryz.func92, Tryz.ntmps92
    go_wp2_with fail
    have hzf : Blk ((w.alloc (.cells #[.int .i64 ep, .string ss, .slice A ls.length c, .string sc] 44)).alloc (.cells #[(.int .i64 ep), (.string ss), (.slice A ls.length c), (.string sc)] 44)) (w.heap.size + 1) 44 #[(.int .i64 ep), (.string ss), (.slice A ls.length c), (.string sc)] := by have := Blk.new (w.alloc (.cells #[.int .i64 ep, .string ss, .slice A ls.length c, .string sc] 44)) 44 #[(.int .i64 ep), (.string ss), (.slice A ls.length c), (.string sc)]; simpa using this
    have kf : Kpt Non w ((w.alloc (.cells #[.int .i64 ep, .string ss, .slice A ls.length c, .string sc] 44)).alloc (.cells #[(.int .i64 ep), (.string ss), (.slice A ls.length c), (.string sc)] 44)) := Kpt.alloc (Kpt.alloc (Kpt.refl _ _) _) _
    have y0 := hzf.cell 0
    have y1 := hzf.cell 1
    have y2 := hzf.cell 2
    have y3 := hzf.cell 3
    simp only [List.getElem?_toArray, List.getElem?_cons_zero, List.getElem?_cons_succ] at y0 y1 y2 y3
    refine bodyPost_ret (v := .tuple #[.agg #[(.int .i64 ep), (.string ss), (.slice A ls.length c), (.string sc)], .int .i64 12]) ?_ rfl ⟨_, rfl, ⟨A, c, rfl, hc1, hc2, (HR.out.kpt kf (fun _ _ e => e)).more (fun i hi => .inl hi)⟩, kf⟩
    clear kf hzf
    generalize ((w.alloc (.cells #[.int .i64 ep, .string ss, .slice A ls.length c, .string sc] 44)).alloc (.cells #[(.int .i64 ep), (.string ss), (.slice A ls.length c), (.string sc)] 44)) = wf at y0 y1 y2 y3
    simp [results, Tryz.results92, go_sem, y0, y1, y2, y3]
  · have h0' := isEmpty_false h0
    by_cases hv : validB (bytesOf who) = true
    · rw [if_pos ⟨hv, h0⟩] at hI
      rw [show validB who.data.toList = true from hv] at E115
      have H115 := Lib.hid E115; have H := Lib.hid h0; have HV := Lib.hid hv; clear E115 h0 hv
      go_enter Tryz.func92, Tryz.ntmps92
      go_wp2_with fail
      refine H115.out.mono ?_
      rintro e w1 ⟨rfl, k1⟩
      have hR1 := HR0.out.kpt k1 (fun e => e)
      have hp1 := HP0.out.kpt k1 (fun e => e)
      have kk := Kpt.trans K0.out k1 (fun _ e _ => e)
      have p0 := hp1.cell 0
      have p1 := hp1.cell 1
      have p2 := hp1.cell 2
      have p3 := hp1.cell 3
      have r0 := hR1.cell 0
      have r1 := hR1.cell 1
      have r2 := hR1.cell 2
      have r3 := hR1.cell 3
      have g0 := hR1.frozen 0
      have g1 := hR1.frozen 1
      have g2 := hR1.frozen 2
      have g3 := hR1.frozen 3
      simp only [List.getElem?_toArray, List.getElem?_cons_zero, List.getElem?_cons_succ] at p0 p1 p2 p3 r0 r1 r2 r3
      have HR1 := Lib.hid hR1; have HK := Lib.hid kk; clear hR1 hp1 kk k1
      by_cases h1 : ss.size = 0
      · have h1' := isEmpty_true h1
        rw [if_neg (by simp [h1])] at hI
        subst hI
        have H1 := Lib.hid h1; clear h1
        go_wp2_with fail
        have hzf : Blk ((((w1.setCell ⟨w.heap.size + 1, 0, none⟩ (.int .i64 ep)).setCell ⟨w.heap.size + 1, 1, none⟩ (.string who)).setCell ⟨w.heap.size + 1, 2, none⟩ (.slice none 0 0)).setCell ⟨w.heap.size + 1, 3, none⟩ (.string ⟨#[]⟩)) (w.heap.size + 1) 44 #[(.int .i64 ep), (.string who), (.slice none 0 0), (.string ⟨#[]⟩)] := (((HR1.out.set_ 0 _).set_ 1 _).set_ 2 _).set_ 3 _
        have kz : Kpt (One (w.heap.size + 1)) w1 ((((w1.setCell ⟨w.heap.size + 1, 0, none⟩ (.int .i64 ep)).setCell ⟨w.heap.size + 1, 1, none⟩ (.string who)).setCell ⟨w.heap.size + 1, 2, none⟩ (.slice none 0 0)).setCell ⟨w.heap.size + 1, 3, none⟩ (.string ⟨#[]⟩)) := ((((Kpt.refl (One (w.heap.size + 1)) w1).setOne 0 _).setOne 1 _).setOne 2 _).setOne 3 _
        have kf : Kpt Non w ((((w1.setCell ⟨w.heap.size + 1, 0, none⟩ (.int .i64 ep)).setCell ⟨w.heap.size + 1, 1, none⟩ (.string who)).setCell ⟨w.heap.size + 1, 2, none⟩ (.slice none 0 0)).setCell ⟨w.heap.size + 1, 3, none⟩ (.string ⟨#[]⟩)) := Kpt.trans HK.out kz (fun i e hlt => by have e' : i = w.heap.size + 1 := e; omega)
        have y0 := hzf.cell 0
        have y1 := hzf.cell 1
        have y2 := hzf.cell 2
        have y3 := hzf.cell 3
        simp only [List.getElem?_toArray, List.getElem?_cons_zero, List.getElem?_cons_succ] at y0 y1 y2 y3
        refine bodyPost_ret (v := .tuple #[.agg #[(.int .i64 ep), (.string who), (.slice none 0 0), (.string ⟨#[]⟩)], .int .i64 0]) ?_ rfl ⟨_, rfl, ⟨none, 0, rfl, Nat.le_refl _, by simp [maxLen], Rd.nil _ _ _ _⟩, kf⟩
        clear kf kz hzf
        generalize ((((w1.setCell ⟨w.heap.size + 1, 0, none⟩ (.int .i64 ep)).setCell ⟨w.heap.size + 1, 1, none⟩ (.string who)).setCell ⟨w.heap.size + 1, 2, none⟩ (.slice none 0 0)).setCell ⟨w.heap.size + 1, 3, none⟩ (.string ⟨#[]⟩)) = wf at y0 y1 y2 y3
        simp [results, Tryz.results92, go_sem, y0, y1, y2, y3]
      · have h1' := isEmpty_false h1
        rw [if_pos h1] at hI
        subst hI
        have H1 := Lib.hid h1; clear h1
        go_wp2_with fail
        have hzf : Blk ((((w1.setCell ⟨w.heap.size + 1, 0, none⟩ (.int .i64 ep)).setCell ⟨w.heap.size + 1, 1, none⟩ (.string ss)).setCell ⟨w.heap.size + 1, 2, none⟩ (.slice A ls.length c)).setCell ⟨w.heap.size + 1, 3, none⟩ (.string sc)) (w.heap.size + 1) 44 #[(.int .i64 ep), (.string ss), (.slice A ls.length c), (.string sc)] := (((HR1.out.set_ 0 _).set_ 1 _).set_ 2 _).set_ 3 _
        have kz : Kpt (One (w.heap.size + 1)) w1 ((((w1.setCell ⟨w.heap.size + 1, 0, none⟩ (.int .i64 ep)).setCell ⟨w.heap.size + 1, 1, none⟩ (.string ss)).setCell ⟨w.heap.size + 1, 2, none⟩ (.slice A ls.length c)).setCell ⟨w.heap.size + 1, 3, none⟩ (.string sc)) := ((((Kpt.refl (One (w.heap.size + 1)) w1).setOne 0 _).setOne 1 _).setOne 2 _).setOne 3 _
        have kf : Kpt Non w ((((w1.setCell ⟨w.heap.size + 1, 0, none⟩ (.int .i64 ep)).setCell ⟨w.heap.size + 1, 1, none⟩ (.string ss)).setCell ⟨w.heap.size + 1, 2, none⟩ (.slice A ls.length c)).setCell ⟨w.heap.size + 1, 3, none⟩ (.string sc)) := Kpt.trans HK.out kz (fun i e hlt => by have e' : i = w.heap.size + 1 := e; omega)
        have y0 := hzf.cell 0
        have y1 := hzf.cell 1
        have y2 := hzf.cell 2
        have y3 := hzf.cell 3
        simp only [List.getElem?_toArray, List.getElem?_cons_zero, List.getElem?_cons_succ] at y0 y1 y2 y3
        refine bodyPost_ret (v := .tuple #[.agg #[(.int .i64 ep), (.string ss), (.slice A ls.length c), (.string sc)], .int .i64 19]) ?_ rfl ⟨_, rfl, ⟨A, c, rfl, hc1, hc2, (HR.out.kpt kf (fun _ _ e => e)).more (fun i hi => .inl hi)⟩, kf⟩
        clear kf kz hzf
        generalize ((((w1.setCell ⟨w.heap.size + 1, 0, none⟩ (.int .i64 ep)).setCell ⟨w.heap.size + 1, 1, none⟩ (.string ss)).setCell ⟨w.heap.size + 1, 2, none⟩ (.slice A ls.length c)).setCell ⟨w.heap.size + 1, 3, none⟩ (.string sc)) = wf at y0 y1 y2 y3
        simp [results, Tryz.results92, go_sem, y0, y1, y2, y3]
    · rw [if_neg (fun h => hv h.1)] at hI
      subst hI
      rw [show validB who.data.toList = false by simpa [bytesOf] using hv] at E115
      have H115 := Lib.hid E115; have H := Lib.hid h0; have HV := Lib.hid hv; clear E115 h0 hv
      go_enter Tryz.func92, Tryz.ntmps92
      go_wp2_with fail
      refine H115.out.mono ?_
      rintro e w1 ⟨rfl, k1⟩
      have hR1 := HR0.out.kpt k1 (fun e => e)
      have hp1 := HP0.out.kpt k1 (fun e => e)
      have kk := Kpt.trans K0.out k1 (fun _ e _ => e)
      have p0 := hp1.cell 0
      have p1 := hp1.cell 1
      have p2 := hp1.cell 2
      have p3 := hp1.cell 3
      have r0 := hR1.cell 0
      have r1 := hR1.cell 1
      have r2 := hR1.cell 2
      have r3 := hR1.cell 3
      have g0 := hR1.frozen 0
      have g1 := hR1.frozen 1
      have g2 := hR1.frozen 2
      have g3 := hR1.frozen 3
      simp only [List.getElem?_toArray, List.getElem?_cons_zero, List.getElem?_cons_succ] at p0 p1 p2 p3 r0 r1 r2 r3
      have HR1 := Lib.hid hR1; have HK := Lib.hid kk; clear hR1 hp1 kk k1
      go_wp2_with fail
      have hzf : Blk ((((w1.setCell ⟨w.heap.size + 1, 0, none⟩ (.int .i64 ep)).setCell ⟨w.heap.size + 1, 1, none⟩ (.string ss)).setCell ⟨w.heap.size + 1, 2, none⟩ (.slice A ls.length c)).setCell ⟨w.heap.size + 1, 3, none⟩ (.string sc)) (w.heap.size + 1) 44 #[(.int .i64 ep), (.string ss), (.slice A ls.length c), (.string sc)] := (((HR1.out.set_ 0 _).set_ 1 _).set_ 2 _).set_ 3 _
      have kz : Kpt (One (w.heap.size + 1)) w1 ((((w1.setCell ⟨w.heap.size + 1, 0, none⟩ (.int .i64 ep)).setCell ⟨w.heap.size + 1, 1, none⟩ (.string ss)).setCell ⟨w.heap.size + 1, 2, none⟩ (.slice A ls.length c)).setCell ⟨w.heap.size + 1, 3, none⟩ (.string sc)) := ((((Kpt.refl (One (w.heap.size + 1)) w1).setOne 0 _).setOne 1 _).setOne 2 _).setOne 3 _
      have kf : Kpt Non w ((((w1.setCell ⟨w.heap.size + 1, 0, none⟩ (.int .i64 ep)).setCell ⟨w.heap.size + 1, 1, none⟩ (.string ss)).setCell ⟨w.heap.size + 1, 2, none⟩ (.slice A ls.length c)).setCell ⟨w.heap.size + 1, 3, none⟩ (.string sc)) := Kpt.trans HK.out kz (fun i e hlt => by have e' : i = w.heap.size + 1 := e; omega)
      have y0 := hzf.cell 0
      have y1 := hzf.cell 1
      have y2 := hzf.cell 2
      have y3 := hzf.cell 3
      simp only [List.getElem?_toArray, List.getElem?_cons_zero, List.getElem?_cons_succ] at y0 y1 y2 y3
      refine bodyPost_ret (v := .tuple #[.agg #[(.int .i64 ep), (.string ss), (.slice A ls.length c), (.string sc)], .int .i64 12]) ?_ rfl ⟨_, rfl, ⟨A, c, rfl, hc1, hc2, (HR.out.kpt kf (fun _ _ e => e)).more (fun i hi => .inl hi)⟩, kf⟩
      clear kf kz hzf
      generalize ((((w1.setCell ⟨w.heap.size + 1, 0, none⟩ (.int .i64 ep)).setCell ⟨w.heap.size + 1, 1, none⟩ (.string ss)).setCell ⟨w.heap.size + 1, 2, none⟩ (.slice A ls.length c)).setCell ⟨w.heap.size + 1, 3, none⟩ (.string sc)) = wf at y0 y1 y2 y3
      simp [results, Tryz.results92, go_sem, y0, y1, y2, y3]

set_option maxRecDepth 100000 in
set_option maxHeartbeats 1000000 in
theorem f177_any (t : Tm) (who : ByteArray) (v : Value) (D : Nat → Prop) (w : World) (hv : TmV w D t v) :
    Calls Tryz.prog 93 #[v, .string who] w fun e w' => ∃ v', e = .returned (.tuple #[v', .int .i64 (endT who t).2]) ∧ TmV w' (fun i => D i ∨ w.heap.size ≤ i) (endT who t).1 v' ∧ Kpt Non w w' := by
  have hI : endT who t = endT who t := rfl
  conv at hI => rhs; unfold endT
  generalize endT who t = X at hI ⊢
  obtain ⟨A, c, rfl, hc1, hc2, hr⟩ := hv
  have HR := Lib.hid hr; clear hr
  obtain ⟨ep, ss, ls, sc⟩ := t
  simp only at hc1 HR ⊢
  have hR0 : Blk ((w.alloc (.cells #[.int .i64 ep, .string ss, .slice A ls.length c, .string sc] 44)).alloc (.cells #[.int .i64 0, .string ⟨#[]⟩, .slice none 0 0, .string ⟨#[]⟩] 44)) (w.heap.size + 1) 44 #[.int .i64 0, .string ⟨#[]⟩, .slice none 0 0, .string ⟨#[]⟩] := by
    have := Blk.new (w.alloc (.cells #[.int .i64 ep, .string ss, .slice A ls.length c, .string sc] 44)) 44 #[.int .i64 0, .string ⟨#[]⟩, .slice none 0 0, .string ⟨#[]⟩]
    simpa using this
  have hp0 : Blk ((w.alloc (.cells #[.int .i64 ep, .string ss, .slice A ls.length c, .string sc] 44)).alloc (.cells #[.int .i64 0, .string ⟨#[]⟩, .slice none 0 0, .string ⟨#[]⟩] 44)) w.heap.size 44 #[.int .i64 ep, .string ss, .slice A ls.length c, .string sc] := (Blk.new w 44 #[.int .i64 ep, .string ss, .slice A ls.length c, .string sc]).alloc _
  have k0 : Kpt Non w ((w.alloc (.cells #[.int .i64 ep, .string ss, .slice A ls.length c, .string sc] 44)).alloc (.cells #[.int .i64 0, .string ⟨#[]⟩, .slice none 0 0, .string ⟨#[]⟩] 44)) := Kpt.alloc (Kpt.alloc (Kpt.refl _ _) _) _
  have HR0 := Lib.hid hR0; have HP0 := Lib.hid hp0; have K0 := Lib.hid k0; clear hR0 hp0 k0
  by_cases h0 : who.size = 0
  · have h0' := isEmpty_true h0
    rw [if_neg (fun h => h.1 h0)] at hI
    subst hI
    have H := Lib.hid h0; clear h0
    go_enter Tryz.func93, Tryz.ntmps93
    go_wp2_with fail
    have hzf : Blk ((w.alloc (.cells #[.int .i64 ep, .string ss, .slice A ls.length c, .string sc] 44)).alloc (.cells #[(.int .i64 ep), (.string ss), (.slice A ls.length c), (.string sc)] 44)) (w.heap.size + 1) 44 #[(.int .i64 ep), (.string ss), (.slice A ls.length c), (.string sc)] := by have := Blk.new (w.alloc (.cells #[.int .i64 ep, .string ss, .slice A ls.length c, .string sc] 44)) 44 #[(.int .i64 ep), (.string ss), (.slice A ls.length c), (.string sc)]; simpa using this
    have kf : Kpt Non w ((w.alloc (.cells #[.int .i64 ep, .string ss, .slice A ls.length c, .string sc] 44)).alloc (.cells #[(.int .i64 ep), (.string ss), (.slice A ls.length c), (.string sc)] 44)) := Kpt.alloc (Kpt.alloc (Kpt.refl _ _) _) _
    have y0 := hzf.cell 0
    have y1 := hzf.cell 1
    have y2 := hzf.cell 2
    have y3 := hzf.cell 3
    simp only [List.getElem?_toArray, List.getElem?_cons_zero, List.getElem?_cons_succ] at y0 y1 y2 y3
    refine bodyPost_ret (v := .tuple #[.agg #[(.int .i64 ep), (.string ss), (.slice A ls.length c), (.string sc)], .int .i64 10]) ?_ rfl ⟨_, rfl, ⟨A, c, rfl, hc1, hc2, (HR.out.kpt kf (fun _ _ e => e)).more (fun i hi => .inl hi)⟩, kf⟩
    clear kf hzf
    generalize ((w.alloc (.cells #[.int .i64 ep, .string ss, .slice A ls.length c, .string sc] 44)).alloc (.cells #[(.int .i64 ep), (.string ss), (.slice A ls.length c), (.string sc)] 44)) = wf at y0 y1 y2 y3
    simp [results, Tryz.results93, go_sem, y0, y1, y2, y3]
  · have h0' := isEmpty_false h0
    by_cases h1 : who = ss
    · have h1' : ss.toList = who.toList := by rw [h1]
      rw [if_pos ⟨h0, h1⟩] at hI
      subst hI
      have H := Lib.hid h0; have H1 := Lib.hid h1; clear h0 h1
      go_enter Tryz.func93, Tryz.ntmps93
      go_wp2_with fail
      have hzf : Blk ((w.alloc (.cells #[.int .i64 ep, .string ss, .slice A ls.length c, .string sc] 44)).alloc (.cells #[(.int .i64 ep), (.string ⟨#[]⟩), (.slice none 0 0), (.string sc)] 44)) (w.heap.size + 1) 44 #[(.int .i64 ep), (.string ⟨#[]⟩), (.slice none 0 0), (.string sc)] := by have := Blk.new (w.alloc (.cells #[.int .i64 ep, .string ss, .slice A ls.length c, .string sc] 44)) 44 #[(.int .i64 ep), (.string ⟨#[]⟩), (.slice none 0 0), (.string sc)]; simpa using this
      have kf : Kpt Non w ((w.alloc (.cells #[.int .i64 ep, .string ss, .slice A ls.length c, .string sc] 44)).alloc (.cells #[(.int .i64 ep), (.string ⟨#[]⟩), (.slice none 0 0), (.string sc)] 44)) := Kpt.alloc (Kpt.alloc (Kpt.refl _ _) _) _
      have y0 := hzf.cell 0
      have y1 := hzf.cell 1
      have y2 := hzf.cell 2
      have y3 := hzf.cell 3
      simp only [List.getElem?_toArray, List.getElem?_cons_zero, List.getElem?_cons_succ] at y0 y1 y2 y3
      refine bodyPost_ret (v := .tuple #[.agg #[(.int .i64 ep), (.string ⟨#[]⟩), (.slice none 0 0), (.string sc)], .int .i64 0]) ?_ rfl ⟨_, rfl, ⟨none, 0, rfl, Nat.le_refl _, by simp [maxLen], Rd.nil _ _ _ _⟩, kf⟩
      clear kf hzf
      generalize ((w.alloc (.cells #[.int .i64 ep, .string ss, .slice A ls.length c, .string sc] 44)).alloc (.cells #[(.int .i64 ep), (.string ⟨#[]⟩), (.slice none 0 0), (.string sc)] 44)) = wf at y0 y1 y2 y3
      simp [results, Tryz.results93, go_sem, y0, y1, y2, y3]
    · have h1' : ¬ ss.toList = who.toList := fun e => by
        rw [ByteArray.toList_eq, ByteArray.toList_eq] at e
        exact h1 (ByteArray.ext (Array.toList_inj.1 e.symm))
      have h1'' : (ss.toList == who.toList) = false := by rw [beq_eq_false_iff_ne]; exact h1'
      rw [if_neg (fun h => h1 h.2)] at hI
      subst hI
      have H := Lib.hid h0; have H1 := Lib.hid h1; clear h0 h1
      go_enter Tryz.func93, Tryz.ntmps93
      go_wp2_with fail
      have hzf : Blk ((w.alloc (.cells #[.int .i64 ep, .string ss, .slice A ls.length c, .string sc] 44)).alloc (.cells #[(.int .i64 ep), (.string ss), (.slice A ls.length c), (.string sc)] 44)) (w.heap.size + 1) 44 #[(.int .i64 ep), (.string ss), (.slice A ls.length c), (.string sc)] := by have := Blk.new (w.alloc (.cells #[.int .i64 ep, .string ss, .slice A ls.length c, .string sc] 44)) 44 #[(.int .i64 ep), (.string ss), (.slice A ls.length c), (.string sc)]; simpa using this
      have kf : Kpt Non w ((w.alloc (.cells #[.int .i64 ep, .string ss, .slice A ls.length c, .string sc] 44)).alloc (.cells #[(.int .i64 ep), (.string ss), (.slice A ls.length c), (.string sc)] 44)) := Kpt.alloc (Kpt.alloc (Kpt.refl _ _) _) _
      have y0 := hzf.cell 0
      have y1 := hzf.cell 1
      have y2 := hzf.cell 2
      have y3 := hzf.cell 3
      simp only [List.getElem?_toArray, List.getElem?_cons_zero, List.getElem?_cons_succ] at y0 y1 y2 y3
      refine bodyPost_ret (v := .tuple #[.agg #[(.int .i64 ep), (.string ss), (.slice A ls.length c), (.string sc)], .int .i64 10]) ?_ rfl ⟨_, rfl, ⟨A, c, rfl, hc1, hc2, (HR.out.kpt kf (fun _ _ e => e)).more (fun i hi => .inl hi)⟩, kf⟩
      clear kf hzf
      generalize ((w.alloc (.cells #[.int .i64 ep, .string ss, .slice A ls.length c, .string sc] 44)).alloc (.cells #[(.int .i64 ep), (.string ss), (.slice A ls.length c), (.string sc)] 44)) = wf at y0 y1 y2 y3
      simp [results, Tryz.results93, go_sem, y0, y1, y2, y3]
end Go.Proofs.YtkpmabknjdgkmaaGreatDoor

namespace Go.Proofs.YtkpmabknjdgkmaaGreatDoor
open Go.RowKit

/-- What the reference's Show makes of a terminal. -/
def showRef (text : ByteArray) (t : Tm) : Tm × Int := if 65536 < text.size then (t, 5) else (shownT text t, 0)

set_option maxRecDepth 100000 in
set_option maxHeartbeats 1000000 in
theorem f180_any (t : Tm) (text : ByteArray) (v : Value) (D : Nat → Prop) (w : World) (hv : TmV w D t v) (h1 : t.screen.size ≤ 1099511627776) :
    Calls Tryz.prog 96 #[v, .string text] w fun e w' => ∃ v', e = .returned (.tuple #[v', .int .i64 (showRef text t).2]) ∧ TmV w' (fun i => D i ∨ w.heap.size ≤ i) (showRef text t).1 v' ∧ Kpt Non w w' := by
  obtain ⟨A, c, rfl, hc1, hc2, hr⟩ := hv
  have HR := Lib.hid hr; clear hr
  obtain ⟨ep, ss, ls, sc⟩ := t
  simp only at hc1 HR h1 ⊢
  by_cases h2 : 65536 < text.size
  · have hS : showRef text ⟨ep, ss, ls, sc⟩ = (⟨ep, ss, ls, sc⟩, 5) := by unfold showRef; rw [if_pos h2]
    rw [hS]
    have h2' : (65536 : Int) < (text.size : Int) := by omega
    clear hS h2
    go_enter Tryz.func96, Tryz.ntmps96
    go_wp2_with fail
    have hzf : Blk ((w.alloc (.cells #[(.int .i64 ep), (.string ss), (.slice A ls.length c), (.string sc)] 44)).alloc (.cells #[(.int .i64 ep), (.string ss), (.slice A ls.length c), (.string sc)] 44)) (w.heap.size + 1) 44 #[(.int .i64 ep), (.string ss), (.slice A ls.length c), (.string sc)] := by have := Blk.new (w.alloc (.cells #[(.int .i64 ep), (.string ss), (.slice A ls.length c), (.string sc)] 44)) 44 #[(.int .i64 ep), (.string ss), (.slice A ls.length c), (.string sc)]; simpa using this
    have kf : Kpt Non w ((w.alloc (.cells #[(.int .i64 ep), (.string ss), (.slice A ls.length c), (.string sc)] 44)).alloc (.cells #[(.int .i64 ep), (.string ss), (.slice A ls.length c), (.string sc)] 44)) := Kpt.alloc (Kpt.alloc (Kpt.refl _ _) _) _
    have y0 := hzf.cell 0
    have y1 := hzf.cell 1
    have y2 := hzf.cell 2
    have y3 := hzf.cell 3
    simp only [List.getElem?_toArray, List.getElem?_cons_zero, List.getElem?_cons_succ] at y0 y1 y2 y3
    refine bodyPost_ret (v := .tuple #[.agg #[(.int .i64 ep), (.string ss), (.slice A ls.length c), (.string sc)], .int .i64 5]) ?_ rfl ⟨_, rfl, ⟨A, c, rfl, hc1, hc2, (HR.out.kpt kf (fun _ _ e => e)).more (fun i hi => .inl hi)⟩, kf⟩
    clear kf hzf
    generalize ((w.alloc (.cells #[(.int .i64 ep), (.string ss), (.slice A ls.length c), (.string sc)] 44)).alloc (.cells #[(.int .i64 ep), (.string ss), (.slice A ls.length c), (.string sc)] 44)) = wf at y0 y1 y2 y3
    simp [results, Tryz.results96, go_sem, y0, y1, y2, y3]
  · have hS : showRef text ⟨ep, ss, ls, sc⟩ = (⟨ep, ss, ls, (sc ++ text).extract ((sc ++ text).size - 2048) (sc ++ text).size⟩, 0) := by
      unfold showRef shownT
      rw [if_neg h2, scr_eq]
    rw [hS]
    have h2' : ¬ (65536 : Int) < (text.size : Int) := by omega
    have hsz : (sc ++ text).size = sc.size + text.size := by simp
    obtain ⟨cat, hcat⟩ : ∃ cat, sc ++ text = cat := ⟨_, rfl⟩
    rw [hcat] at hsz ⊢
    have hl2 : (cat.size : Int) ≤ 2199023255552 := by omega
    clear hS hsz h2
    by_cases hl : 2048 < cat.size
    · have hl1 : (0 : Int) < (cat.size : Int) - 2048 := by omega
      go_enter Tryz.func96, Tryz.ntmps96
      go_wp2_with fail
      have hzf : Blk ((w.alloc (.cells #[(.int .i64 ep), (.string ss), (.slice A ls.length c), (.string (cat.extract (cat.size - 2048) cat.size))] 44)).alloc (.cells #[(.int .i64 ep), (.string ss), (.slice A ls.length c), (.string (cat.extract (cat.size - 2048) cat.size))] 44)) (w.heap.size + 1) 44 #[(.int .i64 ep), (.string ss), (.slice A ls.length c), (.string (cat.extract (cat.size - 2048) cat.size))] := by have := Blk.new (w.alloc (.cells #[(.int .i64 ep), (.string ss), (.slice A ls.length c), (.string (cat.extract (cat.size - 2048) cat.size))] 44)) 44 #[(.int .i64 ep), (.string ss), (.slice A ls.length c), (.string (cat.extract (cat.size - 2048) cat.size))]; simpa using this
      have kf : Kpt Non w ((w.alloc (.cells #[(.int .i64 ep), (.string ss), (.slice A ls.length c), (.string (cat.extract (cat.size - 2048) cat.size))] 44)).alloc (.cells #[(.int .i64 ep), (.string ss), (.slice A ls.length c), (.string (cat.extract (cat.size - 2048) cat.size))] 44)) := Kpt.alloc (Kpt.alloc (Kpt.refl _ _) _) _
      have y0 := hzf.cell 0
      have y1 := hzf.cell 1
      have y2 := hzf.cell 2
      have y3 := hzf.cell 3
      simp only [List.getElem?_toArray, List.getElem?_cons_zero, List.getElem?_cons_succ] at y0 y1 y2 y3
      refine bodyPost_ret (v := .tuple #[.agg #[(.int .i64 ep), (.string ss), (.slice A ls.length c), (.string (cat.extract (cat.size - 2048) cat.size))], .int .i64 0]) ?_ rfl ⟨_, rfl, ⟨A, c, rfl, hc1, hc2, (HR.out.kpt kf (fun _ _ e => e)).more (fun i hi => .inl hi)⟩, kf⟩
      clear kf hzf
      generalize ((w.alloc (.cells #[(.int .i64 ep), (.string ss), (.slice A ls.length c), (.string (cat.extract (cat.size - 2048) cat.size))] 44)).alloc (.cells #[(.int .i64 ep), (.string ss), (.slice A ls.length c), (.string (cat.extract (cat.size - 2048) cat.size))] 44)) = wf at y0 y1 y2 y3
      simp [results, Tryz.results96, go_sem, y0, y1, y2, y3]
    · have hl1 : ¬ (0 : Int) < (cat.size : Int) - 2048 := by omega
      rw [show cat.size - 2048 = 0 by omega, ByteArray.extract_zero_size]
      go_enter Tryz.func96, Tryz.ntmps96
      go_wp2_with fail
      have hzf : Blk ((w.alloc (.cells #[(.int .i64 ep), (.string ss), (.slice A ls.length c), (.string cat)] 44)).alloc (.cells #[(.int .i64 ep), (.string ss), (.slice A ls.length c), (.string cat)] 44)) (w.heap.size + 1) 44 #[(.int .i64 ep), (.string ss), (.slice A ls.length c), (.string cat)] := by have := Blk.new (w.alloc (.cells #[(.int .i64 ep), (.string ss), (.slice A ls.length c), (.string cat)] 44)) 44 #[(.int .i64 ep), (.string ss), (.slice A ls.length c), (.string cat)]; simpa using this
      have kf : Kpt Non w ((w.alloc (.cells #[(.int .i64 ep), (.string ss), (.slice A ls.length c), (.string cat)] 44)).alloc (.cells #[(.int .i64 ep), (.string ss), (.slice A ls.length c), (.string cat)] 44)) := Kpt.alloc (Kpt.alloc (Kpt.refl _ _) _) _
      have y0 := hzf.cell 0
      have y1 := hzf.cell 1
      have y2 := hzf.cell 2
      have y3 := hzf.cell 3
      simp only [List.getElem?_toArray, List.getElem?_cons_zero, List.getElem?_cons_succ] at y0 y1 y2 y3
      refine bodyPost_ret (v := .tuple #[.agg #[(.int .i64 ep), (.string ss), (.slice A ls.length c), (.string cat)], .int .i64 0]) ?_ rfl ⟨_, rfl, ⟨A, c, rfl, hc1, hc2, (HR.out.kpt kf (fun _ _ e => e)).more (fun i hi => .inl hi)⟩, kf⟩
      clear kf hzf
      generalize ((w.alloc (.cells #[(.int .i64 ep), (.string ss), (.slice A ls.length c), (.string cat)] 44)).alloc (.cells #[(.int .i64 ep), (.string ss), (.slice A ls.length c), (.string cat)] 44)) = wf at y0 y1 y2 y3
      simp [results, Tryz.results96, go_sem, y0, y1, y2, y3]
end Go.Proofs.YtkpmabknjdgkmaaGreatDoor

namespace Go.Proofs.YtkpmabknjdgkmaaGreatDoor
open Go.RowKit

theorem lparts_count : ∀ (m pos : Nat) (r : List UInt8), (lparts m pos r).length ≤ m + 1
  | 0, pos, r => by simp [lparts]
  | m + 1, pos, r => by
    rw [lparts_succ]
    split
    · simp
    · split
      · simp
      · split
        · simp
        · split
          · simp
          · rw [List.length_cons]
            split
            · simp
            · split
              · have := lparts_count m (pos + digs r + 1) (r.drop (digs r + 1))
                omega
              · simp
theorem lparse_count (l : List UInt8) : (lparse l).1.length ≤ 9 := by
  unfold lparse partsOf
  split
  · simp
  · simp only [List.length_map]
    split
    · simp
    · exact lparts_count 8 0 l

set_option maxRecDepth 100000 in
set_option maxHeartbeats 2000000 in
theorem f218_any (s t : ByteArray) (hs : s.size ≤ 140737488351232) (ht : t.size ≤ 140737488351232) (w : World) :
    Calls Tryz.prog 114 #[.string s, .string t] w fun e w' => e = .returned (.bool (withinB s.data.toList t.data.toList)) ∧ Kpt Non w w' := by
  have E1 := f175_any s hs w
  have E2 := f175_any t ht
  have hny := lparse_count t.data.toList
  have hW : withinB s.data.toList t.data.toList = (decide ((lparse s.data.toList).2.2 = 0) && decide ((lparse t.data.toList).2.2 = 0) && decide (commonLen (lparse s.data.toList).1 (lparse t.data.toList).1 = (lparse t.data.toList).1.length)) := rfl
  generalize withinB s.data.toList t.data.toList = X at hW ⊢
  generalize lparse s.data.toList = a at hW E1
  generalize lparse t.data.toList = b at hW E2 hny
  obtain ⟨xs, p1, e1⟩ := a
  obtain ⟨ys, p2, e2⟩ := b
  simp only at hW E1 E2 hny
  have H1 := Lib.hid E1; have H2 := Lib.hid E2; have HW := Lib.hid hW; clear E1 E2 hW
  go_enter Tryz.func114, Tryz.ntmps114
  go_wp2_with fail
  refine H1.out.mono ?_
  rintro e w1 ⟨v1, rfl, ho1, k1⟩
  have HO1 := Lib.hid ho1; have K1 := Lib.hid k1; clear ho1 k1
  go_wp2_with fail
  refine (H2.out _).mono ?_
  rintro e w2 ⟨v2, rfl, ho2, k2⟩
  obtain ⟨A1, c1, rfl, hc1, hc1'⟩ := own_slice HO1.out
  obtain ⟨A2, c2, rfl, hc2, hc2'⟩ := own_slice ho2
  have HO1 := Lib.hid (own_kpt HO1.out k2 (fun _ _ e => e)); have HO2 := Lib.hid ho2; have K2 := Lib.hid (Kpt.trans K1.out k2 (fun _ e _ => e)); clear ho2 k2
  by_cases h1 : e1 = 0
  · by_cases h2 : e2 = 0
    · subst h1 h2
      by_cases h3 : xs.length < ys.length
      · have h3' : (xs.length : Int) < (ys.length : Int) := by omega
        have hX : X = false := by
          rw [HW.out]
          have := (commonLen_le xs ys).1
          simp
          omega
        have HX := Lib.hid hX; clear hX
        go_wp2_with fail
        go_ret
        exact ⟨by rw [HX.out]; rfl, K2.out⟩
      · have h3' : ¬ (xs.length : Int) < (ys.length : Int) := by omega
        go_wp2_with fail
        go_loopw [11] (fun x11 wr => ∃ j : Nat, x11 = .int .i64 j ∧ j ≤ ys.length ∧ Hid (∀ i, i < j → ∃ x, xs[i]? = some x ∧ ys[i]? = some x) ∧ Hid (Kpt Non w2 wr)) (fun x11 _ => ys.length - (intOf x11).toNat)
        case atStart => exact ⟨0, rfl, Nat.zero_le _, Lib.hid (fun i hi => absurd hi (by omega)), Lib.hid (Kpt.refl _ _)⟩
        case round =>
          obtain ⟨j, rfl, hj, HS, HK⟩ := hrel
          by_cases h5 : j < ys.length
          · have h5' : (j : Int) < (ys.length : Int) := by omega
            have h6' : (j : Int) < (xs.length : Int) := by omega
            obtain ⟨ad1, u1, rfl, _, hu1, hca⟩ := (Rd.of_own (own_kpt HO1.out HK.out (fun _ _ e => e))).at_ (k := j) (by omega)
            obtain ⟨ad2, u2, rfl, _, hu2, hcb⟩ := (Rd.of_own (own_kpt HO2.out HK.out (fun _ _ e => e))).at_ h5
            rw [List.getElem?_map] at hu1 hu2
            obtain ⟨x, hx, rfl⟩ := Option.map_eq_some_iff.1 hu1
            obtain ⟨y, hy, rfl⟩ := Option.map_eq_some_iff.1 hu2
            clear hu1 hu2
            have HXx := Lib.hid hx; have HYy := Lib.hid hy; clear hx hy
            by_cases hxy : x = y
            · subst hxy
              go_wp2_with fail
              go_region_held3 (fun w' => w'.cell? (ad1.add j) = some (.int .i64 x) ∧ w'.cell? (ad2.add j) = some (.int .i64 x)) (first | exact ⟨hca, hcb⟩) (first | fail)
              go_wp2_with fail
              refine ⟨⟨j + 1, by go_num, by omega, Lib.hid (fun i hi => ?_), Lib.hid (Kpt.drew HK.out)⟩, by simp [intOf]; omega⟩
              by_cases hij : i < j
              · exact HS.out i hij
              · obtain rfl : i = j := by omega
                exact ⟨x, HXx.out, HYy.out⟩
            · have hxy' : (x != y) = true := by rw [bne_iff_ne]; exact hxy
              have hX : X = false := by
                have hc := commonLen_eq HS.out (fun ⟨z, hz1, hz2⟩ => hxy (by rw [HXx.out] at hz1; rw [HYy.out] at hz2; injection hz1 with hz1; injection hz2 with hz2; rw [hz1, hz2]))
                rw [HW.out, hc]
                simp
                omega
              have HX := Lib.hid hX; have HXY := Lib.hid hxy; clear hX hxy
              go_wp2_with fail
              go_region_held3 (fun w' => w'.cell? (ad1.add j) = some (.int .i64 x) ∧ w'.cell? (ad2.add j) = some (.int .i64 y)) (first | exact ⟨hca, hcb⟩) (first | fail)
              go_wp2_with fail
              go_ret
              exact ⟨by rw [HX.out]; rfl, Kpt.trans K2.out (Kpt.drew HK.out) (fun _ e _ => e)⟩
          · have h5' : ¬ (j : Int) < (ys.length : Int) := by omega
            have hX : X = true := by
              have hc := commonLen_eq HS.out (fun ⟨z, hz1, hz2⟩ => by have := (List.getElem?_eq_some_iff.1 hz2).1; omega)
              rw [HW.out, hc]
              simp
              omega
            have HX := Lib.hid hX; clear hX
            go_wp2_with fail
            go_ret
            exact ⟨by rw [HX.out]; rfl, Kpt.trans K2.out HK.out (fun _ e _ => e)⟩
    · have h1' : (e1 != 0) = false := by rw [bne_eq_false_iff_eq]; exact h1
      have h2' : (e2 != 0) = true := by rw [bne_iff_ne]; exact h2
      have hX : X = false := by rw [HW.out]; simp [h2]
      have HX := Lib.hid hX; have HA := Lib.hid h1; have HB := Lib.hid h2; clear hX h1 h2
      go_wp2_with fail
      go_ret
      exact ⟨by rw [HX.out]; rfl, K2.out⟩
  · have h1' : (e1 != 0) = true := by rw [bne_iff_ne]; exact h1
    have hX : X = false := by rw [HW.out]; simp [h1]
    have HX := Lib.hid hX; have HA := Lib.hid h1; clear hX h1
    go_wp2_with fail
    go_ret
    exact ⟨by rw [HX.out]; rfl, K2.out⟩
end Go.Proofs.YtkpmabknjdgkmaaGreatDoor

namespace Go.Proofs.YtkpmabknjdgkmaaGreatDoor
open Go.RowKit

theorem ref_boxes {w : World} {v0 v1 v2 v3 : Value} : Blk ((w.alloc (.cells #[v0, v1, v2, v3] 44)).alloc (.cells #[.int .i64 0, .string ⟨#[]⟩, .slice none 0 0, .string ⟨#[]⟩] 44)) w.heap.size 44 #[v0, v1, v2, v3] ∧
    Blk ((w.alloc (.cells #[v0, v1, v2, v3] 44)).alloc (.cells #[.int .i64 0, .string ⟨#[]⟩, .slice none 0 0, .string ⟨#[]⟩] 44)) (w.heap.size + 1) 44 #[.int .i64 0, .string ⟨#[]⟩, .slice none 0 0, .string ⟨#[]⟩] ∧
    Kpt Non w ((w.alloc (.cells #[v0, v1, v2, v3] 44)).alloc (.cells #[.int .i64 0, .string ⟨#[]⟩, .slice none 0 0, .string ⟨#[]⟩] 44)) := by
  refine ⟨(Blk.new w 44 #[v0, v1, v2, v3]).alloc _, ?_, Kpt.alloc (Kpt.alloc (Kpt.refl _ _) _) _⟩
  have := Blk.new (w.alloc (.cells #[v0, v1, v2, v3] 44)) 44 #[.int .i64 0, .string ⟨#[]⟩, .slice none 0 0, .string ⟨#[]⟩]
  simpa using this

theorem own_news {w : World} {D : Nat → Prop} {ad : Addr} {n : Nat} {xs : List Value} (h : Rd w D 1 (some ad) n xs) (o : Obj) : ∀ j u, xs[j]? = some u → (w.alloc o).cell? (ad.add j) = some u := by
  intro j u hu
  have hj := (List.getElem?_eq_some_iff.1 hu).1
  obtain ⟨ad', e, _, hc⟩ := h.2 (by have := h.1; omega)
  injection e with e
  subst e
  exact cell_alloc_ (hc j u hu) o

set_option maxRecDepth 100000 in
set_option maxHeartbeats 2000000 in
theorem f178_any (t : Tm) (text : ByteArray) (v : Value) (D : Nat → Prop) (w : World) (hv : TmV w D t v) (h1 : t.screen.size ≤ 1099511627776) (hs : text.size ≤ 140737488351232) (hn : t.typed.length ≤ 1048576) :
    Calls Tryz.prog 94 #[v, .string text] w fun e w' => ∃ v', e = .returned (.tuple #[v', .int .i64 (typedT text t).2]) ∧ TmV w' (fun i => D i ∨ w.heap.size ≤ i) (typedT text t).1 v' ∧ Kpt Non w w' := by
  have hI : typedT text t = typedT text t := rfl
  conv at hI => rhs; unfold typedT
  generalize typedT text t = X at hI ⊢
  have hlt : lineErr text = 0 → text.size ≤ 1024 := fun h => by
    unfold lineErr at h
    split at h
    · cases h
    · omega
  obtain ⟨A, c, rfl, hc1, hc2, hr⟩ := hv
  obtain ⟨ep, ss, ls, sc⟩ := t
  simp only at hc1 hr h1 hn hI ⊢
  have HR := Lib.hid hr; clear hr
  have E35 := f35_any text hs
  generalize lineErr text = le at E35 hI hlt
  have H35 := Lib.hid E35; clear E35
  have HB := Lib.hid (ref_boxes (w := w) (v0 := .int .i64 ep) (v1 := .string ss) (v2 := .slice A ls.length c) (v3 := .string sc))
  by_cases h0 : le = 0
  · subst h0
    have hlt' := hlt rfl
    clear hlt
    rw [if_pos rfl] at hI
    by_cases hss : ss.size = 0
    · skip
      have h0' := isEmpty_true hss
      rw [if_pos hss] at hI
      subst hI
      have H0 := Lib.hid hss; clear hss
      go_enter Tryz.func94, Tryz.ntmps94
      go_wp2_with fail
      refine (H35.out _).mono ?_
      rintro e w1 ⟨rfl, k1⟩
      have hb1 := HB.out.1.kpt k1 (fun e => e)
      have hb2 := HB.out.2.1.kpt k1 (fun e => e)
      have K1 := Lib.hid (Kpt.trans HB.out.2.2 k1 (fun _ e _ => e)); clear k1
      have p0 := hb1.cell 0
      have p1 := hb1.cell 1
      have p2 := hb1.cell 2
      have p3 := hb1.cell 3
      have r0 := hb2.cell 0
      have r1 := hb2.cell 1
      have r2 := hb2.cell 2
      have r3 := hb2.cell 3
      have g0 := hb2.frozen 0
      have g1 := hb2.frozen 1
      have g2 := hb2.frozen 2
      have g3 := hb2.frozen 3
      simp only [List.getElem?_toArray, List.getElem?_cons_zero, List.getElem?_cons_succ] at p0 p1 p2 p3 r0 r1 r2 r3
      have HB2 := Lib.hid hb2; clear hb1 hb2
      go_wp2_with fail
      have hzf := HB2.out.set4 (.int .i64 ep) (.string ss) (.slice A ls.length c) (.string sc)
      have kf : Kpt Non w ((((w1.setCell ⟨w.heap.size + 1, 0, none⟩ (.int .i64 ep)).setCell ⟨w.heap.size + 1, 1, none⟩ (.string ss)).setCell ⟨w.heap.size + 1, 2, none⟩ (.slice A ls.length c)).setCell ⟨w.heap.size + 1, 3, none⟩ (.string sc)) := Kpt.set4 K1.out (fun h => absurd h (by omega)) _ _ _ _
      have y0 := hzf.cell 0
      have y1 := hzf.cell 1
      have y2 := hzf.cell 2
      have y3 := hzf.cell 3
      simp only [List.getElem?_toArray, List.getElem?_cons_zero, List.getElem?_cons_succ] at y0 y1 y2 y3
      refine bodyPost_ret (v := .tuple #[.agg #[(.int .i64 ep), (.string ss), (.slice A ls.length c), (.string sc)], .int .i64 10]) ?_ rfl ⟨_, rfl, ⟨A, c, rfl, hc1, hc2, (HR.out.kpt kf (fun _ _ e => e)).more (fun i hi => .inl hi)⟩, kf⟩
      clear kf hzf
      generalize ((((w1.setCell ⟨w.heap.size + 1, 0, none⟩ (.int .i64 ep)).setCell ⟨w.heap.size + 1, 1, none⟩ (.string ss)).setCell ⟨w.heap.size + 1, 2, none⟩ (.slice A ls.length c)).setCell ⟨w.heap.size + 1, 3, none⟩ (.string sc)) = wf at y0 y1 y2 y3
      simp [results, Tryz.results94, go_sem, y0, y1, y2, y3]
    · have h0' := isEmpty_false hss
      rw [if_neg hss] at hI
      have H0 := Lib.hid hss; clear hss
      by_cases hc : 16 ≤ ls.length
      · skip
        have hc' : (16 : Int) ≤ (ls.length : Int) := by omega
        rw [if_pos hc] at hI
        subst hI
        have H16 := Lib.hid hc; clear hc
        go_enter Tryz.func94, Tryz.ntmps94
        go_wp2_with fail
        refine (H35.out _).mono ?_
        rintro e w1 ⟨rfl, k1⟩
        have hb1 := HB.out.1.kpt k1 (fun e => e)
        have hb2 := HB.out.2.1.kpt k1 (fun e => e)
        have K1 := Lib.hid (Kpt.trans HB.out.2.2 k1 (fun _ e _ => e)); clear k1
        have p0 := hb1.cell 0
        have p1 := hb1.cell 1
        have p2 := hb1.cell 2
        have p3 := hb1.cell 3
        have r0 := hb2.cell 0
        have r1 := hb2.cell 1
        have r2 := hb2.cell 2
        have r3 := hb2.cell 3
        have g0 := hb2.frozen 0
        have g1 := hb2.frozen 1
        have g2 := hb2.frozen 2
        have g3 := hb2.frozen 3
        simp only [List.getElem?_toArray, List.getElem?_cons_zero, List.getElem?_cons_succ] at p0 p1 p2 p3 r0 r1 r2 r3
        have HB2 := Lib.hid hb2; clear hb1 hb2
        go_wp2_with fail
        have hzf := HB2.out.set4 (.int .i64 ep) (.string ss) (.slice A ls.length c) (.string sc)
        have kf : Kpt Non w ((((w1.setCell ⟨w.heap.size + 1, 0, none⟩ (.int .i64 ep)).setCell ⟨w.heap.size + 1, 1, none⟩ (.string ss)).setCell ⟨w.heap.size + 1, 2, none⟩ (.slice A ls.length c)).setCell ⟨w.heap.size + 1, 3, none⟩ (.string sc)) := Kpt.set4 K1.out (fun h => absurd h (by omega)) _ _ _ _
        have y0 := hzf.cell 0
        have y1 := hzf.cell 1
        have y2 := hzf.cell 2
        have y3 := hzf.cell 3
        simp only [List.getElem?_toArray, List.getElem?_cons_zero, List.getElem?_cons_succ] at y0 y1 y2 y3
        refine bodyPost_ret (v := .tuple #[.agg #[(.int .i64 ep), (.string ss), (.slice A ls.length c), (.string sc)], .int .i64 9]) ?_ rfl ⟨_, rfl, ⟨A, c, rfl, hc1, hc2, (HR.out.kpt kf (fun _ _ e => e)).more (fun i hi => .inl hi)⟩, kf⟩
        clear kf hzf
        generalize ((((w1.setCell ⟨w.heap.size + 1, 0, none⟩ (.int .i64 ep)).setCell ⟨w.heap.size + 1, 1, none⟩ (.string ss)).setCell ⟨w.heap.size + 1, 2, none⟩ (.slice A ls.length c)).setCell ⟨w.heap.size + 1, 3, none⟩ (.string sc)) = wf at y0 y1 y2 y3
        simp [results, Tryz.results94, go_sem, y0, y1, y2, y3]
      · skip
        rw [if_neg hc] at hI
        obtain ⟨T, hT⟩ : ∃ T, shownT (text ++ nl) ⟨ep, ss, ls ++ [text], sc⟩ = T := ⟨_, rfl⟩
        rw [hT] at hI
        subst hI
        have HT := Lib.hid hT; clear hT
        have hc' : ¬ (16 : Int) ≤ (ls.length : Int) := by omega
        have H16 := Lib.hid hc; clear hc
        go_enter Tryz.func94, Tryz.ntmps94
        go_wp2_with fail
        refine (H35.out _).mono ?_
        rintro e w1 ⟨rfl, k1⟩
        have hb1 := HB.out.1.kpt k1 (fun e => e)
        have hb2 := HB.out.2.1.kpt k1 (fun e => e)
        have K1 := Lib.hid (Kpt.trans HB.out.2.2 k1 (fun _ e _ => e)); clear k1
        have p0 := hb1.cell 0
        have p1 := hb1.cell 1
        have p2 := hb1.cell 2
        have p3 := hb1.cell 3
        have r0 := hb2.cell 0
        have r1 := hb2.cell 1
        have r2 := hb2.cell 2
        have r3 := hb2.cell 3
        have g0 := hb2.frozen 0
        have g1 := hb2.frozen 1
        have g2 := hb2.frozen 2
        have g3 := hb2.frozen 3
        simp only [List.getElem?_toArray, List.getElem?_cons_zero, List.getElem?_cons_succ] at p0 p1 p2 p3 r0 r1 r2 r3
        have HB1 := Lib.hid hb1; have HB2 := Lib.hid hb2; have HRR := Lib.hid (HR.out.kpt K1.out (fun _ _ e => e))
        have pa := fun o => cell_alloc_ p2 o
        clear hb1 hb2
        obtain ⟨i0, hi, hz, hz0, hz1⟩ := info_parts info9
        have HI := Lib.hid hi; have HZ := Lib.hid hz; have HZ0 := Lib.hid hz0; have HZ1 := Lib.hid hz1; clear hi hz hz0 hz1
        cases A with
        | none =>
          have hls0 : ls = [] := by
            cases ls with
            | nil => rfl
            | cons a l =>
              obtain ⟨ad, e, _⟩ := HRR.out.2 (by simp)
              cases e
          subst hls0
          go_wp2_with (first
            | (refine wpList_append_none rfl _ _ 22 rfl 9 i0 Tryz.underlying22 HI.out (some ⟨w1.heap.size, 0, none⟩) 0 0 (Nat.le_refl _) rfl c rfl ?_; have HO5 := Lib.hid (World.ownsRow_lit (e := 9) (size := 1) w1 #[] 0 (Nat.le_refl w1.heap.size) (by simp [maxLen]) rfl); have HK5 := Lib.hid (Kpt.alloc (Kpt.refl Non w1) (.cells #[] 9)); generalize (Value.slice (some ⟨w1.heap.size, 0, none⟩) 0 0) = v1 at HO5 ⊢; generalize (w1.alloc (.cells #[] 9)) = w5 at HO5 HK5 ⊢)
            | (refine wpList_append_own_at _ rfl _ _ 22 rfl w1.heap.size 9 i0 _ 1 16 Tryz.underlying22 HI.out HZ.out HZ0.out HZ1.out (by rfl) (by omega) v1 _ _ rfl (HO5.out.alloc _) ⟨w5.heap.size, 0, none⟩ 1 1 [.string text] rfl rfl (cell_one_new _ _ _) (by simp [Value.oneCell']) (by simp only [maxLen]; omega) (by omega) (by have := HK5.out.size; simp at this ⊢; omega) ?_; intro v2 w6 ho6 hg6 _ hat6; have hk6 : Kpt Non w1 w6 := Kpt.trans (Kpt.alloc HK5.out _) (Kpt.grown (Kpt.refl (fun i => v1.ownBlock = some i) _) hg6 (fun _ e _ => e)) (fun i e hlt => by have := (HO5.out.lt i e).1; omega); have hb16 := HB1.out.kpt hk6 (fun e => e); have hb26 := HB2.out.kpt hk6 (fun e => e); obtain ⟨A2, c2, rfl, hcA, hcB⟩ := own_slice ho6; have p60 := hb16.cell 0; have p61 := hb16.cell 1; have p62 := hb16.cell 2; have p63 := hb16.cell 3; have f62 := hb16.frozen 2; have HB16 := Lib.hid hb16; have HB26 := Lib.hid hb26; have HO6 := Lib.hid ho6; have HK6 := Lib.hid hk6; clear hb16 hb26 ho6 hk6 hg6 hat6; simp only [List.getElem?_toArray, List.getElem?_cons_zero, List.getElem?_cons_succ] at p60 p61 p62 p63) | fail)
          have h1lt : w.heap.size + 1 < w1.heap.size := HB2.out.lt
          have hbx := HB16.out.set_ 2 (.slice A2 1 c2)
          have kx : Kpt (One w.heap.size) w6 (w6.setCell ⟨w.heap.size, 2, none⟩ (.slice A2 1 c2)) := (Kpt.refl _ _).setOne 2 _
          have hb2x := HB26.out.kpt kx (fun e => by have e' : w.heap.size + 1 = w.heap.size := e; omega)
          have hrx := (Rd.of_own HO6.out).kpt kx (fun i h e => by have e' : i = w.heap.size := e; have := h.1; omega)
          have hvx : TmV (w6.setCell ⟨w.heap.size, 2, none⟩ (.slice A2 1 c2)) (fun i => w1.heap.size ≤ i) ⟨ep, ss, [] ++ [text], sc⟩ (.agg #[.int .i64 ep, .string ss, .slice A2 1 c2, .string sc]) := ⟨A2, c2, by simp, by simpa using hcA, hcB, by simpa using hrx.more (fun i h => h.1)⟩
          have kwx : Kpt Non w (w6.setCell ⟨w.heap.size, 2, none⟩ (.slice A2 1 c2)) := Kpt.trans (Kpt.trans K1.out HK6.out (fun _ e _ => e)) kx (fun i e hlt => by have e' : i = w.heap.size := e; omega)
          generalize w6.setCell ⟨w.heap.size, 2, none⟩ (.slice A2 1 c2) = wx at hb2x hvx kwx ⊢
          have e180 := f180_any ⟨ep, ss, [] ++ [text], sc⟩ (text ++ nl) _ _ wx hvx h1
          have hsr : showRef (text ++ nl) ⟨ep, ss, [] ++ [text], sc⟩ = (T, 0) := by
            unfold showRef
            rw [if_neg (by have : (text ++ nl).size = text.size + 1 := by simp [nl]; rfl
                           omega), HT.out]
          rw [hsr] at e180
          clear hbx kx hrx hvx hsr
          refine e180.mono ?_
          rintro e w7 ⟨v7, rfl, ⟨A7, c7, rfl, hc71, hc72, hr7⟩, k7⟩
          have hb27 := hb2x.kpt k7 (fun e => e)
          have k07 := Kpt.trans kwx k7 (fun _ e _ => e)
          have s1 := HK6.out.size
          have s7 := K1.out.size
          clear p60 p61 p62 p63 f62 r0 r1 r2 r3 g0 g1 g2 g3
          have r0 := hb27.cell 0
          have r1 := hb27.cell 1
          have r2 := hb27.cell 2
          have r3 := hb27.cell 3
          have g0 := hb27.frozen 0
          have g1 := hb27.frozen 1
          have g2 := hb27.frozen 2
          have g3 := hb27.frozen 3
          simp only [List.getElem?_toArray, List.getElem?_cons_zero, List.getElem?_cons_succ] at r0 r1 r2 r3
          have HB27 := Lib.hid hb27; have K07 := Lib.hid k07; have HR7 := Lib.hid hr7; have KWX := Lib.hid kwx; have HB2x := Lib.hid hb2x; clear hb27 k07 hr7 kwx hb2x k7 e180
          go_wp2_with fail
          have hzf := HB27.out.set4 (.int .i64 T.epoch) (.string T.session) (.slice A7 T.typed.length c7) (.string T.screen)
          have kz : Kpt (One (w.heap.size + 1)) w7 ((((w7.setCell ⟨w.heap.size + 1, 0, none⟩ (.int .i64 T.epoch)).setCell ⟨w.heap.size + 1, 1, none⟩ (.string T.session)).setCell ⟨w.heap.size + 1, 2, none⟩ (.slice A7 T.typed.length c7)).setCell ⟨w.heap.size + 1, 3, none⟩ (.string T.screen)) := Kpt.set4 (Kpt.refl (One (w.heap.size + 1)) w7) (fun _ => rfl) _ _ _ _
          have kf : Kpt Non w ((((w7.setCell ⟨w.heap.size + 1, 0, none⟩ (.int .i64 T.epoch)).setCell ⟨w.heap.size + 1, 1, none⟩ (.string T.session)).setCell ⟨w.heap.size + 1, 2, none⟩ (.slice A7 T.typed.length c7)).setCell ⟨w.heap.size + 1, 3, none⟩ (.string T.screen)) := Kpt.trans K07.out kz (fun i e hlt => by have e' : i = w.heap.size + 1 := e; omega)
          have y0 := hzf.cell 0
          have y1 := hzf.cell 1
          have y2 := hzf.cell 2
          have y3 := hzf.cell 3
          simp only [List.getElem?_toArray, List.getElem?_cons_zero, List.getElem?_cons_succ] at y0 y1 y2 y3
          refine bodyPost_ret (v := .tuple #[.agg #[(.int .i64 T.epoch), (.string T.session), (.slice A7 T.typed.length c7), (.string T.screen)], .int .i64 0]) ?_ rfl ⟨_, rfl, ⟨A7, c7, rfl, hc71, hc72, (HR7.out.kpt kz (fun i h e => by have e' : i = w.heap.size + 1 := e; rcases h with h | h; omega; have := HB2x.out.lt; omega)).more (fun i h => by rcases h with h | h; right; omega; right; have := KWX.out.size; omega)⟩, kf⟩
          clear hzf kz kf
          generalize ((((w7.setCell ⟨w.heap.size + 1, 0, none⟩ (.int .i64 T.epoch)).setCell ⟨w.heap.size + 1, 1, none⟩ (.string T.session)).setCell ⟨w.heap.size + 1, 2, none⟩ (.slice A7 T.typed.length c7)).setCell ⟨w.heap.size + 1, 3, none⟩ (.string T.screen)) = wf at y0 y1 y2 y3
          simp [results, Tryz.results94, go_sem, y0, y1, y2, y3]
        | some ad =>
          go_wp2_with (first
            | (refine wpList_append_own _ rfl _ _ 22 rfl w1.heap.size 9 i0 _ 1 16 Tryz.underlying22 HI.out HZ.out HZ0.out HZ1.out (by rfl) (by omega) _ 0 [] rfl (World.ownsRow_lit w1 #[] 0 (Nat.le_refl _) (by simp [maxLen]) rfl) ad ls.length c (ls.map Value.string) rfl (by simp) (own_news HRR.out _) (one_strs _) (by simp only [maxLen]; omega) (by omega) (by simp) ?_; intro v1 w5 ho5 hg5 _; have HO5 := Lib.hid ho5; have HK5 := Lib.hid (Kpt.app (Kpt.alloc (Kpt.refl Non w1) _) hg5 (by intro k hk; simp [Value.ownBlock, go_sem] at hk; omega)); clear ho5 hg5)
            | (refine wpList_append_own_at _ rfl _ _ 22 rfl w1.heap.size 9 i0 _ 1 16 Tryz.underlying22 HI.out HZ.out HZ0.out HZ1.out (by rfl) (by omega) v1 _ _ rfl (HO5.out.alloc _) ⟨w5.heap.size, 0, none⟩ 1 1 [.string text] rfl rfl (cell_one_new _ _ _) (by simp [Value.oneCell']) (by simp only [maxLen]; omega) (by omega) (by have := HK5.out.size; simp at this ⊢; omega) ?_; intro v2 w6 ho6 hg6 _ hat6; have hk6 : Kpt Non w1 w6 := Kpt.trans (Kpt.alloc HK5.out _) (Kpt.grown (Kpt.refl (fun i => (v1).ownBlock = some i) _) hg6 (fun _ e _ => e)) (fun i e hlt => by have := (HO5.out.lt i e).1; omega); have hb16 := HB1.out.kpt hk6 (fun e => e); have hb26 := HB2.out.kpt hk6 (fun e => e); obtain ⟨A2, c2, rfl, hcA, hcB⟩ := own_slice ho6; have p60 := hb16.cell 0; have p61 := hb16.cell 1; have p62 := hb16.cell 2; have p63 := hb16.cell 3; have f62 := hb16.frozen 2; have HB16 := Lib.hid hb16; have HB26 := Lib.hid hb26; have HO6 := Lib.hid ho6; have HK6 := Lib.hid hk6; clear hb16 hb26 ho6 hk6 hg6 hat6; simp only [List.getElem?_toArray, List.getElem?_cons_zero, List.getElem?_cons_succ] at p60 p61 p62 p63) | fail)
          have h1lt : w.heap.size + 1 < w1.heap.size := HB2.out.lt
          have hbx := HB16.out.set_ 2 (.slice A2 (ls.length + 1) c2)
          have kx : Kpt (One w.heap.size) w6 (w6.setCell ⟨w.heap.size, 2, none⟩ (.slice A2 (ls.length + 1) c2)) := (Kpt.refl _ _).setOne 2 _
          have hb2x := HB26.out.kpt kx (fun e => by have e' : w.heap.size + 1 = w.heap.size := e; omega)
          have hrx := (Rd.of_own HO6.out).kpt kx (fun i h e => by have e' : i = w.heap.size := e; have := h.1; omega)
          have hvx : TmV (w6.setCell ⟨w.heap.size, 2, none⟩ (.slice A2 (ls.length + 1) c2)) (fun i => w1.heap.size ≤ i) ⟨ep, ss, ls ++ [text], sc⟩ (.agg #[.int .i64 ep, .string ss, .slice A2 (ls.length + 1) c2, .string sc]) := ⟨A2, c2, by simp, by simpa using hcA, hcB, by simpa using hrx.more (fun i h => h.1)⟩
          have kwx : Kpt Non w (w6.setCell ⟨w.heap.size, 2, none⟩ (.slice A2 (ls.length + 1) c2)) := Kpt.trans (Kpt.trans K1.out HK6.out (fun _ e _ => e)) kx (fun i e hlt => by have e' : i = w.heap.size := e; omega)
          generalize w6.setCell ⟨w.heap.size, 2, none⟩ (.slice A2 (ls.length + 1) c2) = wx at hb2x hvx kwx ⊢
          have e180 := f180_any ⟨ep, ss, ls ++ [text], sc⟩ (text ++ nl) _ _ wx hvx h1
          have hsr : showRef (text ++ nl) ⟨ep, ss, ls ++ [text], sc⟩ = (T, 0) := by
            unfold showRef
            rw [if_neg (by have : (text ++ nl).size = text.size + 1 := by simp [nl]; rfl
                           omega), HT.out]
          rw [hsr] at e180
          clear hbx kx hrx hvx hsr
          refine e180.mono ?_
          rintro e w7 ⟨v7, rfl, ⟨A7, c7, rfl, hc71, hc72, hr7⟩, k7⟩
          have hb27 := hb2x.kpt k7 (fun e => e)
          have k07 := Kpt.trans kwx k7 (fun _ e _ => e)
          have s1 := HK6.out.size
          have s7 := K1.out.size
          clear p60 p61 p62 p63 f62 r0 r1 r2 r3 g0 g1 g2 g3
          have r0 := hb27.cell 0
          have r1 := hb27.cell 1
          have r2 := hb27.cell 2
          have r3 := hb27.cell 3
          have g0 := hb27.frozen 0
          have g1 := hb27.frozen 1
          have g2 := hb27.frozen 2
          have g3 := hb27.frozen 3
          simp only [List.getElem?_toArray, List.getElem?_cons_zero, List.getElem?_cons_succ] at r0 r1 r2 r3
          have HB27 := Lib.hid hb27; have K07 := Lib.hid k07; have HR7 := Lib.hid hr7; have KWX := Lib.hid kwx; have HB2x := Lib.hid hb2x; clear hb27 k07 hr7 kwx hb2x k7 e180
          go_wp2_with fail
          have hzf := HB27.out.set4 (.int .i64 T.epoch) (.string T.session) (.slice A7 T.typed.length c7) (.string T.screen)
          have kz : Kpt (One (w.heap.size + 1)) w7 ((((w7.setCell ⟨w.heap.size + 1, 0, none⟩ (.int .i64 T.epoch)).setCell ⟨w.heap.size + 1, 1, none⟩ (.string T.session)).setCell ⟨w.heap.size + 1, 2, none⟩ (.slice A7 T.typed.length c7)).setCell ⟨w.heap.size + 1, 3, none⟩ (.string T.screen)) := Kpt.set4 (Kpt.refl (One (w.heap.size + 1)) w7) (fun _ => rfl) _ _ _ _
          have kf : Kpt Non w ((((w7.setCell ⟨w.heap.size + 1, 0, none⟩ (.int .i64 T.epoch)).setCell ⟨w.heap.size + 1, 1, none⟩ (.string T.session)).setCell ⟨w.heap.size + 1, 2, none⟩ (.slice A7 T.typed.length c7)).setCell ⟨w.heap.size + 1, 3, none⟩ (.string T.screen)) := Kpt.trans K07.out kz (fun i e hlt => by have e' : i = w.heap.size + 1 := e; omega)
          have y0 := hzf.cell 0
          have y1 := hzf.cell 1
          have y2 := hzf.cell 2
          have y3 := hzf.cell 3
          simp only [List.getElem?_toArray, List.getElem?_cons_zero, List.getElem?_cons_succ] at y0 y1 y2 y3
          refine bodyPost_ret (v := .tuple #[.agg #[(.int .i64 T.epoch), (.string T.session), (.slice A7 T.typed.length c7), (.string T.screen)], .int .i64 0]) ?_ rfl ⟨_, rfl, ⟨A7, c7, rfl, hc71, hc72, (HR7.out.kpt kz (fun i h e => by have e' : i = w.heap.size + 1 := e; rcases h with h | h; omega; have := HB2x.out.lt; omega)).more (fun i h => by rcases h with h | h; right; omega; right; have := KWX.out.size; omega)⟩, kf⟩
          clear hzf kz kf
          generalize ((((w7.setCell ⟨w.heap.size + 1, 0, none⟩ (.int .i64 T.epoch)).setCell ⟨w.heap.size + 1, 1, none⟩ (.string T.session)).setCell ⟨w.heap.size + 1, 2, none⟩ (.slice A7 T.typed.length c7)).setCell ⟨w.heap.size + 1, 3, none⟩ (.string T.screen)) = wf at y0 y1 y2 y3
          simp [results, Tryz.results94, go_sem, y0, y1, y2, y3]
  · skip
    have h0' : (le != 0) = true := by rw [bne_iff_ne]; exact h0
    rw [if_neg h0] at hI
    subst hI
    have H0 := Lib.hid h0; clear h0 hlt
    go_enter Tryz.func94, Tryz.ntmps94
    go_wp2_with fail
    refine (H35.out _).mono ?_
    rintro e w1 ⟨rfl, k1⟩
    have hb1 := HB.out.1.kpt k1 (fun e => e)
    have hb2 := HB.out.2.1.kpt k1 (fun e => e)
    have K1 := Lib.hid (Kpt.trans HB.out.2.2 k1 (fun _ e _ => e)); clear k1
    have HP := Lib.hid (fun w' (k : Kpt Non w1 w') => (And.intro ((hb1.kpt k (fun e => e)).cell 0) (And.intro ((hb1.kpt k (fun e => e)).cell 1) (And.intro ((hb1.kpt k (fun e => e)).cell 2) ((hb1.kpt k (fun e => e)).cell 3)))))
    have HQ := Lib.hid (fun w' (k : Kpt Non w1 w') => (And.intro ((hb2.kpt k (fun e => e)).cell 0) (And.intro ((hb2.kpt k (fun e => e)).cell 1) (And.intro ((hb2.kpt k (fun e => e)).cell 2) ((hb2.kpt k (fun e => e)).cell 3)))))
    have HF := Lib.hid (fun w' (k : Kpt Non w1 w') => (And.intro ((hb2.kpt k (fun e => e)).frozen 0) (And.intro ((hb2.kpt k (fun e => e)).frozen 1) (And.intro ((hb2.kpt k (fun e => e)).frozen 2) ((hb2.kpt k (fun e => e)).frozen 3)))))
    simp only [List.getElem?_toArray, List.getElem?_cons_zero, List.getElem?_cons_succ] at HP HQ
    have HB2 := Lib.hid hb2; clear hb1 hb2
    have hne : w.heap.size ≠ w.heap.size + 1 := by omega
    go_wp2_with fail
    go_region_held3 (fun w' => w'.cell? ⟨w.heap.size, 0, none⟩ = some (.int .i64 ep) ∧ w'.cell? ⟨w.heap.size, 1, none⟩ = some (.string ss) ∧ w'.cell? ⟨w.heap.size, 2, none⟩ = some (.slice A ls.length c) ∧ w'.cell? ⟨w.heap.size, 3, none⟩ = some (.string sc))
      (first | (refine HP.out _ ?_; ((repeat (first | with_reducible exact Kpt.refl _ _ | with_reducible apply Kpt.alloc | with_reducible apply Kpt.drew | with_reducible apply Kpt.drewN | (refine Kpt.trans (S' := Non) ?_ (by first | assumption | (apply Lib.Hid.out; assumption)) (fun _ e _ => e)))); done)) | (refine ⟨?_, ?_, ?_, ?_⟩ <;> simp [*, World.cell?_setCell_far]))
      (first | (go_at_call 22; ((with_reducible refine (H35.out _).mono ?_); rintro e w2 ⟨rfl, k2⟩; obtain ⟨r0, r1, r2, r3⟩ := HQ.out w2 (by ((repeat (first | with_reducible exact Kpt.refl _ _ | with_reducible apply Kpt.alloc | with_reducible apply Kpt.drew | with_reducible apply Kpt.drewN | (refine Kpt.trans (S' := Non) ?_ (by first | assumption | (apply Lib.Hid.out; assumption)) (fun _ e _ => e)))); done)); obtain ⟨g0, g1, g2, g3⟩ := HF.out w2 (by ((repeat (first | with_reducible exact Kpt.refl _ _ | with_reducible apply Kpt.alloc | with_reducible apply Kpt.drew | with_reducible apply Kpt.drewN | (refine Kpt.trans (S' := Non) ?_ (by first | assumption | (apply Lib.Hid.out; assumption)) (fun _ e _ => e)))); done)); obtain ⟨p0, p1, p2, p3⟩ := HP.out w2 (by ((repeat (first | with_reducible exact Kpt.refl _ _ | with_reducible apply Kpt.alloc | with_reducible apply Kpt.drew | with_reducible apply Kpt.drewN | (refine Kpt.trans (S' := Non) ?_ (by first | assumption | (apply Lib.Hid.out; assumption)) (fun _ e _ => e)))); done)))) | fail)
    go_wp2_with fail
    have hzf := (HB2.out.kpt (Kpt.undrew k2) (fun e => e)).set4 (.int .i64 ep) (.string ss) (.slice A ls.length c) (.string sc)
    have kf : Kpt Non w ((((w2.setCell ⟨w.heap.size + 1, 0, none⟩ (.int .i64 ep)).setCell ⟨w.heap.size + 1, 1, none⟩ (.string ss)).setCell ⟨w.heap.size + 1, 2, none⟩ (.slice A ls.length c)).setCell ⟨w.heap.size + 1, 3, none⟩ (.string sc)) := Kpt.set4 (Kpt.trans K1.out (Kpt.undrew k2) (fun _ e _ => e)) (fun h => absurd h (by omega)) _ _ _ _
    have y0 := hzf.cell 0
    have y1 := hzf.cell 1
    have y2 := hzf.cell 2
    have y3 := hzf.cell 3
    simp only [List.getElem?_toArray, List.getElem?_cons_zero, List.getElem?_cons_succ] at y0 y1 y2 y3
    refine bodyPost_ret (v := .tuple #[.agg #[(.int .i64 ep), (.string ss), (.slice A ls.length c), (.string sc)], .int .i64 le]) ?_ rfl ⟨_, rfl, ⟨A, c, rfl, hc1, hc2, (HR.out.kpt kf (fun _ _ e => e)).more (fun i hi => .inl hi)⟩, kf⟩
    clear kf hzf
    generalize ((((w2.setCell ⟨w.heap.size + 1, 0, none⟩ (.int .i64 ep)).setCell ⟨w.heap.size + 1, 1, none⟩ (.string ss)).setCell ⟨w.heap.size + 1, 2, none⟩ (.slice A ls.length c)).setCell ⟨w.heap.size + 1, 3, none⟩ (.string sc)) = wf at y0 y1 y2 y3
    simp [results, Tryz.results94, go_sem, y0, y1, y2, y3]
end Go.Proofs.YtkpmabknjdgkmaaGreatDoor

namespace Go.Proofs.YtkpmabknjdgkmaaGreatDoor
open Go.RowKit

set_option maxRecDepth 100000 in
set_option maxHeartbeats 1000000 in
theorem f179_any (t : Tm) (who : ByteArray) (v : Value) (D : Nat → Prop) (w : World) (hv : TmV w D t v) (hw : who.size ≤ 140737488351232) (hs : t.session.size ≤ 140737488351232) :
    Calls Tryz.prog 95 #[v, .string who] w fun e w' => ∃ v', e = .returned (.tuple #[v', .string (readL who t), .int .i64 (readT who t).2]) ∧ TmV w' (fun i => D i ∨ w.heap.size ≤ i) (readT who t).1 v' ∧ Kpt Non w w' := by
  have hI : readT who t = readT who t := rfl
  conv at hI => rhs; unfold readT
  generalize readT who t = X at hI ⊢
  have hL : readL who t = readL who t := rfl
  conv at hL => rhs; unfold readL
  generalize readL who t = Y at hL ⊢
  obtain ⟨A, c, rfl, hc1, hc2, hr⟩ := hv
  have HR := Lib.hid hr; clear hr
  obtain ⟨ep, ss, ls, sc⟩ := t
  simp only at hc1 HR ⊢
  have hR0 : Blk ((w.alloc (.cells #[.int .i64 ep, .string ss, .slice A ls.length c, .string sc] 44)).alloc (.cells #[.int .i64 0, .string ⟨#[]⟩, .slice none 0 0, .string ⟨#[]⟩] 44)) (w.heap.size + 1) 44 #[.int .i64 0, .string ⟨#[]⟩, .slice none 0 0, .string ⟨#[]⟩] := by
    have := Blk.new (w.alloc (.cells #[.int .i64 ep, .string ss, .slice A ls.length c, .string sc] 44)) 44 #[.int .i64 0, .string ⟨#[]⟩, .slice none 0 0, .string ⟨#[]⟩]
    simpa using this
  have hp0 : Blk ((w.alloc (.cells #[.int .i64 ep, .string ss, .slice A ls.length c, .string sc] 44)).alloc (.cells #[.int .i64 0, .string ⟨#[]⟩, .slice none 0 0, .string ⟨#[]⟩] 44)) w.heap.size 44 #[.int .i64 ep, .string ss, .slice A ls.length c, .string sc] := (Blk.new w 44 #[.int .i64 ep, .string ss, .slice A ls.length c, .string sc]).alloc _
  have k0 : Kpt Non w ((w.alloc (.cells #[.int .i64 ep, .string ss, .slice A ls.length c, .string sc] 44)).alloc (.cells #[.int .i64 0, .string ⟨#[]⟩, .slice none 0 0, .string ⟨#[]⟩] 44)) := Kpt.alloc (Kpt.alloc (Kpt.refl _ _) _) _
  have HR0 := Lib.hid hR0; have HP0 := Lib.hid hp0; have K0 := Lib.hid k0; clear hR0 hp0 k0
  simp only at hs
  have E218 := f218_any who ss hw hs ((w.alloc (.cells #[.int .i64 ep, .string ss, .slice A ls.length c, .string sc] 44)).alloc (.cells #[.int .i64 0, .string ⟨#[]⟩, .slice none 0 0, .string ⟨#[]⟩] 44))
  by_cases h0 : ss.size = 0
  · have h0' := isEmpty_true h0
    rw [if_neg (fun h => h.1 h0)] at hI hL
    subst hI hL
    have H := Lib.hid h0; clear h0 E218
    go_enter Tryz.func95, Tryz.ntmps95
    go_wp2_with fail
    have hzf : Blk ((w.alloc (.cells #[.int .i64 ep, .string ss, .slice A ls.length c, .string sc] 44)).alloc (.cells #[(.int .i64 ep), (.string ss), (.slice A ls.length c), (.string sc)] 44)) (w.heap.size + 1) 44 #[(.int .i64 ep), (.string ss), (.slice A ls.length c), (.string sc)] := by have := Blk.new (w.alloc (.cells #[.int .i64 ep, .string ss, .slice A ls.length c, .string sc] 44)) 44 #[(.int .i64 ep), (.string ss), (.slice A ls.length c), (.string sc)]; simpa using this
    have kf : Kpt Non w ((w.alloc (.cells #[.int .i64 ep, .string ss, .slice A ls.length c, .string sc] 44)).alloc (.cells #[(.int .i64 ep), (.string ss), (.slice A ls.length c), (.string sc)] 44)) := Kpt.alloc (Kpt.alloc (Kpt.refl _ _) _) _
    have y0 := hzf.cell 0
    have y1 := hzf.cell 1
    have y2 := hzf.cell 2
    have y3 := hzf.cell 3
    simp only [List.getElem?_toArray, List.getElem?_cons_zero, List.getElem?_cons_succ] at y0 y1 y2 y3
    refine bodyPost_ret (v := .tuple #[.agg #[(.int .i64 ep), (.string ss), (.slice A ls.length c), (.string sc)], .string ⟨#[]⟩, .int .i64 10]) ?_ rfl ⟨_, rfl, ⟨A, c, rfl, hc1, hc2, (HR.out.kpt kf (fun _ _ e => e)).more (fun i hi => .inl hi)⟩, kf⟩
    clear kf hzf
    generalize ((w.alloc (.cells #[.int .i64 ep, .string ss, .slice A ls.length c, .string sc] 44)).alloc (.cells #[(.int .i64 ep), (.string ss), (.slice A ls.length c), (.string sc)] 44)) = wf at y0 y1 y2 y3
    simp [results, Tryz.results95, go_sem, y0, y1, y2, y3]
  · have h0' := isEmpty_false h0
    by_cases hwi : withinB (bytesOf who) (bytesOf ss) = true
    · rw [if_pos ⟨h0, hwi⟩] at hI hL
      rw [show withinB who.data.toList ss.data.toList = true from hwi] at E218
      have H218 := Lib.hid E218; have H := Lib.hid h0; have HWi := Lib.hid hwi; clear E218 h0 hwi
      cases ls with
      | nil =>
        simp only [List.head?_nil, Option.getD_none] at hI hL
        subst hI hL
        simp only [List.length_nil] at *
        go_enter Tryz.func95, Tryz.ntmps95
        go_wp2_with fail
        refine H218.out.mono ?_
        rintro e w1 ⟨rfl, k1⟩
        have hR1 := HR0.out.kpt k1 (fun e => e)
        have hp1 := HP0.out.kpt k1 (fun e => e)
        have kk := Kpt.trans K0.out k1 (fun _ e _ => e)
        have p0 := hp1.cell 0
        have p1 := hp1.cell 1
        have p2 := hp1.cell 2
        have p3 := hp1.cell 3
        have r0 := hR1.cell 0
        have r1 := hR1.cell 1
        have r2 := hR1.cell 2
        have r3 := hR1.cell 3
        have g0 := hR1.frozen 0
        have g1 := hR1.frozen 1
        have g2 := hR1.frozen 2
        have g3 := hR1.frozen 3
        have q2 := hp1.frozen 2
        simp only [List.getElem?_toArray, List.getElem?_cons_zero, List.getElem?_cons_succ] at p0 p1 p2 p3 r0 r1 r2 r3
        have HR1 := Lib.hid hR1; have HP1 := Lib.hid hp1; have HK := Lib.hid kk; clear hR1 hp1 kk k1
        go_wp2_with fail
        have hzf : Blk ((((w1.setCell ⟨w.heap.size + 1, 0, none⟩ (.int .i64 ep)).setCell ⟨w.heap.size + 1, 1, none⟩ (.string ss)).setCell ⟨w.heap.size + 1, 2, none⟩ (.slice A 0 c)).setCell ⟨w.heap.size + 1, 3, none⟩ (.string sc)) (w.heap.size + 1) 44 #[(.int .i64 ep), (.string ss), (.slice A 0 c), (.string sc)] := (((HR1.out.set_ 0 _).set_ 1 _).set_ 2 _).set_ 3 _
        have kz : Kpt (One (w.heap.size + 1)) w1 ((((w1.setCell ⟨w.heap.size + 1, 0, none⟩ (.int .i64 ep)).setCell ⟨w.heap.size + 1, 1, none⟩ (.string ss)).setCell ⟨w.heap.size + 1, 2, none⟩ (.slice A 0 c)).setCell ⟨w.heap.size + 1, 3, none⟩ (.string sc)) := ((((Kpt.refl (One (w.heap.size + 1)) w1).setOne 0 _).setOne 1 _).setOne 2 _).setOne 3 _
        have kf : Kpt Non w ((((w1.setCell ⟨w.heap.size + 1, 0, none⟩ (.int .i64 ep)).setCell ⟨w.heap.size + 1, 1, none⟩ (.string ss)).setCell ⟨w.heap.size + 1, 2, none⟩ (.slice A 0 c)).setCell ⟨w.heap.size + 1, 3, none⟩ (.string sc)) := Kpt.trans HK.out kz (fun i e hlt => by have e' : i = w.heap.size + 1 := e; omega)
        have y0 := hzf.cell 0
        have y1 := hzf.cell 1
        have y2 := hzf.cell 2
        have y3 := hzf.cell 3
        simp only [List.getElem?_toArray, List.getElem?_cons_zero, List.getElem?_cons_succ] at y0 y1 y2 y3
        refine bodyPost_ret (v := .tuple #[.agg #[(.int .i64 ep), (.string ss), (.slice A 0 c), (.string sc)], .string ⟨#[]⟩, .int .i64 19]) ?_ rfl ⟨_, rfl, ⟨A, c, rfl, hc1, hc2, (HR.out.kpt kf (fun _ _ e => e)).more (fun i hi => .inl hi)⟩, kf⟩
        clear kf kz hzf
        generalize ((((w1.setCell ⟨w.heap.size + 1, 0, none⟩ (.int .i64 ep)).setCell ⟨w.heap.size + 1, 1, none⟩ (.string ss)).setCell ⟨w.heap.size + 1, 2, none⟩ (.slice A 0 c)).setCell ⟨w.heap.size + 1, 3, none⟩ (.string sc)) = wf at y0 y1 y2 y3
        simp [results, Tryz.results95, go_sem, y0, y1, y2, y3]
      | cons Y0 l =>
        simp only [List.head?_cons, Option.getD_some] at hI hL
        subst hI hL
        have hcpos : 1 ≤ c := by simp at hc1; omega
        have hcp' : (1 : Int) ≤ (c : Int) := by omega
        have hl1' : (1 : Int) ≤ (l.length : Int) + 1 := by omega
        obtain ⟨ad, u, rfl, had, hu, hcell⟩ := HR.out.at_ (k := 0) (by simp)
        simp only [List.map_cons, List.getElem?_cons_zero, Option.some.injEq] at hu
        subst hu
        have had0 : ad.add 0 = ad := by simp [Addr.add]
        rw [had0] at hcell
        have hrc := HR.out.cut (k := 1) (by simp) hc1
        simp only [Nat.mul_one, Option.map_some, List.length_cons, Nat.add_sub_cancel, List.map_cons, List.drop_succ_cons, List.drop_zero] at hrc
        simp only [List.length_cons] at *
        by_cases hcc : c = 1
        · subst hcc
          rw [if_pos rfl] at hrc
          obtain rfl : l = [] := by
            cases l with
            | nil => rfl
            | cons x l => simp at hc1
          go_enter Tryz.func95, Tryz.ntmps95
          go_wp2_with fail
          refine H218.out.mono ?_
          rintro e w1 ⟨rfl, k1⟩
          have hcell1 := k1.cellv (((cell_alloc_ (cell_alloc_ hcell _) _))) (fun e => e)
          have hR1 := HR0.out.kpt k1 (fun e => e)
          have hp1 := HP0.out.kpt k1 (fun e => e)
          have kk := Kpt.trans K0.out k1 (fun _ e _ => e)
          have p0 := hp1.cell 0
          have p1 := hp1.cell 1
          have p2 := hp1.cell 2
          have p3 := hp1.cell 3
          have r0 := hR1.cell 0
          have r1 := hR1.cell 1
          have r2 := hR1.cell 2
          have r3 := hR1.cell 3
          have g0 := hR1.frozen 0
          have g1 := hR1.frozen 1
          have g2 := hR1.frozen 2
          have g3 := hR1.frozen 3
          have q2 := hp1.frozen 2
          simp only [List.getElem?_toArray, List.getElem?_cons_zero, List.getElem?_cons_succ] at p0 p1 p2 p3 r0 r1 r2 r3
          have HR1 := Lib.hid hR1; have HP1 := Lib.hid hp1; have HK := Lib.hid kk; clear hR1 hp1 kk k1 hcell
          have HRC := Lib.hid hrc; clear hrc
          go_wp2_with fail
          have hzf := (HR1.out.far (p := ⟨w.heap.size, 2, none⟩) (by simp) (.slice (some ad) 0 0)).set4 (.int .i64 ep) (.string ss) (.slice (some ad) 0 0) (.string sc)
          have kf : Kpt Non w (((((w1.setCell ⟨w.heap.size, 2, none⟩ (.slice (some ad) 0 0)).setCell ⟨w.heap.size + 1, 0, none⟩ (.int .i64 ep)).setCell ⟨w.heap.size + 1, 1, none⟩ (.string ss)).setCell ⟨w.heap.size + 1, 2, none⟩ (.slice (some ad) 0 0)).setCell ⟨w.heap.size + 1, 3, none⟩ (.string sc)) := Kpt.set4 (HK.out.setCell (p := ⟨w.heap.size, 2, none⟩) (fun h => absurd h (Nat.lt_irrefl _)) _) (fun h => absurd h (by omega)) _ _ _ _
          have y0 := hzf.cell 0
          have y1 := hzf.cell 1
          have y2 := hzf.cell 2
          have y3 := hzf.cell 3
          simp only [List.getElem?_toArray, List.getElem?_cons_zero, List.getElem?_cons_succ] at y0 y1 y2 y3
          refine bodyPost_ret (v := .tuple #[.agg #[.int .i64 ep, .string ss, .slice (some ad) 0 0, .string sc], .string Y, .int .i64 0]) ?_ rfl ⟨_, rfl, ⟨some ad, 0, rfl, (by first | omega | (simp at hc1 ⊢; done) | (simp at hc1 ⊢; omega)), (by first | omega | simp [maxLen]), (HRC.out.kpt kf (fun _ _ e => e)).more (fun i hi => .inl hi)⟩, kf⟩
          clear kf hzf
          generalize (((((w1.setCell ⟨w.heap.size, 2, none⟩ (.slice (some ad) 0 0)).setCell ⟨w.heap.size + 1, 0, none⟩ (.int .i64 ep)).setCell ⟨w.heap.size + 1, 1, none⟩ (.string ss)).setCell ⟨w.heap.size + 1, 2, none⟩ (.slice (some ad) 0 0)).setCell ⟨w.heap.size + 1, 3, none⟩ (.string sc)) = wf at y0 y1 y2 y3
          simp [results, Tryz.results95, go_sem, y0, y1, y2, y3]
        · rw [if_neg hcc] at hrc
          go_enter Tryz.func95, Tryz.ntmps95
          go_wp2_with fail
          refine H218.out.mono ?_
          rintro e w1 ⟨rfl, k1⟩
          have hcell1 := k1.cellv (((cell_alloc_ (cell_alloc_ hcell _) _))) (fun e => e)
          have hR1 := HR0.out.kpt k1 (fun e => e)
          have hp1 := HP0.out.kpt k1 (fun e => e)
          have kk := Kpt.trans K0.out k1 (fun _ e _ => e)
          have p0 := hp1.cell 0
          have p1 := hp1.cell 1
          have p2 := hp1.cell 2
          have p3 := hp1.cell 3
          have r0 := hR1.cell 0
          have r1 := hR1.cell 1
          have r2 := hR1.cell 2
          have r3 := hR1.cell 3
          have g0 := hR1.frozen 0
          have g1 := hR1.frozen 1
          have g2 := hR1.frozen 2
          have g3 := hR1.frozen 3
          have q2 := hp1.frozen 2
          simp only [List.getElem?_toArray, List.getElem?_cons_zero, List.getElem?_cons_succ] at p0 p1 p2 p3 r0 r1 r2 r3
          have HR1 := Lib.hid hR1; have HP1 := Lib.hid hp1; have HK := Lib.hid kk; clear hR1 hp1 kk k1 hcell
          have HRC := Lib.hid hrc; clear hrc
          go_wp2_with fail
          have hzf := (HR1.out.far (p := ⟨w.heap.size, 2, none⟩) (by simp) (.slice (some ⟨ad.block, ad.off + 1, none⟩) l.length (c - 1))).set4 (.int .i64 ep) (.string ss) (.slice (some ⟨ad.block, ad.off + 1, none⟩) l.length (c - 1)) (.string sc)
          have kf : Kpt Non w (((((w1.setCell ⟨w.heap.size, 2, none⟩ (.slice (some ⟨ad.block, ad.off + 1, none⟩) l.length (c - 1))).setCell ⟨w.heap.size + 1, 0, none⟩ (.int .i64 ep)).setCell ⟨w.heap.size + 1, 1, none⟩ (.string ss)).setCell ⟨w.heap.size + 1, 2, none⟩ (.slice (some ⟨ad.block, ad.off + 1, none⟩) l.length (c - 1))).setCell ⟨w.heap.size + 1, 3, none⟩ (.string sc)) := Kpt.set4 (HK.out.setCell (p := ⟨w.heap.size, 2, none⟩) (fun h => absurd h (Nat.lt_irrefl _)) _) (fun h => absurd h (by omega)) _ _ _ _
          have y0 := hzf.cell 0
          have y1 := hzf.cell 1
          have y2 := hzf.cell 2
          have y3 := hzf.cell 3
          simp only [List.getElem?_toArray, List.getElem?_cons_zero, List.getElem?_cons_succ] at y0 y1 y2 y3
          refine bodyPost_ret (v := .tuple #[.agg #[.int .i64 ep, .string ss, .slice (some ⟨ad.block, ad.off + 1, none⟩) l.length (c - 1), .string sc], .string Y, .int .i64 0]) ?_ rfl ⟨_, rfl, ⟨some ⟨ad.block, ad.off + 1, none⟩, (c - 1), rfl, (by first | omega | (simp at hc1 ⊢; done) | (simp at hc1 ⊢; omega)), (by first | omega | simp [maxLen]), (HRC.out.kpt kf (fun _ _ e => e)).more (fun i hi => .inl hi)⟩, kf⟩
          clear kf hzf
          generalize (((((w1.setCell ⟨w.heap.size, 2, none⟩ (.slice (some ⟨ad.block, ad.off + 1, none⟩) l.length (c - 1))).setCell ⟨w.heap.size + 1, 0, none⟩ (.int .i64 ep)).setCell ⟨w.heap.size + 1, 1, none⟩ (.string ss)).setCell ⟨w.heap.size + 1, 2, none⟩ (.slice (some ⟨ad.block, ad.off + 1, none⟩) l.length (c - 1))).setCell ⟨w.heap.size + 1, 3, none⟩ (.string sc)) = wf at y0 y1 y2 y3
          simp [results, Tryz.results95, go_sem, y0, y1, y2, y3]
    · rw [if_neg (fun h => hwi h.2)] at hI hL
      subst hI hL
      rw [show withinB who.data.toList ss.data.toList = false by simpa [bytesOf] using hwi] at E218
      have H218 := Lib.hid E218; have H := Lib.hid h0; have HWi := Lib.hid hwi; clear E218 h0 hwi
      go_enter Tryz.func95, Tryz.ntmps95
      go_wp2_with fail
      refine H218.out.mono ?_
      rintro e w1 ⟨rfl, k1⟩
      have hR1 := HR0.out.kpt k1 (fun e => e)
      have hp1 := HP0.out.kpt k1 (fun e => e)
      have kk := Kpt.trans K0.out k1 (fun _ e _ => e)
      have p0 := hp1.cell 0
      have p1 := hp1.cell 1
      have p2 := hp1.cell 2
      have p3 := hp1.cell 3
      have r0 := hR1.cell 0
      have r1 := hR1.cell 1
      have r2 := hR1.cell 2
      have r3 := hR1.cell 3
      have g0 := hR1.frozen 0
      have g1 := hR1.frozen 1
      have g2 := hR1.frozen 2
      have g3 := hR1.frozen 3
      have q2 := hp1.frozen 2
      simp only [List.getElem?_toArray, List.getElem?_cons_zero, List.getElem?_cons_succ] at p0 p1 p2 p3 r0 r1 r2 r3
      have HR1 := Lib.hid hR1; have HP1 := Lib.hid hp1; have HK := Lib.hid kk; clear hR1 hp1 kk k1
      go_wp2_with fail
      have hzf : Blk ((((w1.setCell ⟨w.heap.size + 1, 0, none⟩ (.int .i64 ep)).setCell ⟨w.heap.size + 1, 1, none⟩ (.string ss)).setCell ⟨w.heap.size + 1, 2, none⟩ (.slice A ls.length c)).setCell ⟨w.heap.size + 1, 3, none⟩ (.string sc)) (w.heap.size + 1) 44 #[(.int .i64 ep), (.string ss), (.slice A ls.length c), (.string sc)] := (((HR1.out.set_ 0 _).set_ 1 _).set_ 2 _).set_ 3 _
      have kz : Kpt (One (w.heap.size + 1)) w1 ((((w1.setCell ⟨w.heap.size + 1, 0, none⟩ (.int .i64 ep)).setCell ⟨w.heap.size + 1, 1, none⟩ (.string ss)).setCell ⟨w.heap.size + 1, 2, none⟩ (.slice A ls.length c)).setCell ⟨w.heap.size + 1, 3, none⟩ (.string sc)) := ((((Kpt.refl (One (w.heap.size + 1)) w1).setOne 0 _).setOne 1 _).setOne 2 _).setOne 3 _
      have kf : Kpt Non w ((((w1.setCell ⟨w.heap.size + 1, 0, none⟩ (.int .i64 ep)).setCell ⟨w.heap.size + 1, 1, none⟩ (.string ss)).setCell ⟨w.heap.size + 1, 2, none⟩ (.slice A ls.length c)).setCell ⟨w.heap.size + 1, 3, none⟩ (.string sc)) := Kpt.trans HK.out kz (fun i e hlt => by have e' : i = w.heap.size + 1 := e; omega)
      have y0 := hzf.cell 0
      have y1 := hzf.cell 1
      have y2 := hzf.cell 2
      have y3 := hzf.cell 3
      simp only [List.getElem?_toArray, List.getElem?_cons_zero, List.getElem?_cons_succ] at y0 y1 y2 y3
      refine bodyPost_ret (v := .tuple #[.agg #[(.int .i64 ep), (.string ss), (.slice A ls.length c), (.string sc)], .string ⟨#[]⟩, .int .i64 10]) ?_ rfl ⟨_, rfl, ⟨A, c, rfl, hc1, hc2, (HR.out.kpt kf (fun _ _ e => e)).more (fun i hi => .inl hi)⟩, kf⟩
      clear kf kz hzf
      generalize ((((w1.setCell ⟨w.heap.size + 1, 0, none⟩ (.int .i64 ep)).setCell ⟨w.heap.size + 1, 1, none⟩ (.string ss)).setCell ⟨w.heap.size + 1, 2, none⟩ (.slice A ls.length c)).setCell ⟨w.heap.size + 1, 3, none⟩ (.string sc)) = wf at y0 y1 y2 y3
      simp [results, Tryz.results95, go_sem, y0, y1, y2, y3]
end Go.Proofs.YtkpmabknjdgkmaaGreatDoor
