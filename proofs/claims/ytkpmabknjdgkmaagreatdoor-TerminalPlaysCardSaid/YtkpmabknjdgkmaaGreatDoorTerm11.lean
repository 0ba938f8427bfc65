/- The walks of the terminal's method read, and of ReadLine. -/
import Derived.Test.YtkpmabknjdgkmaaGreatDoorTerm10
import Derived.Deep.RegionLaw
namespace Go.Proofs.YtkpmabknjdgkmaaGreatDoor
open Go.RowKit

/-- What read does to a terminal, and the line that it leaves in the request. -/
def readT (who : ByteArray) (t : Tm) : Tm × Int :=
  if t.session.size ≠ 0 ∧ withinB (bytesOf who) (bytesOf t.session) = true then
    (match t.typed with
      | [] => (t, 19)
      | _ :: l => (⟨t.epoch, t.session, l, t.screen⟩, 0))
  else (t, 10)
def readL (who : ByteArray) (t : Tm) : ByteArray :=
  if t.session.size ≠ 0 ∧ withinB (bytesOf who) (bytesOf t.session) = true then (t.typed.head?).getD es else es

theorem Kpt.setL {a w : World} {p q : Nat} (h : Kpt (fun i => i = p ∨ i = q) a w) (i : Nat) (v : Value) : Kpt (fun i => i = p ∨ i = q) a (w.setCell ⟨p, i, none⟩ v) := h.setCell (fun _ => .inl rfl) v
theorem Kpt.setR {a w : World} {p q : Nat} (h : Kpt (fun i => i = p ∨ i = q) a w) (i : Nat) (v : Value) : Kpt (fun i => i = p ∨ i = q) a (w.setCell ⟨q, i, none⟩ v) := h.setCell (fun _ => .inr rfl) v
theorem cell_far_ {w : World} {p q i : Nat} {u v : Value} (h : w.cell? ⟨p, i, none⟩ = some u) (hf : w.frozen? ⟨p, i, none⟩ = false) (hne : p ≠ q) : (w.setCell ⟨q, i, none⟩ v).cell? ⟨p, i, none⟩ = some u ∧ (w.setCell ⟨q, i, none⟩ v).frozen? ⟨p, i, none⟩ = false := by
  have k : Kpt (One q) w (w.setCell ⟨q, i, none⟩ v) := (Kpt.refl _ _).setOne i v
  exact ⟨k.cellv h hne, (k.frozen (p := ⟨p, i, none⟩) (World.block_lt_of_cell? w _ h) hne).trans hf⟩

section
variable {w w1 w2 : World} {tb q : Nat} {ep : Int} {ss sc who text x : ByteArray} {l : List ByteArray} {v0 A' : Value} {B : Option Addr} {c' : Nat} {D : Nat → Prop} {e : Ending}
theorem fin_core {wf : World} (hbf : Blk wf tb 36 #[.int .i64 ep, .string ss, .slice B l.length c', .string sc]) (hqf : Rq wf q who text x) (hof : wf.ownsRow w1.heap.size 9 1 (.slice B l.length c') l.length (l.map Value.string)) (kf : Kpt (fun i => i = tb ∨ i = q) w1 wf)
    (hca : l.length ≤ c') (hcb : c' ≤ maxLen) (he : e = .returned (.int .i64 0)) (k1 : Kpt Non w w1) (hs : w.heap.size ≤ w1.heap.size) (hdn : ¬ (D tb ∨ w.heap.size ≤ tb)) :
    e = .returned (.int .i64 0) ∧ TmB wf tb (fun i => D i ∨ w.heap.size ≤ i) ⟨ep, ss, l, sc⟩ ∧ Kpt (fun i => i = tb ∨ i = q) w wf ∧ Rq wf q who text x :=
  ⟨he, ⟨B, c', hbf, hca, hcb, (Rd.of_own hof).more (fun i hi => .inr (by omega)), hdn⟩, Kpt.trans k1.up kf (fun _ h _ => h), hqf⟩
theorem fin_qt (hb : Blk w1 tb 36 #[.int .i64 ep, .string ss, v0, .string sc]) (hq : Rq w1 q who text es) (ho : w2.ownsRow w1.heap.size 9 1 (.slice B l.length c') l.length (l.map Value.string)) (k : Kpt Non w1 w2) (hqt : q ≠ tb)
    (hca : l.length ≤ c') (hcb : c' ≤ maxLen) (he : e = .returned (.int .i64 0)) (k1 : Kpt Non w w1) (hs : w.heap.size ≤ w1.heap.size) (hdn : ¬ (D tb ∨ w.heap.size ≤ tb)) :
    e = .returned (.int .i64 0) ∧ TmB ((w2.setCell ⟨q, 2, none⟩ (.string x)).setCell ⟨tb, 2, none⟩ (.slice B l.length c')) tb (fun i => D i ∨ w.heap.size ≤ i) ⟨ep, ss, l, sc⟩ ∧ Kpt (fun i => i = tb ∨ i = q) w ((w2.setCell ⟨q, 2, none⟩ (.string x)).setCell ⟨tb, 2, none⟩ (.slice B l.length c')) ∧ Rq ((w2.setCell ⟨q, 2, none⟩ (.string x)).setCell ⟨tb, 2, none⟩ (.slice B l.length c')) q who text x := by
  have n1 : ∀ g, (Value.slice B l.length c').ownBlock = some g → ¬ (g = tb ∨ g = q) := fun g hg e => by
    have := (ho.lt g hg).1
    have h1 := hb.lt
    have h2 := Blk.lt hq
    omega
  exact fin_core (w1 := w1) (((hb.kpt k (fun e => e)).far (fun e => hqt e.symm) _).set_ 2 _) (((Blk.kpt hq k (fun e => e)).set_ 2 _).far hqt _) (own_kpt ho ((Kpt.setL (Kpt.setR (Kpt.refl (fun i => i = tb ∨ i = q) w2) 2 (.string x)) 2 _)) n1) (Kpt.setL (Kpt.setR k.up _ _) _ _) hca hcb he k1 hs hdn
theorem fin_tq (hb : Blk w1 tb 36 #[.int .i64 ep, .string ss, v0, .string sc]) (hq : Rq w1 q who text es) (ho : w2.ownsRow w1.heap.size 9 1 (.slice B l.length c') l.length (l.map Value.string)) (k : Kpt Non w1 w2) (hqt : q ≠ tb)
    (hca : l.length ≤ c') (hcb : c' ≤ maxLen) (he : e = .returned (.int .i64 0)) (k1 : Kpt Non w w1) (hs : w.heap.size ≤ w1.heap.size) (hdn : ¬ (D tb ∨ w.heap.size ≤ tb)) :
    e = .returned (.int .i64 0) ∧ TmB ((w2.setCell ⟨tb, 2, none⟩ (.slice B l.length c')).setCell ⟨q, 2, none⟩ (.string x)) tb (fun i => D i ∨ w.heap.size ≤ i) ⟨ep, ss, l, sc⟩ ∧ Kpt (fun i => i = tb ∨ i = q) w ((w2.setCell ⟨tb, 2, none⟩ (.slice B l.length c')).setCell ⟨q, 2, none⟩ (.string x)) ∧ Rq ((w2.setCell ⟨tb, 2, none⟩ (.slice B l.length c')).setCell ⟨q, 2, none⟩ (.string x)) q who text x := by
  have n1 : ∀ g, (Value.slice B l.length c').ownBlock = some g → ¬ (g = tb ∨ g = q) := fun g hg e => by
    have := (ho.lt g hg).1
    have h1 := hb.lt
    have h2 := Blk.lt hq
    omega
  exact fin_core (w1 := w1) (((hb.kpt k (fun e => e)).set_ 2 _).far (fun e => hqt e.symm) _) (((Blk.kpt hq k (fun e => e)).far hqt _).set_ 2 _) (own_kpt ho ((Kpt.setR (Kpt.setL (Kpt.refl (fun i => i = tb ∨ i = q) w2) 2 (.slice B l.length c')) 2 _)) n1) (Kpt.setR (Kpt.setL k.up _ _) _ _) hca hcb he k1 hs hdn
end

set_option maxRecDepth 100000 in
set_option maxHeartbeats 2000000 in
theorem f96_any (q tb : Nat) (who text : ByteArray) (D : Nat → Prop) (t : Tm) (w : World) (hq : Rq w q who text es) (h : TmB w tb D t) (hdq : ¬ D q) (hw : who.size ≤ 140737488351232) (hs : t.session.size ≤ 140737488351232) (h3 : t.typed.length ≤ 1048576) :
    Calls Tryz.prog 47 #[.pointer (some ⟨q, 0, none⟩), .pointer (some ⟨tb, 0, none⟩)] w fun e w' => e = .returned (.int .i64 (readT who t).2) ∧ TmB w' tb (fun i => D i ∨ w.heap.size ≤ i) (readT who t).1 ∧ Kpt (fun i => i = tb ∨ i = q) w w' ∧ Rq w' q who text (readL who t) := by
  have HT := Lib.hid h
  have hA : readT who t = readT who t := rfl
  conv at hA => rhs; unfold readT
  generalize readT who t = X at hA ⊢
  have hL : readL who t = readL who t := rfl
  conv at hL => rhs; unfold readL
  generalize readL who t = Y at hL ⊢
  obtain ⟨A, c, hb, hc1, hc2, hr, hd⟩ := h
  have htlt := hb.lt
  have hdn : ¬ (D tb ∨ w.heap.size ≤ tb) := fun e => by rcases e with e | e; exact hd e; omega
  have HTm := Lib.hid (HT.out.more (D' := fun i => D i ∨ w.heap.size ≤ i) (fun i h => .inl h) hdn)
  obtain ⟨ep, ss, ls, sc⟩ := t
  simp only at hb hc1 hr hA hL hs h3 ⊢
  have E33 := f33_any who ss hw hs
  have q0 := hq.cell 0
  have b1 := hb.cell 1
  simp only [List.getElem?_toArray, List.getElem?_cons_zero, List.getElem?_cons_succ] at q0 b1
  have HB := Lib.hid hb; have HQ := Lib.hid hq; have HR := Lib.hid hr; have HDn := Lib.hid hdn
  clear hb hq hr hdn
  by_cases h0 : ss.size = 0
  · rw [if_neg (by simp [h0])] at hA hL
    subst hA
    subst hL
    have h0' := isEmpty_true h0
    have H0 := Lib.hid h0; clear h0
    go_enter Tryz.func47, Tryz.ntmps47
    go_wp2_with fail
    go_quiet (fail)
    go_wp2_with fail
    go_ret
    exact ⟨rfl, HTm.out.non (Kpt.drewN (Kpt.refl _ _) _), (Kpt.drewN (Kpt.refl _ _) _), HQ.out.drewN _⟩
  · have h0' := isEmpty_false h0
    by_cases hwi : withinB (bytesOf who) (bytesOf ss) = true
    · rw [if_pos (by exact ⟨h0, hwi⟩)] at hA hL
      rw [show withinB who.data.toList ss.data.toList = true from hwi] at E33
      have H33 := Lib.hid E33; clear E33
      have H0 := Lib.hid h0; have HWi := Lib.hid hwi; clear h0 hwi
      go_enter Tryz.func47, Tryz.ntmps47
      go_wp2_with fail
      go_region_held3 (fun w' => w'.cell? ⟨q, 0, none⟩ = some (.string who) ∧ w'.cell? ⟨tb, 1, none⟩ = some (.string ss)) (first | exact ⟨q0, b1⟩ | exact ⟨k1.cellv q0 (fun e => e), k1.cellv b1 (fun e => e)⟩) (first | (go_at_call 20; refine (H33.out _).mono ?_; rintro e w1 ⟨rfl, k1⟩) | fail)
      have kk1 := Kpt.undrew k1
      have hb1 := HB.out.kpt kk1 (fun e => e)
      have hq1 := HQ.out.kpt kk1 (fun e => e)
      have b12 := hb1.cell 2
      have f12 := hb1.frozen 2
      have fq2 := hq1.frozen 2
      have cq2 := hq1.cell 2
      simp only [List.getElem?_toArray, List.getElem?_cons_zero, List.getElem?_cons_succ] at b12 cq2
      have HB1 := Lib.hid hb1; have HQ1 := Lib.hid hq1; have HR1 := Lib.hid (HR.out.kpt kk1 (fun _ _ e => e)); have KK1 := Lib.hid kk1
      clear hb1 hq1 kk1 k1
      cases ls with
      | nil =>
        simp only at hA hL
        subst hA
        subst hL
        go_wp2_with fail
        go_ret
        exact ⟨rfl, HTm.out.non KK1.out, KK1.out.up, HQ1.out⟩
      | cons x l =>
        simp only [List.head?_cons, Option.getD_some] at hA hL
        subst hA
        subst hL
        obtain ⟨ad, u, rfl, hda, hu, hcell⟩ := HR1.out.at_ (k := 0) (by simp)
        simp at hu
        subst hu
        have hsz1 := KK1.out.size
        have ha0 : ad.add 0 = ad := by unfold Addr.add; simp
        rw [ha0] at hcell
        have hqt : q ≠ tb := Blk.ne_ HQ.out HB.out (by decide)
        have hadq : ad.block ≠ q := fun e => hdq (e ▸ hda)
        have hadt : ad.block ≠ tb := fun e => hd (e ▸ hda)
        have hps : ∀ w', Kpt (fun i => i = tb ∨ i = q) w1 w' → w'.cell? ad = some (.string Y) := fun w' k => k.cellv hcell (fun e => by rcases e with e | e; exact hadt e; exact hadq e)
        have HPS := Lib.hid hps; clear hps
        have hbb : ∀ w', Kpt Non w1 w' → (w'.cell? ⟨tb, 2, none⟩ = some (.slice (some ad) (l.length + 1) c) ∧ w'.frozen? ⟨tb, 2, none⟩ = false ∧ w'.cell? ⟨q, 2, none⟩ = some (.string es) ∧ w'.frozen? ⟨q, 2, none⟩ = false) := fun w' k =>
          ⟨k.cellv b12 (fun e => e), (k.frozen (p := ⟨tb, 2, none⟩) HB1.out.lt (fun e => e)).trans f12, k.cellv cq2 (fun e => e), (k.frozen (p := ⟨q, 2, none⟩) HQ1.out.lt (fun e => e)).trans fq2⟩
        have HBB := Lib.hid hbb; clear hbb
        obtain ⟨bd, _, _, _⟩ := HBB.out w1.drew (Kpt.drew (Kpt.refl _ _))
        have pqd := HPS.out w1.drew (Kpt.up (Kpt.drew (Kpt.refl _ _)))
        have hc1' : (1 : Int) ≤ (c : Int) := by simp at hc1; omega
        have hl1' : (1 : Int) ≤ (l.length : Int) + 1 := by omega
        have hrc := HR1.out.cut (k := 1) (by simp) hc1
        simp only [Nat.mul_one, Option.map_some, List.length_cons, Nat.add_sub_cancel, List.map_cons, List.drop_succ_cons, List.drop_zero] at hrc
        have e163 := fun w' (k : Kpt Non w1 w') => f163_any w1.heap.size l.length (c - 1) _ D _ w' k.size (hrc.kpt k (fun _ _ e => e)) (by simp at h3; omega) (by simp at hc1; omega) (one_strs l)
        have H163 := Lib.hid e163; clear e163 hrc
        by_cases hcc : c = 1
        · subst hcc
          rw [if_pos rfl] at H163
          go_wp2_with fail
          go_region_law
            (first | (go_simp; go_at_call 79; refine (H163.out _ (by ((repeat (first | with_reducible exact Kpt.refl _ _ | with_reducible apply Kpt.alloc | with_reducible apply Kpt.drew | with_reducible apply Kpt.drewN | (refine Kpt.trans (S' := Non) ?_ (by first | assumption | (apply Lib.Hid.out; assumption)) (fun _ e _ => e)))); done))).mono ?_; rintro e w2 ⟨v', rfl, ho, hob, k2⟩; have pq2 := HPS.out w2 (Kpt.up (by ((repeat (first | with_reducible exact Kpt.refl _ _ | with_reducible apply Kpt.alloc | with_reducible apply Kpt.drew | with_reducible apply Kpt.drewN | (refine Kpt.trans (S' := Non) ?_ (by first | assumption | (apply Lib.Hid.out; assumption)) (fun _ e _ => e)))); done))); obtain ⟨A', c', rfl, hca, hcb⟩ := own_slice ho; have g2 := HBB.out w2 (by ((repeat (first | with_reducible exact Kpt.refl _ _ | with_reducible apply Kpt.alloc | with_reducible apply Kpt.drew | with_reducible apply Kpt.drewN | (refine Kpt.trans (S' := Non) ?_ (by first | assumption | (apply Lib.Hid.out; assumption)) (fun _ e _ => e)))); done)); have g3 := (fun v => (cell_far_ (q := q) (p := tb) (i := 2) (v := v) g2.1 g2.2.1 (fun e => hqt e.symm)).1); have g4 := (fun v => (cell_far_ (q := q) (p := tb) (i := 2) (v := v) g2.1 g2.2.1 (fun e => hqt e.symm)).2); have g5 := (fun v => (cell_far_ (q := tb) (p := q) (i := 2) (v := v) g2.2.2.1 g2.2.2.2 hqt).1); have g6 := (fun v => (cell_far_ (q := tb) (p := q) (i := 2) (v := v) g2.2.2.1 g2.2.2.2 hqt).2); obtain ⟨g21, g22, g23, g24⟩ := g2; have HO := Lib.hid ho; have HOB := Lib.hid hob; clear ho hob) | fail)
          all_goals go_wp2_with fail
          all_goals go_ret
          all_goals first
            | exact fin_qt HB1.out HQ1.out HO.out (Kpt.undrew k2) hqt hca hcb rfl KK1.out hsz1 HDn.out
            | exact fin_tq HB1.out HQ1.out HO.out (Kpt.undrew k2) hqt hca hcb rfl KK1.out hsz1 HDn.out
        · rw [if_neg hcc] at H163
          go_wp2_with fail
          go_region_law
            (first | (go_simp; go_at_call 79; refine (H163.out _ (by ((repeat (first | with_reducible exact Kpt.refl _ _ | with_reducible apply Kpt.alloc | with_reducible apply Kpt.drew | with_reducible apply Kpt.drewN | (refine Kpt.trans (S' := Non) ?_ (by first | assumption | (apply Lib.Hid.out; assumption)) (fun _ e _ => e)))); done))).mono ?_; rintro e w2 ⟨v', rfl, ho, hob, k2⟩; have pq2 := HPS.out w2 (Kpt.up (by ((repeat (first | with_reducible exact Kpt.refl _ _ | with_reducible apply Kpt.alloc | with_reducible apply Kpt.drew | with_reducible apply Kpt.drewN | (refine Kpt.trans (S' := Non) ?_ (by first | assumption | (apply Lib.Hid.out; assumption)) (fun _ e _ => e)))); done))); obtain ⟨A', c', rfl, hca, hcb⟩ := own_slice ho; have g2 := HBB.out w2 (by ((repeat (first | with_reducible exact Kpt.refl _ _ | with_reducible apply Kpt.alloc | with_reducible apply Kpt.drew | with_reducible apply Kpt.drewN | (refine Kpt.trans (S' := Non) ?_ (by first | assumption | (apply Lib.Hid.out; assumption)) (fun _ e _ => e)))); done)); have g3 := (fun v => (cell_far_ (q := q) (p := tb) (i := 2) (v := v) g2.1 g2.2.1 (fun e => hqt e.symm)).1); have g4 := (fun v => (cell_far_ (q := q) (p := tb) (i := 2) (v := v) g2.1 g2.2.1 (fun e => hqt e.symm)).2); have g5 := (fun v => (cell_far_ (q := tb) (p := q) (i := 2) (v := v) g2.2.2.1 g2.2.2.2 hqt).1); have g6 := (fun v => (cell_far_ (q := tb) (p := q) (i := 2) (v := v) g2.2.2.1 g2.2.2.2 hqt).2); obtain ⟨g21, g22, g23, g24⟩ := g2; have HO := Lib.hid ho; have HOB := Lib.hid hob; clear ho hob) | fail)
          all_goals go_wp2_with fail
          all_goals go_ret
          all_goals first
            | exact fin_qt HB1.out HQ1.out HO.out (Kpt.undrew k2) hqt hca hcb rfl KK1.out hsz1 HDn.out
            | exact fin_tq HB1.out HQ1.out HO.out (Kpt.undrew k2) hqt hca hcb rfl KK1.out hsz1 HDn.out
    · rw [if_neg (by simp [hwi])] at hA hL
      subst hA
      subst hL
      rw [show withinB who.data.toList ss.data.toList = false by simpa [bytesOf] using hwi] at E33
      have H33 := Lib.hid E33; clear E33
      have H0 := Lib.hid h0; have HWi := Lib.hid hwi; clear h0 hwi
      go_enter Tryz.func47, Tryz.ntmps47
      go_wp2_with fail
      go_region_held3 (fun w' => w'.cell? ⟨q, 0, none⟩ = some (.string who) ∧ w'.cell? ⟨tb, 1, none⟩ = some (.string ss)) (first | exact ⟨q0, b1⟩ | exact ⟨k1.cellv q0 (fun e => e), k1.cellv b1 (fun e => e)⟩) (first | (go_at_call 20; refine (H33.out _).mono ?_; rintro e w1 ⟨rfl, k1⟩) | fail)
      all_goals go_wp2_with fail
      all_goals go_ret
      all_goals exact ⟨rfl, HTm.out.non (Kpt.undrew k1), (Kpt.undrew k1).up, HQ.out.kpt (Kpt.undrew k1) (fun e => e)⟩
end Go.Proofs.YtkpmabknjdgkmaaGreatDoor
