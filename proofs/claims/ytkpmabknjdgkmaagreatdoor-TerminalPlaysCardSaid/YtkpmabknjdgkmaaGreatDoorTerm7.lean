/- The walk of terminal.Get. -/
import Derived.Test.YtkpmabknjdgkmaaGreatDoorTerm6
namespace Go.Proofs.YtkpmabknjdgkmaaGreatDoor
open Go.RowKit

def tName (number : Int) : Nm := ofTerminal number
def emptyT (epoch : Int) : Tm := ⟨epoch, es, [], es⟩

/-- What Get answers of a view, at a good number. -/
def getT (m : VwM) (number epoch : Int) : Tm × Int :=
  if (1 ≤ number ∧ number ≤ 99) ∧ (0 ≤ epoch ∧ epoch ≤ 1073741824) then
    (if (m.get (ofTerminal number)).2 = true then
      (if (decT (bytesOf (m.get (ofTerminal number)).1)).2 = 0 ∧ (decT (bytesOf (m.get (ofTerminal number)).1)).1.epoch ≠ epoch then (emptyT epoch, 0) else decT (bytesOf (m.get (ofTerminal number)).1))
    else (emptyT epoch, 0))
  else (zeroT, 2)

def getM (m : VwM) (number epoch : Int) : VwM := if (1 ≤ number ∧ number ≤ 99) ∧ (0 ≤ epoch ∧ epoch ≤ 1073741824) then m.got (ofTerminal number) else m

theorem okNm_terminal (n : Int) (h0 : 0 ≤ n) (h1 : n ≤ 1073741824) : OkNm (ofTerminal n) := fun w => f121_terminal n h0 h1 w

theorem TmV.more {w : World} {D D' : Nat → Prop} {t : Tm} {v : Value} (h : TmV w D t v) (hD : ∀ i, D i → D' i) : TmV w D' t v := by
  obtain ⟨A, c, h1, h2, h3, h4⟩ := h
  exact ⟨A, c, h1, h2, h3, h4.more hD⟩
theorem TmV.kpt {S : Nat → Prop} {w w' : World} {D : Nat → Prop} {t : Tm} {v : Value} (h : TmV w D t v) (k : Kpt S w w') (hd : ∀ i, D i → ¬ S i) : TmV w' D t v := by
  obtain ⟨A, c, h1, h2, h3, h4⟩ := h
  exact ⟨A, c, h1, h2, h3, h4.kpt k hd⟩

set_option maxRecDepth 100000 in
set_option maxHeartbeats 2000000 in
theorem f30_in (K : Nm → Prop) (bs : Nat) (w : World) (sa : Addr) (b r n : Nat) (m : VwM) (hv : IsView K bs w sa b r n m) (number epoch : Int) (hn : 1 ≤ number ∧ number ≤ 99) (hK : K (ofTerminal number)) (hsz : (m.get (ofTerminal number)).1.size ≤ 1099511627776) :
    Calls Tryz.prog 17 #[.pointer (some ⟨b, 0, none⟩), .int .i64 number, .int .i64 epoch] w fun e w' => ∃ v, e = .returned (.tuple #[v, .int .i64 (getT m number epoch).2]) ∧ TmV w' (fun i => w.heap.size ≤ i) (getT m number epoch).1 v ∧ Kpt (One r) w w' ∧ IsView K bs w' sa b r n (getM m number epoch) := by
  have hA : getT m number epoch = getT m number epoch := rfl
  conv at hA => rhs; unfold getT
  generalize getT m number epoch = X at hA ⊢
  have hG : getM m number epoch = if (1 ≤ number ∧ number ≤ 99) ∧ (0 ≤ epoch ∧ epoch ≤ 1073741824) then m.got (ofTerminal number) else m := rfl
  generalize getM m number epoch = Y at hG ⊢
  have E49 := f49_any number
  have E97 := f97_any epoch
  have E48 := fun w1 (h : IsView K bs w1 sa b r n m) => f48_any K bs w1 sa b r n m h (ofTerminal number) hK (okNm_terminal number (by omega) (by omega))
  have HV := Lib.hid hv
  have H48 := Lib.hid E48
  have H49 := Lib.hid E49
  have hrw := hv.rd.lt
  clear E48 E49 hv
  have hn1 := hn.1
  have hn2 := hn.2
  have n1 : ¬ number < 1 := by omega
  have n2 : ¬ 99 < number := by omega
  by_cases he : 0 ≤ epoch ∧ epoch ≤ 1073741824
  · rw [if_pos ⟨hn, he⟩] at hA hG
    subst hG
    rw [show decide (0 ≤ epoch ∧ epoch ≤ 1073741824) = true by simp [he]] at E97
    have H97 := Lib.hid E97; clear E97
    go_enter Tryz.func17, Tryz.ntmps17
    go_wp2_with fail
    refine (H97.out _).mono ?_
    rintro e w1 ⟨rfl, rfl⟩
    go_wp2_with fail
    refine (H49.out _).mono ?_
    rintro e w2 ⟨rfl, k2⟩
    have hz2 := (Blk.new w 36 #[.int .i64 0, .string ⟨#[]⟩, .slice none 0 0, .string ⟨#[]⟩]).kpt k2 (fun e => e)
    have hv2 := HV.out.non (Kpt.trans (Kpt.alloc (Kpt.refl _ _) _) k2 (fun _ e _ => e))
    have HZ2 := Lib.hid hz2; have HV2 := Lib.hid hv2; have K2 := Lib.hid k2; clear hz2 hv2 k2
    have e48 := H48.out _ HV2.out
    generalize hp : m.get (ofTerminal number) = p at e48 hsz hA
    obtain ⟨val, is⟩ := p
    simp only at e48 hsz hA
    have HP := Lib.hid hp; clear hp
    have HE48 := Lib.hid e48; clear e48
    go_wp2_with fail
    refine HE48.out.mono ?_
    rintro e w3 ⟨rfl, k3, hv3⟩
    have hz3 := HZ2.out.kpt k3 (fun e => by have e' : w.heap.size = r := e; omega)
    have HZ3 := Lib.hid hz3; have HV3 := Lib.hid hv3; have K3 := Lib.hid k3; clear hv3 k3
    have z0 := hz3.cell 0
    have z1 := hz3.cell 1
    have z2 := hz3.cell 2
    have z3 := hz3.cell 3
    have fz0 := hz3.frozen 0
    have fz1 := hz3.frozen 1
    have fz2 := hz3.frozen 2
    have fz3 := hz3.frozen 3
    simp only [List.getElem?_toArray, List.getElem?_cons_zero, List.getElem?_cons_succ] at z0 z1 z2 z3
    clear hz3
    cases is with
    | false =>
      rw [if_neg (by simp)] at hA
      subst hA
      go_wp2_with fail
      have hzf : Blk ((((w3.setCell ⟨w.heap.size, 0, none⟩ (.int .i64 epoch)).setCell ⟨w.heap.size, 1, none⟩ (.string ⟨#[]⟩)).setCell ⟨w.heap.size, 2, none⟩ (.slice none 0 0)).setCell ⟨w.heap.size, 3, none⟩ (.string ⟨#[]⟩)) w.heap.size 36 #[.int .i64 epoch, .string ⟨#[]⟩, .slice none 0 0, .string ⟨#[]⟩] := (((HZ3.out.set_ 0 _).set_ 1 _).set_ 2 _).set_ 3 _
      have kset : ∀ (x : World) (i : Nat) (v : Value) (S : Nat → Prop), Kpt S w x → Kpt S w (x.setCell ⟨w.heap.size, i, none⟩ v) := fun x i v S k => k.setCell (fun h => absurd h (Nat.lt_irrefl _)) v
      have kz : Kpt (One w.heap.size) w3 ((((w3.setCell ⟨w.heap.size, 0, none⟩ (.int .i64 epoch)).setCell ⟨w.heap.size, 1, none⟩ (.string ⟨#[]⟩)).setCell ⟨w.heap.size, 2, none⟩ (.slice none 0 0)).setCell ⟨w.heap.size, 3, none⟩ (.string ⟨#[]⟩)) := ((((Kpt.refl (One w.heap.size) w3).setOne 0 _).setOne 1 _).setOne 2 _).setOne 3 _
      have kf : Kpt (One r) w ((((w3.setCell ⟨w.heap.size, 0, none⟩ (.int .i64 epoch)).setCell ⟨w.heap.size, 1, none⟩ (.string ⟨#[]⟩)).setCell ⟨w.heap.size, 2, none⟩ (.slice none 0 0)).setCell ⟨w.heap.size, 3, none⟩ (.string ⟨#[]⟩)) := kset _ _ _ _ (kset _ _ _ _ (kset _ _ _ _ (kset _ _ _ _ (Kpt.trans (Kpt.trans (Kpt.alloc (Kpt.refl (One r) w) _) K2.out.up (fun _ h _ => h)) K3.out (fun _ h _ => h)))))
      have y0 := hzf.cell 0
      have y1 := hzf.cell 1
      have y2 := hzf.cell 2
      have y3 := hzf.cell 3
      simp only [List.getElem?_toArray, List.getElem?_cons_zero, List.getElem?_cons_succ] at y0 y1 y2 y3
      refine bodyPost_ret (v := .tuple #[.agg #[.int .i64 epoch, .string ⟨#[]⟩, .slice none 0 0, .string ⟨#[]⟩], .int .i64 0]) ?_ rfl ⟨_, rfl, ⟨none, 0, rfl, Nat.le_refl _, by simp [maxLen], Rd.nil _ _ _ _⟩, kf, HV3.out.one HZ3.out HV.out.size (by decide) (by decide) kz⟩
      generalize ((((w3.setCell ⟨w.heap.size, 0, none⟩ (.int .i64 epoch)).setCell ⟨w.heap.size, 1, none⟩ (.string ⟨#[]⟩)).setCell ⟨w.heap.size, 2, none⟩ (.slice none 0 0)).setCell ⟨w.heap.size, 3, none⟩ (.string ⟨#[]⟩)) = wf at y0 y1 y2 y3
      simp [results, Tryz.results17, go_sem, y0, y1, y2, y3]
    | true =>
      rw [if_pos rfl] at hA
      go_wp2_with fail
      have e39 := f39_any val w3 hsz
      generalize hd : decT (bytesOf val) = d at e39 hA
      obtain ⟨t, err⟩ := d
      simp only at e39 hA
      have HDc := Lib.hid hd; clear hd
      have HE39 := Lib.hid e39; clear e39
      refine HE39.out.mono ?_
      rintro e w4 ⟨v, rfl, hvt, k4⟩
      obtain ⟨A, c, rfl, hcA, hcB, hrd⟩ := hvt
      have hz4 := HZ3.out.kpt k4 (fun e => e)
      have hv4 := HV3.out.non k4
      have HZ4 := Lib.hid hz4; have HV4 := Lib.hid hv4; have K4 := Lib.hid k4; have HRd := Lib.hid hrd; clear hv4 k4 hrd
      have za : ∀ (o : Obj) (i : Nat) (v : Value), #[Value.int .i64 0, .string ⟨#[]⟩, .slice none 0 0, .string ⟨#[]⟩][i]? = some v → (w4.alloc o).cell? ⟨w.heap.size, i, none⟩ = some v := fun o i v h => cell_alloc_ ((hz4.cell i).trans h) o
      have zf : ∀ (o : Obj) (i : Nat), (w4.alloc o).frozen? ⟨w.heap.size, i, none⟩ = false := fun o i => (hz4.alloc o).frozen i
      have z0 := fun o => za o 0 _ rfl
      have z1 := fun o => za o 1 _ rfl
      have z2 := fun o => za o 2 _ rfl
      have z3 := fun o => za o 3 _ rfl
      have fz0 := fun o => zf o 0
      have fz1 := fun o => zf o 1
      have fz2 := fun o => zf o 2
      have fz3 := fun o => zf o 3
      clear hz4 za zf
      by_cases h0 : err = 0
      · subst h0
        by_cases h1 : t.epoch = epoch
        · rw [if_neg (by simp [h1])] at hA
          subst hA
          have h1' : (t.epoch != epoch) = false := by rw [bne_eq_false_iff_eq]; exact h1
          have H1 := Lib.hid h1; clear h1
          go_wp2_with fail
          have hzf : Blk (((((w4.alloc (.cells #[.int .i64 t.epoch, .string t.session, .slice A t.typed.length c, .string t.screen] 36)).setCell ⟨w.heap.size, 0, none⟩ (.int .i64 t.epoch)).setCell ⟨w.heap.size, 1, none⟩ (.string t.session)).setCell ⟨w.heap.size, 2, none⟩ (.slice A t.typed.length c)).setCell ⟨w.heap.size, 3, none⟩ (.string t.screen)) w.heap.size 36 #[.int .i64 t.epoch, .string t.session, .slice A t.typed.length c, .string t.screen] := ((((HZ4.out.alloc (.cells #[.int .i64 t.epoch, .string t.session, .slice A t.typed.length c, .string t.screen] 36)).set_ 0 _).set_ 1 _).set_ 2 _).set_ 3 _
          have kset : ∀ (x : World) (i : Nat) (v : Value) (S : Nat → Prop), Kpt S w x → Kpt S w (x.setCell ⟨w.heap.size, i, none⟩ v) := fun x i v S k => k.setCell (fun h => absurd h (Nat.lt_irrefl _)) v
          have kz : Kpt (One w.heap.size) (w4.alloc (.cells #[.int .i64 t.epoch, .string t.session, .slice A t.typed.length c, .string t.screen] 36)) (((((w4.alloc (.cells #[.int .i64 t.epoch, .string t.session, .slice A t.typed.length c, .string t.screen] 36)).setCell ⟨w.heap.size, 0, none⟩ (.int .i64 t.epoch)).setCell ⟨w.heap.size, 1, none⟩ (.string t.session)).setCell ⟨w.heap.size, 2, none⟩ (.slice A t.typed.length c)).setCell ⟨w.heap.size, 3, none⟩ (.string t.screen)) := ((((Kpt.refl (One w.heap.size) (w4.alloc (.cells #[.int .i64 t.epoch, .string t.session, .slice A t.typed.length c, .string t.screen] 36))).setOne 0 _).setOne 1 _).setOne 2 _).setOne 3 _
          have kf : Kpt (One r) w (((((w4.alloc (.cells #[.int .i64 t.epoch, .string t.session, .slice A t.typed.length c, .string t.screen] 36)).setCell ⟨w.heap.size, 0, none⟩ (.int .i64 t.epoch)).setCell ⟨w.heap.size, 1, none⟩ (.string t.session)).setCell ⟨w.heap.size, 2, none⟩ (.slice A t.typed.length c)).setCell ⟨w.heap.size, 3, none⟩ (.string t.screen)) := kset _ _ _ _ (kset _ _ _ _ (kset _ _ _ _ (kset _ _ _ _ (Kpt.alloc (Kpt.trans (Kpt.trans (Kpt.trans (Kpt.alloc (Kpt.refl (One r) w) _) K2.out.up (fun _ h _ => h)) K3.out (fun _ h _ => h)) K4.out.up (fun _ h _ => h)) (.cells #[.int .i64 t.epoch, .string t.session, .slice A t.typed.length c, .string t.screen] 36)))))
          have y0 := hzf.cell 0
          have y1 := hzf.cell 1
          have y2 := hzf.cell 2
          have y3 := hzf.cell 3
          simp only [List.getElem?_toArray, List.getElem?_cons_zero, List.getElem?_cons_succ] at y0 y1 y2 y3
          refine bodyPost_ret (v := .tuple #[.agg #[.int .i64 t.epoch, .string t.session, .slice A t.typed.length c, .string t.screen], .int .i64 0]) ?_ rfl ⟨_, rfl, ⟨A, c, rfl, hcA, hcB, (((HRd.out.more (fun i hi => (by have := HZ3.out.lt; have h' : w3.heap.size ≤ i := hi; omega : w.heap.size < i))).alloc (.cells #[.int .i64 t.epoch, .string t.session, .slice A t.typed.length c, .string t.screen] 36)).kpt kz (fun i hi e => by have e' : i = w.heap.size := e; have h' : w.heap.size < i := hi; omega)).more (fun i hi => Nat.le_of_lt hi)⟩, kf, (HV4.out.non (Kpt.alloc (Kpt.refl _ _) (.cells #[.int .i64 t.epoch, .string t.session, .slice A t.typed.length c, .string t.screen] 36))).one (HZ4.out.alloc (.cells #[.int .i64 t.epoch, .string t.session, .slice A t.typed.length c, .string t.screen] 36)) HV.out.size (by decide) (by decide) kz⟩
          generalize (((((w4.alloc (.cells #[.int .i64 t.epoch, .string t.session, .slice A t.typed.length c, .string t.screen] 36)).setCell ⟨w.heap.size, 0, none⟩ (.int .i64 t.epoch)).setCell ⟨w.heap.size, 1, none⟩ (.string t.session)).setCell ⟨w.heap.size, 2, none⟩ (.slice A t.typed.length c)).setCell ⟨w.heap.size, 3, none⟩ (.string t.screen)) = wf at y0 y1 y2 y3
          simp [results, Tryz.results17, go_sem, y0, y1, y2, y3]
        · rw [if_pos (by simp [h1])] at hA
          subst hA
          have h1' : (t.epoch != epoch) = true := by rw [bne_iff_ne]; exact h1
          have H1 := Lib.hid h1; clear h1
          go_wp2_with fail
          have hzf : Blk (((((w4.alloc (.cells #[.int .i64 t.epoch, .string t.session, .slice A t.typed.length c, .string t.screen] 36)).setCell ⟨w.heap.size, 0, none⟩ (.int .i64 epoch)).setCell ⟨w.heap.size, 1, none⟩ (.string ⟨#[]⟩)).setCell ⟨w.heap.size, 2, none⟩ (.slice none 0 0)).setCell ⟨w.heap.size, 3, none⟩ (.string ⟨#[]⟩)) w.heap.size 36 #[.int .i64 epoch, .string ⟨#[]⟩, .slice none 0 0, .string ⟨#[]⟩] := ((((HZ4.out.alloc (.cells #[.int .i64 t.epoch, .string t.session, .slice A t.typed.length c, .string t.screen] 36)).set_ 0 _).set_ 1 _).set_ 2 _).set_ 3 _
          have kset : ∀ (x : World) (i : Nat) (v : Value) (S : Nat → Prop), Kpt S w x → Kpt S w (x.setCell ⟨w.heap.size, i, none⟩ v) := fun x i v S k => k.setCell (fun h => absurd h (Nat.lt_irrefl _)) v
          have kz : Kpt (One w.heap.size) (w4.alloc (.cells #[.int .i64 t.epoch, .string t.session, .slice A t.typed.length c, .string t.screen] 36)) (((((w4.alloc (.cells #[.int .i64 t.epoch, .string t.session, .slice A t.typed.length c, .string t.screen] 36)).setCell ⟨w.heap.size, 0, none⟩ (.int .i64 epoch)).setCell ⟨w.heap.size, 1, none⟩ (.string ⟨#[]⟩)).setCell ⟨w.heap.size, 2, none⟩ (.slice none 0 0)).setCell ⟨w.heap.size, 3, none⟩ (.string ⟨#[]⟩)) := ((((Kpt.refl (One w.heap.size) (w4.alloc (.cells #[.int .i64 t.epoch, .string t.session, .slice A t.typed.length c, .string t.screen] 36))).setOne 0 _).setOne 1 _).setOne 2 _).setOne 3 _
          have kf : Kpt (One r) w (((((w4.alloc (.cells #[.int .i64 t.epoch, .string t.session, .slice A t.typed.length c, .string t.screen] 36)).setCell ⟨w.heap.size, 0, none⟩ (.int .i64 epoch)).setCell ⟨w.heap.size, 1, none⟩ (.string ⟨#[]⟩)).setCell ⟨w.heap.size, 2, none⟩ (.slice none 0 0)).setCell ⟨w.heap.size, 3, none⟩ (.string ⟨#[]⟩)) := kset _ _ _ _ (kset _ _ _ _ (kset _ _ _ _ (kset _ _ _ _ (Kpt.alloc (Kpt.trans (Kpt.trans (Kpt.trans (Kpt.alloc (Kpt.refl (One r) w) _) K2.out.up (fun _ h _ => h)) K3.out (fun _ h _ => h)) K4.out.up (fun _ h _ => h)) (.cells #[.int .i64 t.epoch, .string t.session, .slice A t.typed.length c, .string t.screen] 36)))))
          have y0 := hzf.cell 0
          have y1 := hzf.cell 1
          have y2 := hzf.cell 2
          have y3 := hzf.cell 3
          simp only [List.getElem?_toArray, List.getElem?_cons_zero, List.getElem?_cons_succ] at y0 y1 y2 y3
          refine bodyPost_ret (v := .tuple #[.agg #[.int .i64 epoch, .string ⟨#[]⟩, .slice none 0 0, .string ⟨#[]⟩], .int .i64 0]) ?_ rfl ⟨_, rfl, ⟨none, 0, rfl, Nat.le_refl _, by simp [maxLen], Rd.nil _ _ _ _⟩, kf, (HV4.out.non (Kpt.alloc (Kpt.refl _ _) (.cells #[.int .i64 t.epoch, .string t.session, .slice A t.typed.length c, .string t.screen] 36))).one (HZ4.out.alloc (.cells #[.int .i64 t.epoch, .string t.session, .slice A t.typed.length c, .string t.screen] 36)) HV.out.size (by decide) (by decide) kz⟩
          generalize (((((w4.alloc (.cells #[.int .i64 t.epoch, .string t.session, .slice A t.typed.length c, .string t.screen] 36)).setCell ⟨w.heap.size, 0, none⟩ (.int .i64 epoch)).setCell ⟨w.heap.size, 1, none⟩ (.string ⟨#[]⟩)).setCell ⟨w.heap.size, 2, none⟩ (.slice none 0 0)).setCell ⟨w.heap.size, 3, none⟩ (.string ⟨#[]⟩)) = wf at y0 y1 y2 y3
          simp [results, Tryz.results17, go_sem, y0, y1, y2, y3]
      · rw [if_neg (by simp [h0])] at hA
        subst hA
        have h0' : (err == 0) = false := by rw [beq_eq_false_iff_ne]; exact h0
        have H0 := Lib.hid h0
        clear h0
        go_wp2_with fail
        all_goals first | (exfalso; exact H0.out (by assumption)) | skip
        have hzf : Blk (((((w4.alloc (.cells #[.int .i64 t.epoch, .string t.session, .slice A t.typed.length c, .string t.screen] 36)).setCell ⟨w.heap.size, 0, none⟩ (.int .i64 t.epoch)).setCell ⟨w.heap.size, 1, none⟩ (.string t.session)).setCell ⟨w.heap.size, 2, none⟩ (.slice A t.typed.length c)).setCell ⟨w.heap.size, 3, none⟩ (.string t.screen)) w.heap.size 36 #[.int .i64 t.epoch, .string t.session, .slice A t.typed.length c, .string t.screen] := ((((HZ4.out.alloc (.cells #[.int .i64 t.epoch, .string t.session, .slice A t.typed.length c, .string t.screen] 36)).set_ 0 _).set_ 1 _).set_ 2 _).set_ 3 _
        have kset : ∀ (x : World) (i : Nat) (v : Value) (S : Nat → Prop), Kpt S w x → Kpt S w (x.setCell ⟨w.heap.size, i, none⟩ v) := fun x i v S k => k.setCell (fun h => absurd h (Nat.lt_irrefl _)) v
        have kz : Kpt (One w.heap.size) (w4.alloc (.cells #[.int .i64 t.epoch, .string t.session, .slice A t.typed.length c, .string t.screen] 36)) (((((w4.alloc (.cells #[.int .i64 t.epoch, .string t.session, .slice A t.typed.length c, .string t.screen] 36)).setCell ⟨w.heap.size, 0, none⟩ (.int .i64 t.epoch)).setCell ⟨w.heap.size, 1, none⟩ (.string t.session)).setCell ⟨w.heap.size, 2, none⟩ (.slice A t.typed.length c)).setCell ⟨w.heap.size, 3, none⟩ (.string t.screen)) := ((((Kpt.refl (One w.heap.size) (w4.alloc (.cells #[.int .i64 t.epoch, .string t.session, .slice A t.typed.length c, .string t.screen] 36))).setOne 0 _).setOne 1 _).setOne 2 _).setOne 3 _
        have kf : Kpt (One r) w (((((w4.alloc (.cells #[.int .i64 t.epoch, .string t.session, .slice A t.typed.length c, .string t.screen] 36)).setCell ⟨w.heap.size, 0, none⟩ (.int .i64 t.epoch)).setCell ⟨w.heap.size, 1, none⟩ (.string t.session)).setCell ⟨w.heap.size, 2, none⟩ (.slice A t.typed.length c)).setCell ⟨w.heap.size, 3, none⟩ (.string t.screen)) := kset _ _ _ _ (kset _ _ _ _ (kset _ _ _ _ (kset _ _ _ _ (Kpt.alloc (Kpt.trans (Kpt.trans (Kpt.trans (Kpt.alloc (Kpt.refl (One r) w) _) K2.out.up (fun _ h _ => h)) K3.out (fun _ h _ => h)) K4.out.up (fun _ h _ => h)) (.cells #[.int .i64 t.epoch, .string t.session, .slice A t.typed.length c, .string t.screen] 36)))))
        have y0 := hzf.cell 0
        have y1 := hzf.cell 1
        have y2 := hzf.cell 2
        have y3 := hzf.cell 3
        simp only [List.getElem?_toArray, List.getElem?_cons_zero, List.getElem?_cons_succ] at y0 y1 y2 y3
        refine bodyPost_ret (v := .tuple #[.agg #[.int .i64 t.epoch, .string t.session, .slice A t.typed.length c, .string t.screen], .int .i64 err]) ?_ rfl ⟨_, rfl, ⟨A, c, rfl, hcA, hcB, (((HRd.out.more (fun i hi => (by have := HZ3.out.lt; have h' : w3.heap.size ≤ i := hi; omega : w.heap.size < i))).alloc (.cells #[.int .i64 t.epoch, .string t.session, .slice A t.typed.length c, .string t.screen] 36)).kpt kz (fun i hi e => by have e' : i = w.heap.size := e; have h' : w.heap.size < i := hi; omega)).more (fun i hi => Nat.le_of_lt hi)⟩, kf, (HV4.out.non (Kpt.alloc (Kpt.refl _ _) (.cells #[.int .i64 t.epoch, .string t.session, .slice A t.typed.length c, .string t.screen] 36))).one (HZ4.out.alloc (.cells #[.int .i64 t.epoch, .string t.session, .slice A t.typed.length c, .string t.screen] 36)) HV.out.size (by decide) (by decide) kz⟩
        generalize (((((w4.alloc (.cells #[.int .i64 t.epoch, .string t.session, .slice A t.typed.length c, .string t.screen] 36)).setCell ⟨w.heap.size, 0, none⟩ (.int .i64 t.epoch)).setCell ⟨w.heap.size, 1, none⟩ (.string t.session)).setCell ⟨w.heap.size, 2, none⟩ (.slice A t.typed.length c)).setCell ⟨w.heap.size, 3, none⟩ (.string t.screen)) = wf at y0 y1 y2 y3
        simp [results, Tryz.results17, go_sem, y0, y1, y2, y3]
  · rw [if_neg (fun h => he h.2)] at hA hG
    subst hA
    subst hG
    rw [show decide (0 ≤ epoch ∧ epoch ≤ 1073741824) = false by simpa using he] at E97
    have H97 := Lib.hid E97; clear E97
    go_enter Tryz.func17, Tryz.ntmps17
    go_wp2_with fail
    refine (H97.out _).mono ?_
    rintro e w1 ⟨rfl, rfl⟩
    go_wp2_with fail
    have hzf := Blk.new w 36 #[.int .i64 0, .string ⟨#[]⟩, .slice none 0 0, .string ⟨#[]⟩]
    have y0 := hzf.cell 0
    have y1 := hzf.cell 1
    have y2 := hzf.cell 2
    have y3 := hzf.cell 3
    simp only [List.getElem?_toArray, List.getElem?_cons_zero, List.getElem?_cons_succ] at y0 y1 y2 y3
    refine bodyPost_ret (v := .tuple #[.agg #[.int .i64 0, .string ⟨#[]⟩, .slice none 0 0, .string ⟨#[]⟩], .int .i64 2]) ?_ rfl ⟨_, rfl, ⟨none, 0, rfl, Nat.le_refl _, by simp [maxLen], Rd.nil _ _ _ _⟩, Kpt.alloc (Kpt.refl _ _) _, HV.out.non (Kpt.alloc (Kpt.refl _ _) _)⟩
    generalize w.alloc (.cells #[.int .i64 0, .string ⟨#[]⟩, .slice none 0 0, .string ⟨#[]⟩] 36) = wf at y0 y1 y2 y3
    simp [results, Tryz.results17, go_sem, y0, y1, y2, y3]

theorem getT_good {m : VwM} {number epoch : Int} (h : (getT m number epoch).2 = 0) : 1 ≤ number ∧ number ≤ 99 := by
  unfold getT at h
  split at h
  · rename_i h1; exact h1.1
  · simp at h

set_option maxRecDepth 100000 in
set_option maxHeartbeats 1000000 in
theorem f30_any (K : Nm → Prop) (bs : Nat) (w : World) (sa : Addr) (b r n : Nat) (m : VwM) (hv : IsView K bs w sa b r n m) (number epoch : Int) (hK : 1 ≤ number ∧ number ≤ 99 → K (ofTerminal number)) (hsz : 1 ≤ number ∧ number ≤ 99 → (m.get (ofTerminal number)).1.size ≤ 1099511627776) :
    Calls Tryz.prog 17 #[.pointer (some ⟨b, 0, none⟩), .int .i64 number, .int .i64 epoch] w fun e w' => ∃ v, e = .returned (.tuple #[v, .int .i64 (getT m number epoch).2]) ∧ TmV w' (fun i => w.heap.size ≤ i) (getT m number epoch).1 v ∧ Kpt (One r) w w' ∧ IsView K bs w' sa b r n (getM m number epoch) := by
  by_cases hn : 1 ≤ number ∧ number ≤ 99
  · exact f30_in K bs w sa b r n m hv number epoch hn (hK hn) (hsz hn)
  · have hA : getT m number epoch = (zeroT, 2) := by unfold getT; rw [if_neg (fun h => hn h.1)]
    have hG : getM m number epoch = m := by unfold getM; rw [if_neg (fun h => hn h.1)]
    rw [hA, hG]
    have HV := Lib.hid hv
    clear hv hA hG hK hsz
    by_cases n1 : number < 1
    all_goals
      try have n2 : 99 < number := by omega
      clear hn
      go_enter Tryz.func17, Tryz.ntmps17
      go_wp2_with fail
      have hzf := Blk.new w 36 #[.int .i64 0, .string ⟨#[]⟩, .slice none 0 0, .string ⟨#[]⟩]
      have y0 := hzf.cell 0
      have y1 := hzf.cell 1
      have y2 := hzf.cell 2
      have y3 := hzf.cell 3
      simp only [List.getElem?_toArray, List.getElem?_cons_zero, List.getElem?_cons_succ] at y0 y1 y2 y3
      refine bodyPost_ret (v := .tuple #[.agg #[.int .i64 0, .string ⟨#[]⟩, .slice none 0 0, .string ⟨#[]⟩], .int .i64 2]) ?_ rfl ⟨_, rfl, ⟨none, 0, rfl, Nat.le_refl _, by simp [maxLen], Rd.nil _ _ _ _⟩, Kpt.alloc (Kpt.refl _ _) _, HV.out.non (Kpt.alloc (Kpt.refl _ _) _)⟩
      generalize w.alloc (.cells #[.int .i64 0, .string ⟨#[]⟩, .slice none 0 0, .string ⟨#[]⟩] 36) = wf at y0 y1 y2 y3
      simp [results, Tryz.results17, go_sem, y0, y1, y2, y3]
end Go.Proofs.YtkpmabknjdgkmaaGreatDoor
