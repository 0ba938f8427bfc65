/- The walk of terminal.change. -/
import Derived.Test.YtkpmabknjdgkmaaGreatDoorTerm7
namespace Go.Proofs.YtkpmabknjdgkmaaGreatDoor
open Go.RowKit

/-- What change does to a view: f is the method. -/
def chgT (m : VwM) (number epoch : Int) (f : Tm → Tm × Int) : VwM × Int :=
  if (getT m number epoch).2 = 0 then
    (if (f (getT m number epoch).1).2 = 0 then
      (if chkT (f (getT m number epoch).1).1 = 0 then ((getM m number epoch).call ⟨ofTerminal number, strB (encT (f (getT m number epoch).1).1), false⟩, 0) else (getM m number epoch, chkT (f (getT m number epoch).1).1))
    else (getM m number epoch, (f (getT m number epoch).1).2))
  else (getM m number epoch, (getT m number epoch).2)

theorem IsView.two {K : Nm → Prop} {bs : Nat} {w w' : World} {sa : Addr} {b r n : Nat} {m : VwM} {p p' : Nat} {t t' : TypeId} {cs cs' : Array Value} (h : IsView K bs w sa b r n m) (hp : Blk w p t cs) (hp' : Blk w p' t' cs') (hbs : bs ≤ p) (hbs' : bs ≤ p')
    (h1 : t ≠ 90) (h2 : t ≠ 86) (h1' : t' ≠ 90) (h2' : t' ≠ 86) (k : Kpt (fun i => i = p ∨ i = p') w w') : IsView K bs w' sa b r n m := by
  obtain ⟨es', c, hr, _⟩ := h.rd
  obtain ⟨es'', c', hn, _⟩ := h.nw
  obtain ⟨cv, hb, _⟩ := h.blk
  have nm : ∀ {x : Nat} {y : TypeId} {z : Array Value} {g : Nat} {e : Array MapEntry} {cl : Nat}, Blk w x y z → w.heap[g]? = some (.map e cl) → g ≠ x := fun {x y z g e cl} ha hm e' => by
    subst e'
    unfold Blk at ha
    rw [ha] at hm
    cases hm
  refine h.kpt k (by rintro i (rfl | rfl) <;> assumption) ?_ ?_ ?_ ?_
  · rintro (e | e)
    · exact Blk.ne_ hp hb h1 e.symm
    · exact Blk.ne_ hp' hb h1' e.symm
  · rintro (e | e)
    · exact nm hp hr e
    · exact nm hp' hr e
  · rintro (e | e)
    · exact nm hp hn e
    · exact nm hp' hn e
  · rintro cv g hb hc hg (rfl | rfl)
    · exact Blk.own_ne hp hc (fun e => h2 e.symm) hg
    · exact Blk.own_ne hp' hc (fun e => h2' e.symm) hg

set_option maxRecDepth 100000 in
set_option maxHeartbeats 2000000 in
theorem f93_any (K : Nm → Prop) (bs : Nat) (w : World) (sa : Addr) (b r n q fn : Nat) (cs cs' : Array Value) (m : VwM) (hv : IsView K bs w sa b r n m) (hq : Blk w q 98 cs) (hqb : bs ≤ q) (number epoch : Int) (hK : 1 ≤ number ∧ number ≤ 99 → K (ofTerminal number))
    (hsz : 1 ≤ number ∧ number ≤ 99 → (m.get (ofTerminal number)).1.size ≤ 1099511627776) (f : Tm → Tm × Int) (hfn : ∀ (args : Array Value) (w' : World), (callFunc fn args).run Tryz.prog w' = .ok (.enter fn args) w')
    (hM : ∀ (w' : World) (tb : Nat) (D : Nat → Prop), Blk w' q 98 cs → TmB w' tb D (getT m number epoch).1 → ¬ D q → q ≠ tb →
      Calls Tryz.prog fn #[.pointer (some ⟨q, 0, none⟩), .pointer (some ⟨tb, 0, none⟩)] w' fun e w'' => e = .returned (.int .i64 (f (getT m number epoch).1).2) ∧ TmB w'' tb (fun i => D i ∨ w'.heap.size ≤ i) (f (getT m number epoch).1).1 ∧ Kpt (fun i => i = tb ∨ i = q) w' w'' ∧ Blk w'' q 98 cs')
    (hok : TmOk (f (getT m number epoch).1).1) (hss : (f (getT m number epoch).1).1.session.size ≤ 16777216) (hlen : chkT (f (getT m number epoch).1).1 = 0 → (encT (f (getT m number epoch).1).1).length ≤ 65536) (hcalls : (getM m number epoch).calls.length ≤ 1000000) :
    Calls Tryz.prog 44 #[.pointer (some ⟨b, 0, none⟩), .int .i64 number, .int .i64 epoch, .func (.func fn) #[.pointer (some ⟨q, 0, none⟩)] #[]] w fun e w' => e = .returned (.int .i64 (chgT m number epoch f).2) ∧ IsView K bs w' sa b r n (chgT m number epoch f).1 ∧ Kpt (fun i => i = b ∨ i = r ∨ i = n ∨ i = q) w w' ∧ Blk w' q 98 (if (getT m number epoch).2 = 0 then cs' else cs) := by
  have hA : chgT m number epoch f = chgT m number epoch f := rfl
  conv at hA => rhs; unfold chgT
  generalize chgT m number epoch f = X at hA ⊢
  have hn0 := @getT_good m number epoch
  have E30 := f30_any K bs w sa b r n m hv number epoch hK hsz
  have E49 := f49_any number
  have H49 := Lib.hid E49; clear E49
  generalize getM m number epoch = m1 at hA E30 hcalls
  generalize getT m number epoch = g at hA E30 hM hok hss hlen hn0
  obtain ⟨t, err⟩ := g
  simp only at hA E30 hM hok hss hlen hn0
  generalize f t = ft at hA hM hok hss hlen
  obtain ⟨t2, err2⟩ := ft
  simp only at hA hM hok hss hlen
  have hqr : q ≠ r := by
    obtain ⟨es', c, hr, _⟩ := hv.rd
    rintro rfl
    unfold Blk at hq
    rw [hq] at hr
    cases hr
  have H30 := Lib.hid E30; have HM := Lib.hid hM; have HV := Lib.hid hv; have HQ := Lib.hid hq; have HOk := Lib.hid hok; have HLen := Lib.hid hlen
  have hqlt := hq.lt
  have hqbb : q ≠ b := by
    obtain ⟨cv, hb, _⟩ := hv.blk
    exact Blk.ne_ hq hb (by decide)
  have hqn : q ≠ n := by
    obtain ⟨es', c, hr, _⟩ := hv.nw
    rintro rfl
    unfold Blk at hq
    rw [hq] at hr
    cases hr
  clear E30 hM hv hq hok hlen
  go_enter Tryz.func44, Tryz.ntmps44
  go_wp2_with fail
  refine H30.out.mono ?_
  rintro e w1 ⟨v, rfl, ⟨A, c, rfl, hcA, hcB, hrd⟩, k1, hv1⟩
  have HRd := Lib.hid hrd; have K1 := Lib.hid k1; have HV1 := Lib.hid hv1
  have hs1 := k1.size
  clear hrd k1 hv1
  by_cases h0 : err = 0
  · subst h0
    rw [if_pos rfl] at hA
    have hn1 := hn0 rfl
    clear hn0
    have htb : TmB (w1.alloc (.cells #[.int .i64 t.epoch, .string t.session, .slice A t.typed.length c, .string t.screen] 36)) w1.heap.size (fun i => w.heap.size ≤ i ∧ i < w1.heap.size) t :=
      ⟨A, c, Blk.new _ _ _, hcA, hcB, HRd.out.lt.alloc _, fun e => by omega⟩
    have e2 := HM.out _ w1.heap.size (fun i => w.heap.size ≤ i ∧ i < w1.heap.size) ((HQ.out.kpt K1.out hqr).alloc _) htb (fun e => by omega) (by omega)
    have HTb := Lib.hid htb; have HE2 := Lib.hid e2; clear htb e2
    go_wp2_with fail
    refine HE2.out.mono ?_
    rintro e w2 ⟨rfl, htm2, k2, hqq⟩
    have HQQ := Lib.hid hqq; clear hqq
    obtain ⟨A2, c2, hb2, hcA2, hcB2, hr2, hd2⟩ := htm2
    have kall : Kpt (fun i => i = b ∨ i = r ∨ i = n ∨ i = q) w w2 := Kpt.trans (Kpt.alloc (K1.out.mono (fun i h => .inr (.inl h))) _) k2 (fun i hi hlt => by
      rcases hi with e | e
      · omega
      · exact .inr (.inr (.inr e)))
    have hv2 : IsView K bs w2 sa b r n m1 := (HV1.out.non (Kpt.alloc (Kpt.refl _ _) _)).two (Blk.new w1 36 _) ((HQ.out.kpt K1.out hqr).alloc _) HV1.out.size hqb (by decide) (by decide) (by decide) (by decide) k2
    have c0 := hb2.cell 0
    have c1 := hb2.cell 1
    have c2' := hb2.cell 2
    have c3 := hb2.cell 3
    simp only [List.getElem?_toArray, List.getElem?_cons_zero, List.getElem?_cons_succ] at c0 c1 c2' c3
    have e36 := f36_any t2 _ _ w2 ⟨A2, c2, rfl, hcA2, hcB2, hr2⟩ HOk.out hss
    have HR2 := Lib.hid hr2; have HV2 := Lib.hid hv2; have KAll := Lib.hid kall; have HE36 := Lib.hid e36; have K2 := Lib.hid k2
    clear hb2 hr2 hv2 kall e36 k2
    by_cases h2 : err2 = 0
    · subst h2
      rw [if_pos rfl] at hA
      by_cases h3 : chkT t2 = 0
      · rw [if_pos h3] at hA
        subst hA
        rw [h3] at HE36
        have hl := HLen.out h3
        have H3 := Lib.hid h3; clear h3
        go_wp2_with fail
        refine HE36.out.mono ?_
        rintro e w3 ⟨rfl, k3⟩
        have hv3 := HV2.out.non k3
        have HV3 := Lib.hid hv3; have K3 := Lib.hid k3; clear hv3 k3
        have e162 := fun w4 (k : Kpt Non w3 w4) => f162_any K bs w4 sa b r n m1 (HV3.out.non k) (ofTerminal number) (strB (encT t2)) (okNm_terminal number (by omega) (by omega)) (by rw [strB_size]; exact hl) hcalls
        have H162 := Lib.hid e162; clear e162
        go_wp2_with fail
        refine (H49.out _).mono ?_
        rintro e w4 ⟨rfl, k4⟩
        have K4 := Lib.hid k4; clear k4
        go_wp2_with fail
        refine (H162.out _ K4.out).mono ?_
        rintro e w5 ⟨rfl, k5, hv5⟩
        have K5 := Lib.hid k5; have HV5 := Lib.hid hv5; clear k5 hv5
        go_wp2_with fail
        go_ret
        refine ⟨rfl, HV5.out, Kpt.trans (Kpt.trans (Kpt.trans KAll.out K3.out.up (fun _ h _ => h)) K4.out.up (fun _ h _ => h)) K5.out (fun i hi _ => ?_), ((HQQ.out.kpt K3.out (fun e => e)).kpt K4.out (fun e => e)).kpt K5.out (fun e => by rcases e with e | e; exact hqbb e; exact hqn e)⟩
        rcases hi with e | e
        · exact .inl e
        · exact .inr (.inr (.inl e))
      · rw [if_neg h3] at hA
        subst hA
        obtain ⟨ck, hck⟩ : ∃ ck, chkT t2 = ck := ⟨_, rfl⟩
        have h3' : (ck != 0) = true := by rw [bne_iff_ne, ← hck]; exact h3
        rw [if_neg h3, hck] at HE36
        have HCk := Lib.hid hck; have H3 := Lib.hid h3; clear hck h3
        go_wp2_with fail
        refine HE36.out.mono ?_
        rintro e w3 ⟨rfl, k3⟩
        have K3 := Lib.hid k3; clear k3
        go_wp2_with fail
        go_ret
        exact ⟨by rw [HCk.out]; rfl, HV2.out.non K3.out, Kpt.trans KAll.out K3.out.up (fun _ h _ => h), HQQ.out.kpt K3.out (fun e => e)⟩
    · rw [if_neg h2] at hA
      subst hA
      have h2' : (err2 != 0) = true := by rw [bne_iff_ne]; exact h2
      have H2 := Lib.hid h2; clear h2
      go_wp2_with fail
      go_ret
      exact ⟨rfl, HV2.out, KAll.out, HQQ.out⟩
  · rw [if_neg h0] at hA
    subst hA
    have h0' : (err != 0) = true := by rw [bne_iff_ne]; exact h0
    have H0 := Lib.hid h0; clear h0
    go_wp2_with fail
    go_ret
    refine ⟨rfl, HV1.out.non (Kpt.alloc (Kpt.refl _ _) _), Kpt.alloc (K1.out.mono (fun i h => .inr (.inl h))) _, (HQ.out.kpt K1.out hqr).alloc _⟩
end Go.Proofs.YtkpmabknjdgkmaaGreatDoor
