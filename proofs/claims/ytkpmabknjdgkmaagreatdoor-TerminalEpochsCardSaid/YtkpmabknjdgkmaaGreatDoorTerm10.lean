/- The walk of terminal.Show. -/
import Derived.Test.YtkpmabknjdgkmaaGreatDoorTerm9
namespace Go.Proofs.YtkpmabknjdgkmaaGreatDoor
open Go.RowKit

def shownF (text : ByteArray) (t : Tm) : Tm × Int := (shownT text t, 0)
/-- What Show does to a view. -/
def shwT (m : VwM) (number epoch : Int) (text : ByteArray) : VwM × Int :=
  if (getT m number epoch).2 = 0 then
    (if 65536 < text.size then (getM m number epoch, 5) else if text.size = 0 then (getM m number epoch, 0) else chgT (getM m number epoch) number epoch (shownF text))
  else (getM m number epoch, (getT m number epoch).2)

set_option maxRecDepth 100000 in
set_option maxHeartbeats 1000000 in
theorem f46_any (K : Nm → Prop) (bs : Nat) (w : World) (sa : Addr) (b r n : Nat) (m : VwM) (hv : IsView K bs w sa b r n m) (number epoch : Int) (text : ByteArray) (hK : 1 ≤ number ∧ number ≤ 99 → K (ofTerminal number))
    (hsz : 1 ≤ number ∧ number ≤ 99 → (m.get (ofTerminal number)).1.size ≤ 1099511627776) (hsz1 : 1 ≤ number ∧ number ≤ 99 → ((getM m number epoch).get (ofTerminal number)).1.size ≤ 1099511627776)
    (hgs : (getT (getM m number epoch) number epoch).1.screen.size ≤ 1099511627776)
    (hok : TmOk (shownT text (getT (getM m number epoch) number epoch).1)) (hss : (getT (getM m number epoch) number epoch).1.session.size ≤ 16777216) (hlen : chkT (shownT text (getT (getM m number epoch) number epoch).1) = 0 → (encT (shownT text (getT (getM m number epoch) number epoch).1)).length ≤ 65536) (hcalls : (getM (getM m number epoch) number epoch).calls.length ≤ 1000000) :
    Calls Tryz.prog 33 #[.pointer (some ⟨b, 0, none⟩), .int .i64 number, .int .i64 epoch, .string text] w fun e w' => e = .returned (.int .i64 (shwT m number epoch text).2) ∧ IsView K bs w' sa b r n (shwT m number epoch text).1 ∧ Kpt (fun i => i = b ∨ i = r ∨ i = n) w w' := by
  have hA : shwT m number epoch text = shwT m number epoch text := rfl
  conv at hA => rhs; unfold shwT
  generalize shwT m number epoch text = X at hA ⊢
  have E30 := f30_any K bs w sa b r n m hv number epoch hK hsz
  have hbs := hv.size
  generalize getM m number epoch = m1 at hA E30 hsz1 hgs hok hss hlen hcalls
  generalize getT m number epoch = g at hA E30
  obtain ⟨t, err⟩ := g
  simp only at hA E30
  have H30 := Lib.hid E30; clear E30 hv
  by_cases h0 : err = 0
  · subst h0
    rw [if_pos rfl] at hA
    by_cases h1 : 65536 < text.size
    · have h1' : (65536 : Int) < (text.size : Int) := by omega
      rw [if_pos h1] at hA
      subst hA
      clear hsz1 hgs hok hss hlen hcalls
      go_enter Tryz.func33, Tryz.ntmps33
      go_wp2_with fail
      refine H30.out.mono ?_
      rintro e w1 ⟨v, rfl, ⟨A, c, rfl, hcA, hcB, hrd⟩, k1, hv1⟩
      have K1 := Lib.hid k1; have HV1 := Lib.hid hv1; clear k1 hv1 hrd
      go_wp2_with fail
      go_ret
      exact ⟨rfl, HV1.out.non (Kpt.alloc (Kpt.refl _ _) _), Kpt.alloc (K1.out.mono (fun i h => .inr (.inl h))) _⟩
    · have h1' : ¬ (65536 : Int) < (text.size : Int) := by omega
      rw [if_neg h1] at hA
      by_cases h2 : text.size = 0
      · have h2' := isEmpty_true h2
        rw [if_pos h2] at hA
        subst hA
        have H2 := Lib.hid h2
        clear hsz1 hgs hok hss hlen hcalls h2
        go_enter Tryz.func33, Tryz.ntmps33
        go_wp2_with fail
        refine H30.out.mono ?_
        rintro e w1 ⟨v, rfl, ⟨A, c, rfl, hcA, hcB, hrd⟩, k1, hv1⟩
        have K1 := Lib.hid k1; have HV1 := Lib.hid hv1; clear k1 hv1 hrd
        go_wp2_with fail
        go_ret
        exact ⟨rfl, HV1.out.non (Kpt.alloc (Kpt.refl _ _) _), Kpt.alloc (K1.out.mono (fun i h => .inr (.inl h))) _⟩
      · have h2' := isEmpty_false h2
        rw [if_neg h2] at hA
        subst hA
        have H2 := Lib.hid h2; clear h2
        have e93 := fun w2 (hv2 : IsView K bs w2 sa b r n m1) (q : Nat) (hqq : w2.heap.size = q) => hqq ▸ f93_any K bs _ sa b r n w2.heap.size 68 #[.string ⟨#[]⟩, .string text, .string ⟨#[]⟩] #[.string ⟨#[]⟩, .string text, .string ⟨#[]⟩] m1 (hv2.non (Kpt.alloc (Kpt.refl _ _) (.cells #[.string ⟨#[]⟩, .string text, .string ⟨#[]⟩] 98))) (Blk.new w2 98 _) hv2.size number epoch hK hsz1 (shownF text) ent117
          (fun w' tb D hq ht hd hne => (f117_any w2.heap.size tb _ text _ D _ w' hq ht hgs (by omega)).mono (fun e w'' h => ⟨h.1, h.2.1.more (fun i hi => .inl hi) (fun e => by
            obtain ⟨A, c, hb, _, _, _, hdd⟩ := ht
            rcases e with e | e
            · exact hdd e
            · have := hb.lt; omega), h.2.2.mono (fun i hi => .inl hi), hq.kpt h.2.2 (fun e => hne e)⟩)) hok hss hlen hcalls
        have H93 := Lib.hid e93; clear e93
        go_enter Tryz.func33, Tryz.ntmps33
        go_wp2_with fail
        refine H30.out.mono ?_
        rintro e w1 ⟨v, rfl, ⟨A, c, rfl, hcA, hcB, hrd⟩, k1, hv1⟩
        have hv1a := hv1.non (Kpt.alloc (Kpt.refl _ _) (.cells #[.int .i64 t.epoch, .string t.session, .slice A t.typed.length c, .string t.screen] 36))
        have K1 := Lib.hid k1; have HV1a := Lib.hid hv1a; clear k1 hv1 hv1a hrd
        go_wp2_with fail
        refine (H93.out _ HV1a.out _ (by simp)).mono ?_
        rintro e w3 ⟨rfl, hv3, k3, _⟩
        have HV3 := Lib.hid hv3; have K3 := Lib.hid k3; clear hv3 k3
        go_wp2_with fail
        go_ret
        exact ⟨rfl, HV3.out, Kpt.trans (Kpt.alloc (K1.out.mono (fun i h => .inr (.inl h))) _) (Kpt.trans (Kpt.alloc (Kpt.refl _ _) _) K3.out (fun i hi hlt => by
          simp only [World.size_alloc] at hlt
          rcases hi with e | e | e | e
          · exact .inl e
          · exact .inr (.inl e)
          · exact .inr (.inr e)
          · omega)) (fun _ h _ => h)⟩
  · rw [if_neg h0] at hA
    subst hA
    have h0' : (err != 0) = true := by rw [bne_iff_ne]; exact h0
    have H0 := Lib.hid h0; clear h0
    clear hsz1 hgs hok hss hlen hcalls
    go_enter Tryz.func33, Tryz.ntmps33
    go_wp2_with fail
    refine H30.out.mono ?_
    rintro e w1 ⟨v, rfl, ⟨A, c, rfl, hcA, hcB, hrd⟩, k1, hv1⟩
    have K1 := Lib.hid k1; have HV1 := Lib.hid hv1; clear k1 hv1 hrd
    go_wp2_with fail
    go_ret
    exact ⟨rfl, HV1.out.non (Kpt.alloc (Kpt.refl _ _) _), Kpt.alloc (K1.out.mono (fun i h => .inr (.inl h))) _⟩
end Go.Proofs.YtkpmabknjdgkmaaGreatDoor
