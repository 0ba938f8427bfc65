/- codec's Reader: Number, Text, Rest, Close. -/
import Derived.Test.YtkpmabknjdgkmaaGreatDoorCodec5
import Derived.Deep.DeepCutAuto
namespace Go.Proofs.YtkpmabknjdgkmaaGreatDoor
open Go.RowKit

/-- What Number's function answers: the number, how many bytes, the error. -/
def numAns (most : Nat) (l : List UInt8) : Nat × Nat × Int :=
  if (grp 0 0 l).2.2 = 0 ∧ most < (grp 0 0 l).1 then (0, 0, 2) else grp 0 0 l

set_option maxRecDepth 100000 in
set_option maxHeartbeats 400000 in
theorem f169_any (A : Option Addr) (n c most : Nat) (D : Nat → Prop) (l : List UInt8) (w : World) (p : Nat) (hr : Rd w D 1 A n (l.map byteV)) (hn : n ≤ maxLen) (hp : w.cell? ⟨p, 0, none⟩ = some (.int .i64 most)) :
    Calls Tryz.prog 85 #[.slice A n c, .pointer (some ⟨p, 0, none⟩)] w fun e w' => e = .returned (.tuple #[.int .i64 (numAns most l).1, .int .i64 (numAns most l).2.1, .int .i64 (numAns most l).2.2]) ∧ w = w' := by
  have hc := f170_any A n c D l w hr hn
  unfold numAns
  generalize hg : grp 0 0 l = g at hc
  obtain ⟨g1, g2, g3⟩ := g
  simp only at hc ⊢
  have HC := Lib.hid hc; clear hc hr hg
  by_cases h0 : g3 = 0
  · subst h0
    by_cases h1 : most < g1
    · have h1' : (most : Int) < (g1 : Int) := by omega
      go_enter Tryz.func85, Tryz.ntmps85
      go_wp2_with fail
      refine HC.out.mono ?_
      rintro e w1 ⟨rfl, rfl⟩
      go_wp2_with fail
      all_goals refine bodyPost_ret (v := .tuple #[.int .i64 0, .int .i64 0, .int .i64 2]) (by simp [results, Tryz.results85, go_sem]) rfl ⟨by simp, rfl⟩
    · have h1' : ¬ (most : Int) < (g1 : Int) := by omega
      go_enter Tryz.func85, Tryz.ntmps85
      go_wp2_with fail
      refine HC.out.mono ?_
      rintro e w1 ⟨rfl, rfl⟩
      go_wp2_with fail
      all_goals refine bodyPost_ret (v := .tuple #[.int .i64 g1, .int .i64 g2, .int .i64 0]) (by simp [results, Tryz.results85, go_sem]) rfl ⟨by simp, rfl⟩
  · have h0' : (g3 == 0) = false := by rw [beq_eq_false_iff_ne]; exact h0
    have H0 := Lib.hid h0; clear h0
    go_enter Tryz.func85, Tryz.ntmps85
    go_wp2_with fail
    refine HC.out.mono ?_
    rintro e w1 ⟨rfl, rfl⟩
    go_wp2_with fail
    all_goals first | (exfalso; exact H0.out (by assumption)) | (exfalso; exact H0.out (by omega)) | skip
    all_goals refine bodyPost_ret (v := .tuple #[.int .i64 g1, .int .i64 g2, .int .i64 g3]) (by simp [results, Tryz.results85, go_sem]) rfl ⟨by simp, rfl⟩

/-- What a Reader's Number answers, and where the Reader then is. -/
def rdNum (most at_ : Nat) (err : Int) (l : List UInt8) : Nat × Nat × Int :=
  if err = 0 then (if (numAns most (l.drop at_)).2.2 = 0 then ((numAns most (l.drop at_)).1, at_ + (numAns most (l.drop at_)).2.1, 0) else (0, at_, (numAns most (l.drop at_)).2.2)) else (0, at_, err)

theorem numAns_size (most : Nat) (l : List UInt8) (h : (numAns most l).2.2 = 0) : (numAns most l).2.1 ≤ l.length := by
  unfold numAns at h ⊢
  split
  · simp
  · rename_i h1
    rw [if_neg h1] at h
    have := grp_size l 0 0 h
    omega

theorem Rdr.set_at {w : World} {b at_ at' : Nat} {l : List UInt8} {err : Int} (h : Rdr w b l at_ err) (hle : at' ≤ l.length) : Rdr (w.setCell ⟨b, 1, none⟩ (.int .i64 (at' : Int))) b l at' err := by
  obtain ⟨g, c, h1, h2, h3, h4, h5, cur, h6⟩ := h.blk
  exact ⟨hle, h.size, g, c, h1, h2, h3, h4.set_ 1 _, h5.set_ (fun e => h3 e.symm) _, cur, h6.far h3 _⟩
theorem Rdr.set_err {w : World} {b at_ : Nat} {l : List UInt8} {err err' : Int} (h : Rdr w b l at_ err) : Rdr (w.setCell ⟨b, 2, none⟩ (.int .i64 err')) b l at_ err' := by
  obtain ⟨g, c, h1, h2, h3, h4, h5, cur, h6⟩ := h.blk
  exact ⟨h.le, h.size, g, c, h1, h2, h3, h4.set_ 2 _, h5.set_ (fun e => h3 e.symm) _, cur, h6.far h3 _⟩
theorem Rdr.drewN {w : World} {b at_ : Nat} {l : List UInt8} {err : Int} (h : Rdr w b l at_ err) (k : Nat) : Rdr (w.drewN k) b l at_ err := h.kpt (Kpt.drewN (Kpt.refl _ _) k)

set_option maxRecDepth 100000 in
set_option maxHeartbeats 1000000 in
theorem f168_any (b at_ most p : Nat) (l : List UInt8) (err : Int) (w : World) (h : Rdr w b l at_ err) (hp : w.cell? ⟨p, 0, none⟩ = some (.int .i64 most)) :
    Calls Tryz.prog 84 #[.pointer (some ⟨b, 0, none⟩), .func (.func 85) #[] #[.pointer (some ⟨p, 0, none⟩)]] w fun e w' => e = .returned (.int .i64 (rdNum most at_ err l).1) ∧ Rdr w' b l (rdNum most at_ err l).2.1 (rdNum most at_ err l).2.2 ∧ Kpt (One b) w w' := by
  obtain ⟨g, c, hc1, hc2, hgb, hb, hrd, _⟩ := h.blk
  have b0 := hb.cell 0
  have b1 := hb.cell 1
  have b2 := hb.cell 2
  have f1 := hb.frozen 1
  have f2 := hb.frozen 2
  simp only [List.getElem?_toArray, List.getElem?_cons_zero, List.getElem?_cons_succ] at b0 b1 b2
  have hle := h.le
  have hsz := h.size
  have H := Lib.hid h; clear h
  by_cases he : err = 0
  · subst he
    have hcut := hrd.cut (k := at_) hle hc1
    rw [← List.map_drop] at hcut
    simp only [Nat.mul_one, Option.map_some, add_plain] at hcut
    have hcall := fun q => f169_any _ _ (c - at_) most _ _ (w.drewN q) p (hcut.drewN q) (by simp only [maxLen] at hc2 ⊢; omega) hp
    generalize hg : numAns most (l.drop at_) = a at hcall
    obtain ⟨a1, a2, a3⟩ := a
    simp only at hcall
    have HC := Lib.hid hcall; clear hcall hcut hrd hb
    have HG := Lib.hid hg; clear hg
    have hle' : (at_ : Int) ≤ (l.length : Int) := by omega
    have hlc : (l.length : Int) ≤ (c : Int) := by omega
    have h0' : (0 : Int) ≤ (at_ : Int) := by omega
    by_cases h3 : a3 = 0
    · subst h3
      have hn := numAns_size most (l.drop at_) (by rw [HG.out])
      rw [HG.out, List.length_drop] at hn
      simp only at hn
      have hsum : at_ + a2 ≤ l.length := by omega
      have hsum' : (at_ : Int) + (a2 : Int) ≤ 1099511627776 := by omega
      go_enter Tryz.func84, Tryz.ntmps84
      go_wp2_with fail
      go_quiet ((go_at_call 85; refine (HC.out _).mono ?_; rintro e w1 ⟨rfl, rfl⟩; exact ⟨rfl, _, rfl⟩))
      go_wp2_with fail
      all_goals go_ret
      all_goals refine ⟨by simp [rdNum, HG.out], ?_, Kpt.setOne (Kpt.drewN (Kpt.refl _ _) _) _ _⟩
      all_goals simp only [rdNum, HG.out, if_true]
      all_goals exact (H.out.drewN _).set_at hsum
    · have h3' : (a3 != 0) = true := by rw [bne_iff_ne]; exact h3
      have H3 := Lib.hid h3; clear h3
      go_enter Tryz.func84, Tryz.ntmps84
      go_wp2_with fail
      go_quiet ((go_at_call 85; refine (HC.out _).mono ?_; rintro e w1 ⟨rfl, rfl⟩; exact ⟨rfl, _, rfl⟩))
      go_wp2_with fail
      all_goals go_ret
      all_goals refine ⟨by simp [rdNum, HG.out, H3.out], ?_, Kpt.setOne (Kpt.drewN (Kpt.refl _ _) _) _ _⟩
      all_goals simp only [rdNum, HG.out, if_true, H3.out, if_false]
      all_goals exact (H.out.drewN _).set_err
  · have he' : (err == 0) = false := by rw [beq_eq_false_iff_ne]; exact he
    have HE := Lib.hid he; clear he
    go_enter Tryz.func84, Tryz.ntmps84
    go_wp2_with fail
    all_goals first | (exfalso; exact HE.out (by assumption)) | skip
    go_ret
    exact ⟨by simp [rdNum, HE.out], by simp only [rdNum, HE.out, if_false]; exact H.out, Kpt.refl _ _⟩

set_option maxRecDepth 100000 in
set_option maxHeartbeats 400000 in
theorem f110_any (b at_ most : Nat) (l : List UInt8) (err : Int) (w : World) (h : Rdr w b l at_ err) :
    Calls Tryz.prog 61 #[.pointer (some ⟨b, 0, none⟩), .int .i64 most] w fun e w' => e = .returned (.int .i64 (rdNum most at_ err l).1) ∧ Rdr w' b l (rdNum most at_ err l).2.1 (rdNum most at_ err l).2.2 ∧ Kpt (One b) w w' := by
  have hc := f168_any b at_ most w.heap.size l err (w.alloc (.cells #[.int .i64 (most : Int)] 3)) (h.kpt (Kpt.alloc (Kpt.refl _ _) _)) ((Blk.new w _ _).cell 0)
  have HC := Lib.hid hc; clear hc
  have H := Lib.hid h; clear h
  go_enter Tryz.func61, Tryz.ntmps61
  go_wp2_with fail
  refine HC.out.mono ?_
  rintro e w1 ⟨rfl, h1, k1⟩
  have H1 := Lib.hid h1; have K1 := Lib.hid k1; clear h1 k1
  go_wp2_with fail
  go_ret
  exact ⟨rfl, H1.out, Kpt.trans (Kpt.alloc (Kpt.refl _ _) _) K1.out (fun _ h _ => h)⟩
end Go.Proofs.YtkpmabknjdgkmaaGreatDoor
