/- codec's Reader: Text, Rest, Close. -/
import Derived.Test.YtkpmabknjdgkmaaGreatDoorCodec6
import Derived.Laws.IdiomStrings
namespace Go.Proofs.YtkpmabknjdgkmaaGreatDoor
open Go.RowKit

/-- What Text's function answers: the text, how many bytes, the error. -/
def textAns (most : Nat) (l : List UInt8) : List UInt8 × Nat × Int :=
  if (grp 0 0 l).2.2 = 0 then
    (if most < (grp 0 0 l).1 then ([], 0, 5) else if l.length - (grp 0 0 l).2.1 < (grp 0 0 l).1 then ([], 0, 28) else ((l.drop (grp 0 0 l).2.1).take (grp 0 0 l).1, (grp 0 0 l).2.1 + (grp 0 0 l).1, 0))
  else ([], 0, (grp 0 0 l).2.2)

def strB (l : List UInt8) : ByteArray := ⟨l.toArray⟩

theorem add_off (g off j : Nat) : (⟨g, off, none⟩ : Addr).add j = ⟨g, off + j, none⟩ := by unfold Addr.add; split <;> simp_all

theorem conv_bytes {w : World} {D : Nat → Prop} {ad : Addr} {n c : Nat} {l : List UInt8} (hl : l.length = n) (h : Rd w D 1 (some ad) n (l.map byteV)) :
    (convert 81 9 (.slice (some ad) n c)).run Tryz.prog w = .ok (.string (strB l)) w := by
  subst hl
  exact run_convert_bytes_back w 81 9 5 ad c l Tryz.underlying81 Tryz.underlying5 Tryz.underlying9 (fun j hj => by
    obtain ⟨ad', e, _, hh⟩ := h.2 (by omega)
    injection e with e
    subst e
    exact hh j _ (by rw [List.getElem?_map, List.getElem?_eq_getElem hj]; rfl))

set_option maxRecDepth 100000 in
set_option maxHeartbeats 1000000 in
theorem f172_any (g off n c most : Nat) (D : Nat → Prop) (l : List UInt8) (w : World) (p : Nat) (hr : Rd w D 1 (some ⟨g, off, none⟩) n (l.map byteV)) (hn : n ≤ 1099511627776) (hc : n ≤ c) (hc2 : c ≤ maxLen) (hp : w.cell? ⟨p, 0, none⟩ = some (.int .i64 most)) (hmost : most ≤ 16777216) :
    Calls Tryz.prog 88 #[.slice (some ⟨g, off, none⟩) n c, .pointer (some ⟨p, 0, none⟩)] w fun e w' => e = .returned (.tuple #[.string (strB (textAns most l).1), .int .i64 (textAns most l).2.1, .int .i64 (textAns most l).2.2]) ∧ w = w' := by
  have hl : l.length = n := by have := hr.1; simpa using this
  have hcall := f170_any (some ⟨g, off, none⟩) n c D l w hr (by simp only [maxLen]; omega)
  have hsz := grp_size l 0 0
  have hA : textAns most l = textAns most l := rfl
  conv at hA => rhs; unfold textAns
  generalize textAns most l = T at hA ⊢
  generalize hg : grp 0 0 l = a at hcall hsz hA
  obtain ⟨a1, a2, a3⟩ := a
  simp only at hcall hsz hA ⊢
  have HC := Lib.hid hcall; clear hcall hg
  have HR := Lib.hid hr; clear hr
  unfold maxLen at hc2
  by_cases h0 : a3 = 0
  · subst h0
    rw [if_pos rfl, hl] at hA
    have hsz' := (hsz rfl).1
    rw [hl] at hsz'
    clear hsz
    have HL := Lib.hid hl; clear hl
    have hmost' : (most : Int) ≤ 16777216 := by omega
    by_cases h1 : most < a1
    · have h1' : (most : Int) < (a1 : Int) := by omega
      rw [if_pos h1] at hA
      subst hA
      go_enter Tryz.func88, Tryz.ntmps88
      go_wp2_with fail
      refine HC.out.mono ?_
      rintro e w1 ⟨rfl, rfl⟩
      go_wp2_with fail
      all_goals refine bodyPost_ret (v := .tuple #[.string ⟨#[]⟩, .int .i64 0, .int .i64 5]) (by simp [results, Tryz.results88, go_sem]) rfl ⟨rfl, rfl⟩
    · have h1'' : ¬ (most : Int) < (a1 : Int) := by omega
      rw [if_neg h1] at hA
      by_cases h2 : n - a2 < a1
      · have h2' : (n : Int) - (a2 : Int) < (a1 : Int) := by omega
        rw [if_pos h2] at hA
        subst hA
        have H2 := Lib.hid h2; clear h2
        go_enter Tryz.func88, Tryz.ntmps88
        go_wp2_with fail
        refine HC.out.mono ?_
        rintro e w1 ⟨rfl, rfl⟩
        go_wp2_with fail
        all_goals refine bodyPost_ret (v := .tuple #[.string ⟨#[]⟩, .int .i64 0, .int .i64 28]) (by simp [results, Tryz.results88, go_sem]) rfl ⟨rfl, rfl⟩
      · have h2' : ¬ (n : Int) - (a2 : Int) < (a1 : Int) := by omega
        rw [if_neg h2] at hA
        have H2 := Lib.hid h2
        have hle : a2 ≤ n := by omega
        have hcut := HR.out.cut (k := a2) hle hc
        rw [← List.map_drop] at hcut
        simp only [Nat.mul_one, Option.map_some] at hcut
        have htk := hcut.take (k := a1) (by omega)
        rw [← List.map_take, Nat.mul_one] at htk
        have hln : ((l.drop a2).take a1).length = a1 := by rw [List.length_take, List.length_drop, HL.out]; omega
        generalize (l.drop a2).take a1 = L at hA htk hln
        subst hA
        have hs1 : (a2 : Int) + (a1 : Int) ≤ 1099511627776 := by omega
        have hs2 : (a2 : Int) + (a1 : Int) ≤ (c : Int) := by omega
        by_cases hca : c = a2
        · rw [if_pos hca] at htk
          subst hca
          have ha0 : a1 = 0 := by omega
          subst ha0
          have hcv := conv_bytes (c := c - c) hln htk
          simp only [Nat.sub_self] at hcv
          have HT := Lib.hid htk; have HN := Lib.hid hln; clear htk hln hcut h2
          go_enter Tryz.func88, Tryz.ntmps88
          go_wp2_with fail
          refine HC.out.mono ?_
          rintro e w1 ⟨rfl, rfl⟩
          go_wp2_with fail
          refine bodyPost_ret (v := .tuple #[.string (strB L), .int .i64 c, .int .i64 0]) (by simp [results, Tryz.results88, go_sem]) rfl ⟨by simp, rfl⟩
        · rw [if_neg hca, add_off] at htk
          have hcv := conv_bytes (c := c - a2) hln htk
          have HT := Lib.hid htk; have HN := Lib.hid hln; clear htk hln hcut h2
          go_enter Tryz.func88, Tryz.ntmps88
          go_wp2_with fail
          refine HC.out.mono ?_
          rintro e w1 ⟨rfl, rfl⟩
          go_wp2_with fail
          refine bodyPost_ret (v := .tuple #[.string (strB L), .int .i64 ((a2 : Int) + (a1 : Int)), .int .i64 0]) (by simp [results, Tryz.results88, go_sem]) rfl ⟨by simp, rfl⟩
  · have h0' : (a3 != 0) = true := by rw [bne_iff_ne]; exact h0
    rw [if_neg h0] at hA
    subst hA
    have H0 := Lib.hid h0; clear h0 hsz
    go_enter Tryz.func88, Tryz.ntmps88
    go_wp2_with fail
    refine HC.out.mono ?_
    rintro e w1 ⟨rfl, rfl⟩
    go_wp2_with fail
    refine bodyPost_ret (v := .tuple #[.string ⟨#[]⟩, .int .i64 0, .int .i64 a3]) (by simp [results, Tryz.results88, go_sem]) rfl ⟨rfl, rfl⟩

/-- What a Reader's Text answers, and where the Reader then is. -/
def rdText (most at_ : Nat) (err : Int) (l : List UInt8) : List UInt8 × Nat × Int :=
  if err = 0 then (if (textAns most (l.drop at_)).2.2 = 0 then ((textAns most (l.drop at_)).1, at_ + (textAns most (l.drop at_)).2.1, 0) else ([], at_, (textAns most (l.drop at_)).2.2)) else ([], at_, err)

theorem textAns_size (most : Nat) (l : List UInt8) (h : (textAns most l).2.2 = 0) : (textAns most l).2.1 ≤ l.length := by
  unfold textAns at h ⊢
  split at h
  · rename_i h0
    rw [if_pos h0]
    have := grp_size l 0 0 h0
    split at h
    · simp at h
    · rename_i h1
      rw [if_neg h1]
      split at h
      · simp at h
      · rename_i h2
        rw [if_neg h2]
        simp only
        omega
  · rename_i h0
    exact absurd h h0

set_option maxRecDepth 100000 in
set_option maxHeartbeats 1000000 in
theorem f171_any (b at_ most p : Nat) (l : List UInt8) (err : Int) (w : World) (h : Rdr w b l at_ err) (hp : w.cell? ⟨p, 0, none⟩ = some (.int .i64 most)) (hmost : most ≤ 16777216) :
    Calls Tryz.prog 87 #[.pointer (some ⟨b, 0, none⟩), .func (.func 88) #[] #[.pointer (some ⟨p, 0, none⟩)]] w fun e w' => e = .returned (.string (strB (rdText most at_ err l).1)) ∧ Rdr w' b l (rdText most at_ err l).2.1 (rdText most at_ err l).2.2 ∧ Kpt (One b) w w' := by
  obtain ⟨g, c, hc1, hc2, hgb, hb, hrd, _⟩ := h.blk
  have b0 := hb.cell 0
  have b1 := hb.cell 1
  have b2 := hb.cell 2
  have f1 := hb.frozen 1
  have f2 := hb.frozen 2
  simp only [List.getElem?_toArray, List.getElem?_cons_zero, List.getElem?_cons_succ] at b0 b1 b2
  have hle := h.le
  have hsz := h.size
  have H := Lib.hid h; clear h
  by_cases he : err = 0
  · subst he
    have hcut := hrd.cut (k := at_) hle hc1
    rw [← List.map_drop] at hcut
    simp only [Nat.mul_one, Option.map_some, add_plain] at hcut
    have hcall : ∀ q, Calls Tryz.prog 88 #[.slice (if c = at_ then some ⟨g, 0, none⟩ else some ⟨g, at_, none⟩) (l.length - at_) (c - at_), .pointer (some ⟨p, 0, none⟩)] (w.drewN q) fun e w' => e = .returned (.tuple #[.string (strB (textAns most (l.drop at_)).1), .int .i64 (textAns most (l.drop at_)).2.1, .int .i64 (textAns most (l.drop at_)).2.2]) ∧ w.drewN q = w' := by
      intro q
      have hh : c - at_ ≤ maxLen := by simp only [maxLen] at hc2 ⊢; omega
      by_cases hca : c = at_
      · rw [if_pos hca] at hcut ⊢
        exact f172_any g 0 _ (c - at_) most _ _ (w.drewN q) p (hcut.drewN q) (by omega) (by omega) hh hp hmost
      · rw [if_neg hca] at hcut ⊢
        exact f172_any g at_ _ (c - at_) most _ _ (w.drewN q) p (hcut.drewN q) (by omega) (by omega) hh hp hmost
    generalize hg : textAns most (l.drop at_) = a at hcall
    obtain ⟨a1, a2, a3⟩ := a
    simp only at hcall
    have HC := Lib.hid hcall; clear hcall hcut hrd hb
    have HG := Lib.hid hg; clear hg
    have hle' : (at_ : Int) ≤ (l.length : Int) := by omega
    have hlc : (l.length : Int) ≤ (c : Int) := by omega
    have h0' : (0 : Int) ≤ (at_ : Int) := by omega
    by_cases h3 : a3 = 0
    · subst h3
      have hn := textAns_size most (l.drop at_) (by rw [HG.out])
      rw [HG.out, List.length_drop] at hn
      simp only at hn
      have hsum : at_ + a2 ≤ l.length := by omega
      have hsum' : (at_ : Int) + (a2 : Int) ≤ 1099511627776 := by omega
      go_enter Tryz.func87, Tryz.ntmps87
      go_wp2_with fail
      go_quiet ((go_at_call 88; refine (HC.out _).mono ?_; rintro e w1 ⟨rfl, rfl⟩; exact ⟨rfl, _, rfl⟩))
      go_wp2_with fail
      all_goals go_ret
      all_goals refine ⟨by simp [rdText, HG.out], ?_, Kpt.setOne (Kpt.drewN (Kpt.refl _ _) _) _ _⟩
      all_goals simp only [rdText, HG.out, if_true]
      all_goals exact (H.out.drewN _).set_at hsum
    · have h3' : (a3 != 0) = true := by rw [bne_iff_ne]; exact h3
      have H3 := Lib.hid h3; clear h3
      go_enter Tryz.func87, Tryz.ntmps87
      go_wp2_with fail
      go_quiet ((go_at_call 88; refine (HC.out _).mono ?_; rintro e w1 ⟨rfl, rfl⟩; exact ⟨rfl, _, rfl⟩))
      go_wp2_with fail
      all_goals go_ret
      all_goals refine ⟨by simp [rdText, HG.out, H3.out, strB], ?_, Kpt.setOne (Kpt.drewN (Kpt.refl _ _) _) _ _⟩
      all_goals simp only [rdText, HG.out, if_true, H3.out, if_false]
      all_goals exact (H.out.drewN _).set_err
  · have he' : (err == 0) = false := by rw [beq_eq_false_iff_ne]; exact he
    have HE := Lib.hid he; clear he
    go_enter Tryz.func87, Tryz.ntmps87
    go_wp2_with fail
    all_goals first | (exfalso; exact HE.out (by assumption)) | skip
    go_ret
    exact ⟨by simp [rdText, HE.out, strB], by simp only [rdText, HE.out, if_false]; exact H.out, Kpt.refl _ _⟩

set_option maxRecDepth 100000 in
set_option maxHeartbeats 400000 in
theorem f111_any (b at_ most : Nat) (l : List UInt8) (err : Int) (w : World) (h : Rdr w b l at_ err) (hmost : most ≤ 16777216) :
    Calls Tryz.prog 62 #[.pointer (some ⟨b, 0, none⟩), .int .i64 most] w fun e w' => e = .returned (.string (strB (rdText most at_ err l).1)) ∧ Rdr w' b l (rdText most at_ err l).2.1 (rdText most at_ err l).2.2 ∧ Kpt (One b) w w' := by
  have hc := f171_any b at_ most w.heap.size l err (w.alloc (.cells #[.int .i64 (most : Int)] 3)) (h.kpt (Kpt.alloc (Kpt.refl _ _) _)) ((Blk.new w _ _).cell 0) hmost
  have HC := Lib.hid hc; clear hc
  have H := Lib.hid h; clear h
  go_enter Tryz.func62, Tryz.ntmps62
  go_wp2_with fail
  refine HC.out.mono ?_
  rintro e w1 ⟨rfl, h1, k1⟩
  have H1 := Lib.hid h1; have K1 := Lib.hid k1; clear h1 k1
  go_wp2_with fail
  go_ret
  exact ⟨rfl, H1.out, Kpt.trans (Kpt.alloc (Kpt.refl _ _) _) K1.out (fun _ h _ => h)⟩

set_option maxHeartbeats 400000 in
theorem f173_any (b at_ : Nat) (l : List UInt8) (err : Int) (w : World) (h : Rdr w b l at_ err) :
    Calls Tryz.prog 89 #[.pointer (some ⟨b, 0, none⟩)] w fun e w' => e = .returned (.int .i64 ((l.length - at_ : Nat) : Int)) ∧ ∃ q, w' = w.drewN q := by
  obtain ⟨g, c, hc1, hc2, hgb, hb, hrd, _⟩ := h.blk
  have b0 := hb.cell 0
  have b1 := hb.cell 1
  simp only [List.getElem?_toArray, List.getElem?_cons_zero, List.getElem?_cons_succ] at b0 b1
  have hle := h.le
  have hsz := h.size
  clear h hb hrd
  have hle' : (at_ : Int) ≤ (l.length : Int) := by omega
  go_enter Tryz.func89, Tryz.ntmps89
  go_wp2_with fail
  go_quiet (fail)
  go_wp2_with fail
  go_ret
  exact ⟨by rw [Int.ofNat_sub hle]; rfl, _, rfl⟩

set_option maxHeartbeats 400000 in
theorem f112_any (b at_ : Nat) (l : List UInt8) (err : Int) (w : World) (h : Rdr w b l at_ err) :
    Calls Tryz.prog 63 #[.pointer (some ⟨b, 0, none⟩)] w fun e w' => e = .returned (.int .i64 (if err = 0 ∧ at_ < l.length then 5 else err)) ∧ ∃ q, w' = w.drewN q := by
  have hc := f173_any b at_ l err w h
  obtain ⟨g, c, hc1, hc2, hgb, hb, hrd, _⟩ := h.blk
  have b2 := hb.cell 2
  simp only [List.getElem?_toArray, List.getElem?_cons_zero, List.getElem?_cons_succ] at b2
  have HC := Lib.hid hc; clear hc h hb hrd
  by_cases he : err = 0
  · subst he
    by_cases hl : at_ < l.length
    · have hl' : (0 : Int) < ((l.length - at_ : Nat) : Int) := by omega
      rw [if_pos ⟨rfl, hl⟩]
      generalize l.length - at_ = z at HC hl'
      go_enter Tryz.func63, Tryz.ntmps63
      go_wp2_with fail
      refine HC.out.mono ?_
      rintro e w1 ⟨rfl, q, rfl⟩
      go_wp2_with fail
      go_ret
      exact ⟨rfl, _, rfl⟩
    · have hl' : ((l.length - at_ : Nat) : Int) = 0 := by omega
      rw [if_neg (fun e => hl e.2)]
      rw [hl'] at HC
      go_enter Tryz.func63, Tryz.ntmps63
      go_wp2_with fail
      refine HC.out.mono ?_
      rintro e w1 ⟨rfl, q, rfl⟩
      go_wp2_with fail
      go_ret
      exact ⟨rfl, _, rfl⟩
  · have he' : (err == 0) = false := by rw [beq_eq_false_iff_ne]; exact he
    rw [if_neg (fun e => he e.1)]
    have HE := Lib.hid he; clear he
    go_enter Tryz.func63, Tryz.ntmps63
    go_wp2_with fail
    all_goals first | (exfalso; exact HE.out (by assumption)) | skip
    go_ret
    exact ⟨rfl, 0, rfl⟩
end Go.Proofs.YtkpmabknjdgkmaaGreatDoor
