/- The walk of the terminal's method typed. -/
import Derived.Test.YtkpmabknjdgkmaaGreatDoorTerm5
import Derived.Deep.RegionLaw
import Derived.Deep.DeepCutAuto
namespace Go.Proofs.YtkpmabknjdgkmaaGreatDoor
open Go.RowKit

def nl : ByteArray := ⟨#[10]⟩
/-- What typed does to a terminal. -/
def typedT (text : ByteArray) (t : Tm) : Tm × Int :=
  if lineErr text = 0 then
    (if t.session.size = 0 then (t, 10) else if 16 ≤ t.typed.length then (t, 9) else (shownT (text ++ nl) ⟨t.epoch, t.session, t.typed ++ [text], t.screen⟩, 0))
  else (t, lineErr text)

theorem TmB.more {w : World} {tb : Nat} {D D' : Nat → Prop} {t : Tm} (h : TmB w tb D t) (hD : ∀ i, D i → D' i) (hn : ¬ D' tb) : TmB w tb D' t := by
  obtain ⟨A, c, hb, hc1, hc2, hr, hd⟩ := h
  exact ⟨A, c, hb, hc1, hc2, hr.more hD, hn⟩

theorem one_strs (l : List ByteArray) : ∀ u ∈ l.map Value.string, u.oneCell' = true := by
  intro u hu
  obtain ⟨b, _, rfl⟩ := List.mem_map.1 hu
  rfl

set_option maxRecDepth 100000 in
set_option maxHeartbeats 2000000 in
theorem f95_any (q tb : Nat) (who text line : ByteArray) (D : Nat → Prop) (t : Tm) (w : World) (hq : Rq w q who text line) (h : TmB w tb D t) (h1 : t.screen.size ≤ 1099511627776) (h2 : text.size ≤ 140737488351232) (h3 : t.typed.length ≤ 1048576) :
    Calls Tryz.prog 46 #[.pointer (some ⟨q, 0, none⟩), .pointer (some ⟨tb, 0, none⟩)] w fun e w' => e = .returned (.int .i64 (typedT text t).2) ∧ TmB w' tb (fun i => D i ∨ w.heap.size ≤ i) (typedT text t).1 ∧ Kpt (One tb) w w' := by
  obtain ⟨i0, hi, hz, hz0, hz1⟩ := info_parts info9
  have HII := Lib.hid hi; have HZI := Lib.hid hz; have HZ0 := Lib.hid hz0; have HZ1 := Lib.hid hz1; clear hi hz hz0 hz1
  have HT := Lib.hid h
  have hA : typedT text t = typedT text t := rfl
  conv at hA => rhs; unfold typedT
  generalize typedT text t = X at hA ⊢
  obtain ⟨A, c, hb, hc1, hc2, hr, hd⟩ := h
  have htlt := hb.lt
  have hdn : ¬ (D tb ∨ w.heap.size ≤ tb) := fun e => by rcases e with e | e; exact hd e; omega
  have HTm := Lib.hid (HT.out.more (D' := fun i => D i ∨ w.heap.size ≤ i) (fun i h => .inl h) hdn)
  obtain ⟨ep, ss, ls, sc⟩ := t
  simp only at hb hc1 hr hA h1 h3 ⊢
  have E34 := f34_any text h2
  have HB := Lib.hid hb; have HQ := Lib.hid hq; have HR := Lib.hid hr; have HDn := Lib.hid hdn
  have q1 := hq.cell 1
  simp only [List.getElem?_toArray, List.getElem?_cons_zero, List.getElem?_cons_succ] at q1
  clear hb hq hr hdn
  by_cases he : lineErr text = 0
  · rw [if_pos he] at hA
    rw [he] at E34
    have H34 := Lib.hid E34; clear E34
    have hts := lineErr_ok he
    have HE := Lib.hid he; clear he
    by_cases hs : ss.size = 0
    · rw [if_pos hs] at hA
      subst hA
      have hs' := isEmpty_true hs
      have HS := Lib.hid hs; clear hs
      go_enter Tryz.func46, Tryz.ntmps46
      go_wp2_with fail
      refine (H34.out _).mono ?_
      rintro e w1 ⟨rfl, k1⟩
      have b11 := (HB.out.kpt k1 (fun e => e)).cell 1
      simp only [List.getElem?_toArray, List.getElem?_cons_zero, List.getElem?_cons_succ] at b11
      have K1 := Lib.hid k1; clear k1
      go_wp2_with fail
      go_ret
      exact ⟨rfl, HTm.out.non K1.out, K1.out.up⟩
    · rw [if_neg hs] at hA
      have hs' := isEmpty_false hs
      have HS := Lib.hid hs; clear hs
      by_cases hl : 16 ≤ ls.length
      · have hl' : (16 : Int) ≤ (ls.length : Int) := by omega
        rw [if_pos hl] at hA
        subst hA
        go_enter Tryz.func46, Tryz.ntmps46
        go_wp2_with fail
        refine (H34.out _).mono ?_
        rintro e w1 ⟨rfl, k1⟩
        have b11 := (HB.out.kpt k1 (fun e => e)).cell 1
        have b12 := (HB.out.kpt k1 (fun e => e)).cell 2
        simp only [List.getElem?_toArray, List.getElem?_cons_zero, List.getElem?_cons_succ] at b11 b12
        have K1 := Lib.hid k1; clear k1
        go_wp2_with fail
        go_ret
        exact ⟨rfl, HTm.out.non K1.out, K1.out.up⟩
      · have hl' : ¬ (16 : Int) ≤ (ls.length : Int) := by omega
        rw [if_neg hl] at hA
        have hqt : q ≠ tb := Blk.ne_ HQ.out HB.out (by decide)
        go_enter Tryz.func46, Tryz.ntmps46
        go_wp2_with fail
        refine (H34.out _).mono ?_
        rintro e w1 ⟨rfl, k1⟩
        have hb1 := HB.out.kpt k1 (fun e => e)
        have b11 := hb1.cell 1
        have b12 := hb1.cell 2
        simp only [List.getElem?_toArray, List.getElem?_cons_zero, List.getElem?_cons_succ] at b11 b12
        have fb12 := hb1.frozen 2
        have hq1 := HQ.out.kpt k1 (fun e => e)
        have q11 := hq1.cell 1
        simp only [List.getElem?_toArray, List.getElem?_cons_zero, List.getElem?_cons_succ] at q11
        have hps : ∀ w', Kpt (One tb) w1 w' → w'.cell? ⟨q, 1, none⟩ = some (.string text) := fun w' k => k.cellv q11 (fun e => hqt e)
        have HPS := Lib.hid hps; clear hps
        have hrr : ∀ w', Kpt Non w1 w' → Rd w' D 1 A ls.length (ls.map Value.string) := fun w' k => (HR.out.kpt k1 (fun _ _ e => e)).kpt k (fun _ _ e => e)
        have HRR := Lib.hid hrr; clear hrr
        have hbb : ∀ w', Kpt Non w1 w' → (w'.cell? ⟨tb, 2, none⟩ = some (.slice A ls.length c) ∧ w'.frozen? ⟨tb, 2, none⟩ = false) := fun w' k => ⟨k.cellv b12 (fun e => e), (k.frozen (p := ⟨tb, 2, none⟩) hb1.lt (fun e => e)).trans fb12⟩
        have HBB := Lib.hid hbb; clear hbb
        have bd := (HBB.out w1.drew (Kpt.drew (Kpt.refl _ _))).1
        have bda : ∀ o, (w1.drew.alloc o).cell? ⟨tb, 2, none⟩ = some (.slice A ls.length c) := fun o => (HBB.out _ (Kpt.alloc (Kpt.drew (Kpt.refl _ _)) o)).1
        have bdb : ∀ o, (w1.alloc o).cell? ⟨tb, 2, none⟩ = some (.slice A ls.length c) := fun o => (HBB.out _ (Kpt.alloc (Kpt.refl _ _) o)).1
        have HB1 := Lib.hid hb1; have HQ1 := Lib.hid hq1; have K1 := Lib.hid k1
        have hsz1 := k1.size
        clear hb1 hq1 k1
        go_wp2_with fail
        have pqd := HPS.out w1.drew (Kpt.up (Kpt.drew (Kpt.refl _ _)))
        go_upto_region 7 with fail
        go_cut [] (fun wx => ∃ A' c', Hid (wx.ownsRow w1.heap.size 9 1 (.slice A' (ls.length + 1) c') (ls.length + 1) (ls.map Value.string ++ [.string text])) ∧ Hid (Kpt (One tb) w1 wx) ∧ Hid (Blk wx tb 36 #[.int .i64 ep, .string ss, .slice A' (ls.length + 1) c', .string sc]))
        case first =>
          go_region_law
            (first
              | (go_simp; go_at_call 79; refine (f163_any w1.heap.size _ c A D _ _ (by simp) (HRR.out _ (by ((repeat (first | with_reducible exact Kpt.refl _ _ | with_reducible apply Kpt.alloc | with_reducible apply Kpt.drew | with_reducible apply Kpt.drewN | (refine Kpt.trans (S' := Non) ?_ (by first | assumption | (apply Lib.Hid.out; assumption)) (fun _ e _ => e)))); done))) (by omega) hc1 (one_strs _)).mono ?_; rintro e w2 ⟨v', rfl, ho, hob, k2⟩; have pq2 := HPS.out w2 (Kpt.up (by ((repeat (first | with_reducible exact Kpt.refl _ _ | with_reducible apply Kpt.alloc | with_reducible apply Kpt.drew | with_reducible apply Kpt.drewN | (refine Kpt.trans (S' := Non) ?_ (by first | assumption | (apply Lib.Hid.out; assumption)) (fun _ e _ => e)))); done))); have HO := Lib.hid ho; clear ho; have HOB := Lib.hid hob; clear hob; first | (have hBn := (Blk.new w1.drew _ _).kpt k2 (fun e => e); have HBl := Lib.hid hBn; clear hBn) | skip)
              | (refine step_append_lies _ (by rfl) _ _ _ (by rfl) w1.heap.size 9 i0 _ 1 16 Tryz.underlying22 HII.out HZI.out HZ0.out HZ1.out (by rfl) (by omega) v' _ _ (by rfl) (HO.out.alloc _) ⟨w2.heap.size, 0, none⟩ 1 1 [.string text] (by rfl) (by rfl) (World.news_of_block (heap_alloc_new w2 _)) (by simp [Value.oneCell']) (by omega) (by simp only [maxLen]; omega) (by omega) (by have := k2.size; simp at this ⊢; omega) _ rfl ?_; intro g cap w3 hown hgrow hat hlt; have k3 : Kpt Non w1 w3 := (Kpt.app (by ((repeat (first | with_reducible exact Kpt.refl _ _ | with_reducible apply Kpt.alloc | with_reducible apply Kpt.drew | with_reducible apply Kpt.drewN | (refine Kpt.trans (S' := Non) ?_ (by first | assumption | (apply Lib.Hid.out; assumption)) (fun _ e _ => e)))); done)) hgrow (fun k hk => (HO.out.lt k hk).1)); have q3 := HBB.out _ k3; have q31 := q3.1; have q32 := q3.2; clear q3; have HO3 := Lib.hid hown; clear hown hgrow hat)
              | (refine step_append_lies _ (by rfl) _ _ _ (by rfl) w1.heap.size 9 i0 _ 1 16 Tryz.underlying22 HII.out HZI.out HZ0.out HZ1.out (by rfl) (by omega) v' _ _ (by rfl) HO.out ⟨w1.heap.size, 0, none⟩ 1 1 [.string text] (by rfl) (by rfl) (World.news_of_block HBl.out) (by simp [Value.oneCell']) (by omega) (by simp only [maxLen]; omega) (by omega) (by have := k2.size; simp at this ⊢; omega) _ rfl ?_; intro g cap w3 hown hgrow hat hlt; have k3 : Kpt Non w1 w3 := (Kpt.app (by ((repeat (first | with_reducible exact Kpt.refl _ _ | with_reducible apply Kpt.alloc | with_reducible apply Kpt.drew | with_reducible apply Kpt.drewN | (refine Kpt.trans (S' := Non) ?_ (by first | assumption | (apply Lib.Hid.out; assumption)) (fun _ e _ => e)))); done)) hgrow (fun k hk => (HO.out.lt k hk).1)); have q3 := HBB.out _ k3; have q31 := q3.1; have q32 := q3.2; clear q3; have HO3 := Lib.hid hown; clear hown hgrow hat)
              | fail)
          all_goals (go_wp2_with fail; go_meet)
          all_goals exact ⟨_, _, Lib.hid (own_kpt HO3.out ((Kpt.refl (One tb) _).setOne 2 _) (fun g' hg' e => Blk.own_ne (HB1.out.kpt k3 (fun e => e)) HO3.out (by decide) (by rw [hg']; exact congrArg some e))), Lib.hid (Kpt.setOne k3.up _ _), Lib.hid ((HB1.out.kpt k3 (fun e => e)).set_ 2 _)⟩
        case rest =>
          obtain ⟨A', c', HO, HK, HX⟩ := hcut
          obtain ⟨_, c'', hvv, hcc1, hcc2⟩ := own_slice HO.out
          have hc'' : c'' = c' := by injection hvv with _ _ h; exact h.symm
          subst hc''
          have htw : tb < w1.heap.size := HB1.out.lt
          have hq2 := HPS.out wc HK.out
          have htm : TmB wc tb (fun i => D i ∨ w.heap.size ≤ i) ⟨ep, ss, ls ++ [text], sc⟩ := by
            refine ⟨A', c'', ?_, ?_, hcc2, ?_, HDn.out⟩
            · have := HX.out
              simp only [List.length_append, List.length_singleton]
              exact this
            · simp only [List.length_append, List.length_singleton]
              exact hcc1
            · have := (Rd.of_own HO.out).more (D' := fun i => D i ∨ w.heap.size ≤ i) (fun i hi => .inr (by omega))
              simp only [List.length_append, List.length_singleton, List.map_append, List.map_cons, List.map_nil]
              exact this
          have hnl : (text ++ nl).size ≤ 1099511627776 := by rw [ByteArray.size_append, show nl.size = 1 by rfl]; omega
          have E164 := f164_any tb _ _ (text ++ nl) wc htm h1 hnl
          have H164 := Lib.hid E164; clear E164 htm hnl
          unfold nl at H164
          go_wp2_with fail
          refine H164.out.mono ?_
          rintro e w4 ⟨rfl, hb4, k4⟩
          have HB4 := Lib.hid hb4; have K4 := Lib.hid k4; clear hb4 k4
          have HAA := Lib.hid hA; clear hA
          go_wp2_with fail
          go_ret
          refine ⟨by rw [HAA.out]; rfl, by rw [HAA.out]; exact HB4.out, Kpt.trans (Kpt.trans K1.out.up HK.out (fun _ h _ => h)) K4.out (fun _ h _ => h)⟩
  · rw [if_neg he] at hA
    subst hA
    have he' : (lineErr text != 0) = true := by rw [bne_iff_ne]; exact he
    have HE := Lib.hid he; clear he
    obtain ⟨le, hle⟩ : ∃ le, lineErr text = le := ⟨_, rfl⟩
    rw [hle] at E34 he'
    have H34 := Lib.hid E34; clear E34
    have HLe := Lib.hid hle; clear hle
    go_enter Tryz.func46, Tryz.ntmps46
    go_wp2_with fail
    refine (H34.out _).mono ?_
    rintro e w1 ⟨rfl, k1⟩
    have q11 := (HQ.out.kpt k1 (fun e => e)).cell 1
    simp only [List.getElem?_toArray, List.getElem?_cons_zero, List.getElem?_cons_succ] at q11
    have K1 := Lib.hid k1; clear k1
    go_wp2_with fail
    refine (H34.out _).mono ?_
    rintro e w2 ⟨rfl, k2⟩
    have K2 := Lib.hid k2; clear k2
    go_wp2_with fail
    go_ret
    exact ⟨by rw [HLe.out]; rfl, HTm.out.non (Kpt.trans K1.out K2.out (fun _ h _ => h)), (Kpt.trans K1.out K2.out (fun _ h _ => h)).up⟩
end Go.Proofs.YtkpmabknjdgkmaaGreatDoor
