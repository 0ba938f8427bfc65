/- The reference's names: the walks of Parse, Valid and Within of package replevinref03. No condition but that a string's size fits the machine. -/
import Derived.Test.YtkpmabknjdgkmaaGreatDoorLin4
import Derived.Test.YtkpmabknjdgkmaaGreatDoorOwn
import Derived.Deep.DeepCutAuto
import Derived.IntWalk
namespace Go.Proofs.YtkpmabknjdgkmaaGreatDoor
open Go.RowKit

/-- What the parts of a text come to, behind ordinals that have been read. -/
def lres (os : List Int) (ps : List LPart) : List Int × Int × Int := match ps.find? (fun p => decide (p.err ≠ 0)) with
  | some p => ([], p.pos, p.err)
  | none => (os ++ ps.map (·.ord), 0, 0)
theorem lres_nil (os : List Int) : lres os [] = (os, 0, 0) := by simp [lres]
theorem lres_err (os : List Int) {p : LPart} (ps : List LPart) (h : p.err ≠ 0) : lres os (p :: ps) = ([], p.pos, p.err) := by simp [lres, h]
theorem lres_ok (os : List Int) {p : LPart} (ps : List LPart) (h : p.err = 0) : lres os (p :: ps) = lres (os ++ [p.ord]) ps := by
  unfold lres
  rw [List.find?_cons]
  simp only [h, ne_eq, not_true_eq_false, decide_false]
  cases ps.find? (fun p => !decide (p.err = 0)) <;> simp
theorem lparse_lres {l : List UInt8} (h : l ≠ []) : lparse l = lres [] (lparts 8 0 l) := by
  unfold lparse lres partsOf
  rw [if_neg h]
  cases (lparts 8 0 l).find? (fun p => decide (p.err ≠ 0)) <;> simp
theorem lparse_nil : lparse [] = ([], 0, 0) := by rfl

theorem isDig_iff (c : UInt8) : isDig c = true ↔ 48 ≤ c.toNat ∧ c.toNat ≤ 57 := by
  simp [isDig, UInt8.le_iff_toNat_le]
theorem digs_cons {c : UInt8} {r : List UInt8} : digs (c :: r) = if isDig c = true then digs r + 1 else 0 := by
  unfold digs
  rw [List.takeWhile_cons]
  by_cases h : isDig c = true <;> simp [h]
theorem drop_at (s : ByteArray) (k : Nat) (h : k < s.size) : s.data.toList.drop k = s[k] :: s.data.toList.drop (k + 1) := by
  rw [List.drop_eq_getElem_cons (by simpa using h)]
  rfl
theorem lparts_succ (m pos : Nat) (r : List UInt8) : lparts (m + 1) pos r = (if r = [] then [⟨0, pos, 4⟩]
    else if digs r = 0 then [⟨0, pos, 6⟩]
    else if r.head? = some 48 then [⟨0, pos, 3⟩]
    else if 6 < digs r then [⟨0, pos, 2⟩]
    else ⟨numOf (r.take (digs r)), pos, 0⟩ ::
      (if digs r = r.length then [] else if r[digs r]? = some 46 then lparts m (pos + digs r + 1) (r.drop (digs r + 1)) else [⟨0, pos + digs r, 6⟩])) := by
  rw [lparts]

theorem info3r : (Tryz.prog.info? 3).map (fun i => (i.zero, i.size, i.bytes)) = some (some (.int .i64 0), 1, 8) := by kernel_rfl

/-- The digits from k on. -/
theorem digs_drop (s : ByteArray) (k : Nat) (h : k < s.size) : digs (s.data.toList.drop k) = if isDig s[k] = true then digs (s.data.toList.drop (k + 1)) + 1 else 0 := by
  rw [drop_at s k h, digs_cons]
theorem digs_far (s : ByteArray) (k : Nat) (h : s.size ≤ k) : digs (s.data.toList.drop k) = 0 := by
  rw [List.drop_eq_nil_of_le (by simpa using h)]; rfl
/-- Where the digits that begin at p reach when j of them have been seen. -/
theorem digs_seen {s : ByteArray} {p j : Nat} (h : ∀ i, i < j → ∃ c, (s.data.toList.drop p)[i]? = some c ∧ isDig c = true) : digs (s.data.toList.drop p) = j + digs (s.data.toList.drop (p + j)) := by
  induction j generalizing p with
  | zero => simp
  | succ j ih =>
    obtain ⟨c, hc, hd⟩ := h 0 (by omega)
    rw [List.getElem?_drop] at hc
    have hlt : p < s.size := by have := (List.getElem?_eq_some_iff.1 hc).1; simpa using this
    have hcp : s[p] = c := by
      have := (List.getElem?_eq_some_iff.1 hc).2
      rw [← this]; rfl
    rw [digs_drop s p hlt, hcp, if_pos hd, ih (p := p + 1) (fun i hi => by
      obtain ⟨c', h1, h2⟩ := h (i + 1) (by omega)
      refine ⟨c', ?_, h2⟩
      rw [List.getElem?_drop] at h1 ⊢
      rw [← h1]
      congr 1
      omega)]
    rw [show p + 1 + j = p + (j + 1) by omega]
    omega

set_option maxRecDepth 100000 in
set_option maxHeartbeats 2000000 in
theorem f175_any (s : ByteArray) (hs : s.size ≤ 140737488351232) (w : World) :
    Calls Tryz.prog 91 #[.string s] w fun e w' => ∃ v, e = .returned (.tuple #[v, .int .i64 (lparse s.data.toList).2.1, .int .i64 (lparse s.data.toList).2.2]) ∧
      w'.ownsRow w.heap.size 3 1 v (lparse s.data.toList).1.length ((lparse s.data.toList).1.map (Value.int .i64)) ∧ Kpt Non w w' := by
  obtain ⟨i0, hi, hz, hz0, hz1⟩ := info_parts info3r
  have HI := Lib.hid hi; have HZ := Lib.hid hz; have HZ0 := Lib.hid hz0; have HZ1 := Lib.hid hz1; clear hi hz hz0 hz1
  have fin : ∀ (x y : Int) (w' : World) (v : Value), (lparse s.data.toList).2 = (x, y) → Hid (w'.ownsRow w.heap.size 3 1 v (lparse s.data.toList).1.length ((lparse s.data.toList).1.map (Value.int .i64))) → Hid (Kpt Non w w') →
      ∃ v', Ending.returned (.tuple #[v, .int .i64 x, .int .i64 y]) = .returned (.tuple #[v', .int .i64 (lparse s.data.toList).2.1, .int .i64 (lparse s.data.toList).2.2]) ∧ w'.ownsRow w.heap.size 3 1 v' (lparse s.data.toList).1.length ((lparse s.data.toList).1.map (Value.int .i64)) ∧ Kpt Non w w' :=
    fun x y w' v h1 h2 h3 => ⟨v, by rw [h1], h2.out, h3.out⟩
  have fine : ∀ (x y : Int) (w' : World), lparse s.data.toList = ([], x, y) → Hid (Kpt Non w w') →
      ∃ v', Ending.returned (.tuple #[.slice none 0 0, .int .i64 x, .int .i64 y]) = .returned (.tuple #[v', .int .i64 (lparse s.data.toList).2.1, .int .i64 (lparse s.data.toList).2.2]) ∧ w'.ownsRow w.heap.size 3 1 v' (lparse s.data.toList).1.length ((lparse s.data.toList).1.map (Value.int .i64)) ∧ Kpt Non w w' :=
    fun x y w' h1 h3 => fin x y w' _ (by rw [h1]) (Lib.hid (by rw [h1]; exact World.ownsRow_nil _ _ _ _)) h3
  have Fin := Lib.hid fin; have Fine := Lib.hid fine; clear fin fine
  by_cases h0 : s.size = 0
  · have h0' := isEmpty_true h0
    have hn : s.data.toList = [] := List.eq_nil_of_length_eq_zero (by simpa using h0)
    have hl : lparse s.data.toList = ([], 0, 0) := by rw [hn]; exact lparse_nil
    have HL := Lib.hid hl; have H0 := Lib.hid h0; clear hn hl h0
    go_enter Tryz.func91, Tryz.ntmps91
    go_wp2_with fail
    refine bodyPost_ret (v := .tuple #[.slice none 0 0, .int .i64 0, .int .i64 0]) (by simp [results, Tryz.results91, go_sem]) rfl (Fine.out 0 0 _ HL.out (Lib.hid (Kpt.refl _ _)))
  · have h0' := isEmpty_false h0
    have hne : s.data.toList ≠ [] := fun e => h0 (by have := congrArg List.length e; simpa using this)
    have HStart := Lib.hid (lparse_lres hne); have H0 := Lib.hid h0; clear hne h0
    go_enter Tryz.func91, Tryz.ntmps91
    go_wp2_with fail
    go_loopw [5, 6] (fun x5 x6 wr => ∃ (os : List Int) (at_ : Nat) (ov : Value), ov = x5 ∧ x6 = .int .i64 at_ ∧ os.length ≤ 8 ∧ at_ ≤ s.size ∧ Hid (lparse s.data.toList = lres os (lparts (8 - os.length) at_ (s.data.toList.drop at_))) ∧ Hid (wr.ownsRow w.heap.size 3 1 ov os.length (os.map (Value.int .i64))) ∧ Hid (Kpt Non w wr)) (fun _ x6 _ => s.size + 1 - (intOf x6).toNat)
    case atStart => exact ⟨[], 0, _, rfl, rfl, by simp, by omega, HStart, Lib.hid (World.ownsRow_nil _ _ _ _), Lib.hid (Kpt.refl _ _)⟩
    case round =>
      obtain ⟨os, p, ov, rfl, rfl, ho, hp, HL, HO, HK⟩ := hrel
      obtain ⟨Ao, co, rfl, hco1, hco2⟩ := own_slice HO.out
      by_cases h8 : os.length = 8
      · have h8' : ((os.length : Int) == 8) = true := by rw [beq_iff_eq]; omega
        have hl := HL.out
        rw [h8, Nat.sub_self, lparts, lres_err _ _ (by simp)] at hl
        have HLn := Lib.hid hl; clear hl
        have H8 := Lib.hid h8; clear h8
        go_wp2_with fail
        refine bodyPost_ret (v := .tuple #[.slice none 0 0, .int .i64 (p : Int), .int .i64 9]) (by simp [results, Tryz.results91, go_sem]) rfl (Fine.out _ _ _ HLn.out HK)
      have h8' : ((os.length : Int) == 8) = false := by rw [beq_eq_false_iff_ne]; omega
      obtain ⟨m, hm⟩ : ∃ m, 8 - os.length = m + 1 := ⟨7 - os.length, by omega⟩
      have hl := HL.out
      rw [hm, lparts_succ] at hl
      by_cases h1 : p = s.size
      · have h1' : ((p : Int) == (s.size : Int)) = true := by rw [beq_iff_eq]; omega
        have hd : s.data.toList.drop p = [] := List.drop_eq_nil_of_le (by simp; omega)
        rw [if_pos hd, lres_err _ _ (by simp)] at hl
        have HLn := Lib.hid hl; clear hl
        have H1 := Lib.hid h1; have HD := Lib.hid hd; clear h1 hd
        go_wp2_with fail
        refine bodyPost_ret (v := .tuple #[.slice none 0 0, .int .i64 (p : Int), .int .i64 4]) (by simp [results, Tryz.results91, go_sem]) rfl (Fine.out _ _ _ HLn.out HK)
      have h1' : ((p : Int) == (s.size : Int)) = false := by rw [beq_eq_false_iff_ne]; omega
      have hps : p < s.size := by omega
      have hps' : (p : Int) < (s.size : Int) := by omega
      have hp0 : (0 : Int) ≤ (p : Int) := by omega
      have hdr := drop_at s p hps
      rw [if_neg (by rw [hdr]; simp)] at hl
      have hdg := digs_drop s p hps
      have hb := UInt8.toNat_lt s[p]
      by_cases h2 : (s[p].toNat : Int) < 48
      · have hnd : ¬ isDig s[p] = true := by rw [isDig_iff]; omega
        rw [if_neg hnd] at hdg
        rw [if_pos hdg, lres_err _ _ (by simp)] at hl
        have HLn := Lib.hid hl; clear hl hdg hdr hnd
        go_wp2_with fail
        refine bodyPost_ret (v := .tuple #[.slice none 0 0, .int .i64 (p : Int), .int .i64 6]) (by simp [results, Tryz.results91, go_sem]) rfl (Fine.out _ _ _ HLn.out HK)
      by_cases h3 : (57 : Int) < (s[p].toNat : Int)
      · have hnd : ¬ isDig s[p] = true := by rw [isDig_iff]; omega
        rw [if_neg hnd] at hdg
        rw [if_pos hdg, lres_err _ _ (by simp)] at hl
        have HLn := Lib.hid hl; clear hl hdg hdr hnd
        go_wp2_with fail
        refine bodyPost_ret (v := .tuple #[.slice none 0 0, .int .i64 (p : Int), .int .i64 6]) (by simp [results, Tryz.results91, go_sem]) rfl (Fine.out _ _ _ HLn.out HK)
      have hyd : isDig s[p] = true := by rw [isDig_iff]; omega
      rw [if_pos hyd] at hdg
      rw [if_neg (by omega)] at hl
      by_cases h4 : (s[p].toNat : Int) = 48
      · have hc : s[p] = 48 := by
          apply UInt8.toNat_inj.1
          show s[p].toNat = 48
          omega
        have h4' : ((s[p].toNat : Int) == 48) = true := by rw [beq_iff_eq]; exact h4
        rw [hdr, List.head?_cons, if_pos (by rw [hc]), lres_err _ _ (by simp)] at hl
        have HLn := Lib.hid hl; have H4 := Lib.hid h4; clear hl hdg hdr hyd hc h4
        go_wp2_with fail
        refine bodyPost_ret (v := .tuple #[.slice none 0 0, .int .i64 (p : Int), .int .i64 3]) (by simp [results, Tryz.results91, go_sem]) rfl (Fine.out _ _ _ HLn.out HK)
      have h4' : ((s[p].toNat : Int) == 48) = false := by rw [beq_eq_false_iff_ne]; exact h4
      rw [if_neg (by
        rw [hdr, List.head?_cons]
        intro e
        injection e with e
        exact h4 (by rw [e]; rfl))] at hl
      have HLn := Lib.hid hl; have H4 := Lib.hid h4; have HDg := Lib.hid hdg; clear hl hdg hdr hyd h4
      have hw7 : IntKind.i64.wrap ((p : Int) + 7) = (p : Int) + 7 := IntWalk.i64_in _ (by omega)
      have HDr := Lib.hid hb; clear hb
      go_wp2_with fail
      go_loopw [7, 8] (fun x7 x8 wi => ∃ j : Nat, x7 = .int .i64 (numOf ((s.data.toList.drop p).take j)) ∧ x8 = .int .i64 (p + j : Nat) ∧ wr = wi ∧ j ≤ 7 ∧ p + j ≤ s.size ∧ Hid (∀ i, i < j → ∃ c, (s.data.toList.drop p)[i]? = some c ∧ isDig c = true)) (fun _ x8 _ => p + 7 - (intOf x8).toNat)
      case atStart => exact ⟨0, rfl, rfl, rfl, by omega, by omega, Lib.hid (fun i hi => absurd hi (by omega))⟩
      case round =>
        obtain ⟨j, rfl, rfl, rfl, hj7, hjs, HSeen⟩ := hrel
        have hnum := numOf_lt ((s.data.toList.drop p).take j) (fun c hc => by
          obtain ⟨i, hi⟩ := List.getElem?_of_mem hc
          rw [List.getElem?_take] at hi
          split at hi
          · rename_i hij
            obtain ⟨c', h1, h2⟩ := HSeen.out i hij
            rw [h1] at hi
            injection hi with hi
            rw [← hi]; exact h2
          · cases hi)
        have hseen := digs_seen HSeen.out
        have hlen : ((s.data.toList.drop p).take j).length ≤ 7 := by rw [List.length_take]; omega
        have hn7 : numOf ((s.data.toList.drop p).take j) < 10000000 := Int.lt_of_lt_of_le hnum.2 (by
          have : ∀ k < 8, (10 : Int) ^ k ≤ 10000000 := by decide
          exact this _ (by omega))
        have hn0 := hnum.1
        obtain ⟨N, hN⟩ : ∃ N, numOf ((s.data.toList.drop p).take j) = N := ⟨_, rfl⟩
        rw [hN] at hn7 hn0
        have HN := Lib.hid hN
        simp only [hN]
        clear hnum hlen hN
        have HSn := Lib.hid hseen; clear hseen
        obtain ⟨q, hq⟩ : ∃ q, p + j = q := ⟨_, rfl⟩
        have HQ := Lib.hid hq
        rw [hq] at HSn hjs
        simp only [hq]
        clear hq
        have hq0 : (0 : Int) ≤ (q : Int) := by omega
        by_cases hj : j < 7
        · have hj' : (q : Int) < (p : Int) + 7 := by have := HQ.out; omega
          have hj'' : ((q : Int) == (p : Int) + 7) = false := by rw [beq_eq_false_iff_ne]; omega
          -- the digits end here
          have hend : digs (s.data.toList.drop q) = 0 → digs (s.data.toList.drop p) = j := fun e => by rw [HSn.out, e]; rfl
          have hl2 : digs (s.data.toList.drop p) = j → lparse s.data.toList = lres (os ++ [N]) (if q = s.size then [] else if (s.data.toList.drop p)[j]? = some 46 then lparts m (q + 1) (s.data.toList.drop (q + 1)) else [⟨0, (q : Int), 6⟩]) := fun e => by
            have hl := HLn.out
            rw [e, if_neg (by omega), lres_ok _ _ rfl] at hl
            simp only [HN.out] at hl
            rw [hl]
            have e1 : (j = (s.data.toList.drop p).length) ↔ q = s.size := by
              have := HQ.out
              simp
              omega
            have e2 : p + j + 1 = q + 1 := by have := HQ.out; omega
            have e3 : (s.data.toList.drop p).drop (j + 1) = s.data.toList.drop (q + 1) := by
              rw [List.drop_drop]
              congr 1
            have e4 : ((p : Int) + (j : Int)) = (q : Int) := by have := HQ.out; omega
            by_cases hq : q = s.size
            · rw [if_pos (e1.2 hq), if_pos hq]
            · rw [if_neg (fun e => hq (e1.1 e)), if_neg hq, e2, e3, e4]
          have HEnd := Lib.hid hend; have HL2 := Lib.hid hl2; clear hend hl2
          by_cases hin : q < s.size
          · have hin' : (q : Int) < (s.size : Int) := by omega
            have hin'' : ((q : Int) == (s.size : Int)) = false := by rw [beq_eq_false_iff_ne]; omega
            have hat : (s.data.toList.drop p)[j]? = some s[q] := by
              rw [List.getElem?_drop, HQ.out]
              rw [List.getElem?_eq_getElem (by simpa using hin)]
              rfl
            have HAt := Lib.hid hat; clear hat
            have hbq := UInt8.toNat_lt s[q]
            by_cases hdg : isDig s[q] = true
            · have hlo : (48 : Int) ≤ (s[q].toNat : Int) := by rw [isDig_iff] at hdg; omega
              have hhi : (s[q].toNat : Int) ≤ 57 := by rw [isDig_iff] at hdg; omega
              have HDq := Lib.hid hdg; clear hdg
              go_wp2_with fail
              refine ⟨⟨j + 1, ?_, by have := HQ.out; go_num, trivial, by omega, by have := HQ.out; omega, Lib.hid (fun i hi => ?_)⟩, by simp [intOf]; have := HQ.out; omega⟩
              · rw [List.take_add_one, HAt.out, Option.toList_some, numOf_snoc, HN.out]
                congr 1
                omega
              · by_cases hij : i < j
                · exact HSeen.out i hij
                · obtain rfl : i = j := by omega
                  exact ⟨_, HAt.out, HDq.out⟩
            · have hdj := HEnd.out (by rw [digs_drop s q hin, if_neg hdg])
              have hl3 := HL2.out hdj
              rw [if_neg (by omega), HAt.out] at hl3
              have hdot : (s[q].toNat : Int) = 46 ↔ s[q] = 46 := ⟨fun e => UInt8.toNat_inj.1 (by show s[q].toNat = 46; omega), fun e => by rw [e]; rfl⟩
              have hos7 : os.length ≤ 7 := by omega
              have hcase : ((s[q].toNat : Int) < 48 ∧ (s[q].toNat : Int) = 46) ∨ ((s[q].toNat : Int) < 48 ∧ (s[q].toNat : Int) ≠ 46) ∨ ((48 : Int) ≤ (s[q].toNat : Int) ∧ (57 : Int) < (s[q].toNat : Int) ∧ (s[q].toNat : Int) ≠ 46) := by
                rw [isDig_iff] at hdg
                omega
              clear hdg hdj
              rcases hcase with ⟨hlo, heq⟩ | ⟨hlo, hne⟩ | ⟨hlo, hhi, hne⟩
              · rw [if_pos (by rw [hdot.1 heq])] at hl3
                have hne' : ((s[q].toNat : Int) != 46) = false := by rw [bne_eq_false_iff_eq]; exact heq
                have HL3 := Lib.hid hl3; clear hl3 hdot heq
                go_wp2_with (refine wpList_append_own _ rfl _ _ 100 rfl w.heap.size 3 i0 _ 1 8 Tryz.underlying100 HI.out HZ.out HZ0.out HZ1.out rfl (by decide) _ _ _ rfl (HO.out.alloc _) ⟨wr.heap.size, 0, none⟩ 1 1 [.int .i64 N] rfl rfl (cell_one_new _ _ _) (by simp [Value.oneCell']) (by simp only [maxLen]; omega) (by omega) (by have := HK.out.size; simp; omega) ?_; intro v' w5 ho5 hg5 _; have HO5 := Lib.hid ho5; have HG5 := Lib.hid (show World.grownBy _ w5 (Value.slice Ao os.length co).ownBlock from hg5); clear ho5 hg5)
                have hk5 : Kpt Non w w5 := Kpt.trans (Kpt.alloc HK.out _) (Kpt.grown (Kpt.refl (fun i => (Value.slice Ao os.length co).ownBlock = some i) _) HG5.out (fun _ e _ => e)) (fun i e hlt => by have := (HO.out.lt i e).1; omega)
                refine ⟨⟨os ++ [N], q + 1, v', rfl, by go_num, by simp; omega, by omega, Lib.hid ?_, Lib.hid (by simpa using HO5.out), Lib.hid hk5⟩, by simp [intOf]; have := HQ.out; omega⟩
                rw [HL3.out, List.length_append, List.length_singleton, show 8 - (os.length + 1) = m by omega]
              · rw [if_neg (fun e => hne (hdot.2 (by injection e))), lres_err _ _ (by simp)] at hl3
                have hne' : ((s[q].toNat : Int) != 46) = true := by rw [bne_iff_ne]; exact hne
                have HL3 := Lib.hid hl3; clear hl3 hdot hne
                go_wp2_with (refine wpList_append_own _ rfl _ _ 100 rfl w.heap.size 3 i0 _ 1 8 Tryz.underlying100 HI.out HZ.out HZ0.out HZ1.out rfl (by decide) _ _ _ rfl (HO.out.alloc _) ⟨wr.heap.size, 0, none⟩ 1 1 [.int .i64 N] rfl rfl (cell_one_new _ _ _) (by simp [Value.oneCell']) (by simp only [maxLen]; omega) (by omega) (by have := HK.out.size; simp; omega) ?_; intro v' w5 ho5 hg5 _; have HO5 := Lib.hid ho5; have HG5 := Lib.hid (show World.grownBy _ w5 (Value.slice Ao os.length co).ownBlock from hg5); clear ho5 hg5)
                have hk5 : Kpt Non w w5 := Kpt.trans (Kpt.alloc HK.out _) (Kpt.grown (Kpt.refl (fun i => (Value.slice Ao os.length co).ownBlock = some i) _) HG5.out (fun _ e _ => e)) (fun i e hlt => by have := (HO.out.lt i e).1; omega)
                refine bodyPost_ret (v := .tuple #[.slice none 0 0, .int .i64 (q : Int), .int .i64 6]) (by simp [results, Tryz.results91, go_sem]) rfl (Fine.out _ _ _ HL3.out (Lib.hid hk5))
              · rw [if_neg (fun e => hne (hdot.2 (by injection e))), lres_err _ _ (by simp)] at hl3
                have hne' : ((s[q].toNat : Int) != 46) = true := by rw [bne_iff_ne]; exact hne
                have HL3 := Lib.hid hl3; clear hl3 hdot hne
                go_wp2_with (refine wpList_append_own _ rfl _ _ 100 rfl w.heap.size 3 i0 _ 1 8 Tryz.underlying100 HI.out HZ.out HZ0.out HZ1.out rfl (by decide) _ _ _ rfl (HO.out.alloc _) ⟨wr.heap.size, 0, none⟩ 1 1 [.int .i64 N] rfl rfl (cell_one_new _ _ _) (by simp [Value.oneCell']) (by simp only [maxLen]; omega) (by omega) (by have := HK.out.size; simp; omega) ?_; intro v' w5 ho5 hg5 _; have HO5 := Lib.hid ho5; have HG5 := Lib.hid (show World.grownBy _ w5 (Value.slice Ao os.length co).ownBlock from hg5); clear ho5 hg5)
                have hk5 : Kpt Non w w5 := Kpt.trans (Kpt.alloc HK.out _) (Kpt.grown (Kpt.refl (fun i => (Value.slice Ao os.length co).ownBlock = some i) _) HG5.out (fun _ e _ => e)) (fun i e hlt => by have := (HO.out.lt i e).1; omega)
                refine bodyPost_ret (v := .tuple #[.slice none 0 0, .int .i64 (q : Int), .int .i64 6]) (by simp [results, Tryz.results91, go_sem]) rfl (Fine.out _ _ _ HL3.out (Lib.hid hk5))
          · have hin' : ¬ (q : Int) < (s.size : Int) := by omega
            have hqs : q = s.size := by omega
            have hin'' : ((q : Int) == (s.size : Int)) = true := by rw [beq_iff_eq]; omega
            have hl3 := HL2.out (HEnd.out (digs_far s q (by omega)))
            rw [if_pos hqs, lres_nil] at hl3
            have hos7 : os.length ≤ 7 := by omega
            have HL3 := Lib.hid hl3; have HQs := Lib.hid hqs; clear hl3 hqs
            go_wp2_with (refine wpList_append_own _ rfl _ _ 100 rfl w.heap.size 3 i0 _ 1 8 Tryz.underlying100 HI.out HZ.out HZ0.out HZ1.out rfl (by decide) _ _ _ rfl (HO.out.alloc _) ⟨wr.heap.size, 0, none⟩ 1 1 [.int .i64 N] rfl rfl (cell_one_new _ _ _) (by simp [Value.oneCell']) (by simp only [maxLen]; omega) (by omega) (by have := HK.out.size; simp; omega) ?_; intro v' w5 ho5 hg5 _; have HO5 := Lib.hid ho5; have HG5 := Lib.hid (show World.grownBy _ w5 (Value.slice Ao os.length co).ownBlock from hg5); clear ho5 hg5)
            have hk5 : Kpt Non w w5 := Kpt.trans (Kpt.alloc HK.out _) (Kpt.grown (Kpt.refl (fun i => (Value.slice Ao os.length co).ownBlock = some i) _) HG5.out (fun _ e _ => e)) (fun i e hlt => by have := (HO.out.lt i e).1; omega)
            refine bodyPost_ret (v := .tuple #[v', .int .i64 0, .int .i64 0]) (by simp [results, Tryz.results91, go_sem]) rfl (Fin.out 0 0 _ _ (by rw [HL3.out]) (Lib.hid (by rw [HL3.out]; simpa using HO5.out)) (Lib.hid hk5))
        · have hj7' : j = 7 := by omega
          have hj' : ¬ (q : Int) < (p : Int) + 7 := by have := HQ.out; omega
          have hj'' : ((q : Int) == (p : Int) + 7) = true := by rw [beq_iff_eq]; have := HQ.out; omega
          have hl := HLn.out
          rw [if_pos (by rw [HSn.out]; omega), lres_err _ _ (by simp)] at hl
          have HL3 := Lib.hid hl; have HJ := Lib.hid hj7'; clear hl hj7' hj
          by_cases hin : (q : Int) < (s.size : Int)
          · have hinn : q < s.size := by omega
            by_cases hlo : (48 : Int) ≤ (s[q].toNat : Int)
            · by_cases hhi : (s[q].toNat : Int) ≤ 57
              · go_wp2_with fail
                refine bodyPost_ret (v := .tuple #[.slice none 0 0, .int .i64 (p : Int), .int .i64 2]) (by simp [results, Tryz.results91, go_sem]) rfl (Fine.out _ _ _ HL3.out HK)
              · go_wp2_with fail
                refine bodyPost_ret (v := .tuple #[.slice none 0 0, .int .i64 (p : Int), .int .i64 2]) (by simp [results, Tryz.results91, go_sem]) rfl (Fine.out _ _ _ HL3.out HK)
            · go_wp2_with fail
              refine bodyPost_ret (v := .tuple #[.slice none 0 0, .int .i64 (p : Int), .int .i64 2]) (by simp [results, Tryz.results91, go_sem]) rfl (Fine.out _ _ _ HL3.out HK)
          · go_wp2_with fail
            refine bodyPost_ret (v := .tuple #[.slice none 0 0, .int .i64 (p : Int), .int .i64 2]) (by simp [results, Tryz.results91, go_sem]) rfl (Fine.out _ _ _ HL3.out HK)

set_option maxHeartbeats 400000 in
/-- The reference's Valid. -/
theorem f115_any (s : ByteArray) (hs : s.size ≤ 140737488351232) (w : World) :
    Calls Tryz.prog 66 #[.string s] w fun e w' => e = .returned (.bool (validB s.data.toList)) ∧ Kpt Non w w' := by
  go_enter Tryz.func66, Tryz.ntmps66
  go_wp2_with (go_at_call 91; refine (f175_any s hs _).mono ?_; rintro e w1 ⟨v, rfl, hv, hk⟩; have HK := Lib.hid hk; clear hk)
  go_ret
  exact ⟨rfl, HK.out⟩
end Go.Proofs.YtkpmabknjdgkmaaGreatDoor
