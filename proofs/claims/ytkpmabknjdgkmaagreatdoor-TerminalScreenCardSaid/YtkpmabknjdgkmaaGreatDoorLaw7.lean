/- The law TerminalScreen: its walk, and what it computes. No condition. -/
import Derived.Test.YtkpmabknjdgkmaaGreatDoorLaw6
namespace Go.Proofs.YtkpmabknjdgkmaaGreatDoor
open Go.RowKit

def sBefore : ByteArray := ⟨#[98, 101, 102, 111, 114, 101]⟩
theorem scr_scr (l m : List UInt8) : scr (scr l ++ m) = scr (l ++ m) := by
  unfold scr
  simp only [List.length_append, List.length_drop]
  by_cases h : l.length ≤ 2048
  · rw [show l.length - 2048 = 0 by omega, List.drop_zero, Nat.sub_zero]
  · rw [show l.length - (l.length - 2048) = 2048 by omega]
    have e1 : l.drop (l.length - 2048) ++ m = (l ++ m).drop (l.length - 2048) := by rw [List.drop_append_of_le_length (by omega)]
    rw [e1, List.drop_drop]
    exact congrArg (fun k => List.drop k (l ++ m)) (by omega)
/-- The screen that has shown all of a. -/
def scrOf (a : ByteArray) : ByteArray := strB (scr (bytesOf a))
theorem bytesOf_append (a b : ByteArray) : bytesOf (a ++ b) = bytesOf a ++ bytesOf b := by simp [bytesOf]
theorem scrOf_append (a b : ByteArray) : strB (scr (bytesOf (scrOf a) ++ bytesOf b)) = scrOf (a ++ b) := by
  unfold scrOf
  rw [bytesOf_strB, scr_scr, bytesOf_append]
theorem scrOf_es : scrOf es = es := by decide +kernel
theorem scrOf_eq (a : ByteArray) : scrOf a = a.extract (a.size - 2048) a.size := by
  have := scr_eq a es
  have e1 : a ++ es = a := by
    apply ByteArray.ext
    simp [es]
  rw [e1] at this
  rw [← this]
  unfold scrOf
  rw [show bytesOf es = [] from rfl, List.append_nil]

theorem tl_eq {a b : ByteArray} (h : a = b) : (a.toList == b.toList) = true := by rw [h]; simp
theorem screen_begin {X : Ts} {sc : ByteArray} (hX : X 99 = some ⟨5, es, [], sc⟩) : opR X 99 5 (beginT s3) = (X.put 99 ⟨5, s3, [], scrOf es⟩, 0) :=
  opR_ok (t := ⟨5, es, [], sc⟩) (by omega) (by omega) (by rw [hX]; rfl) (by unfold beginT; rw [if_pos v3, if_neg (by simp [size_es]), scrOf_es])
theorem screen_type {X : Ts} {ls : List ByteArray} {a : ByteArray} (x : ByteArray) (hX : X 99 = some ⟨5, s3, ls, scrOf a⟩) :
    ∃ X1 err ls1 a1, opR X 99 5 (typedT x) = (X1, err) ∧ X1 99 = some ⟨5, s3, ls1, scrOf a1⟩ ∧ ((err = 0 ∧ a1 = a ++ (x ++ nl)) ∨ (err ≠ 0 ∧ a1 = a)) := by
  have hin : inT (X 99) 5 = ⟨5, s3, ls, scrOf a⟩ := by rw [hX]; rfl
  by_cases h1 : lineErr x = 0
  · by_cases h2 : 16 ≤ ls.length
    · exact ⟨X, 9, ls, a, opR_err (t' := ⟨5, s3, ls, scrOf a⟩) (by omega) (by omega) hin (by unfold typedT; rw [if_pos h1, if_neg v3.2, if_pos h2]) (by decide), hX, .inr ⟨by decide, rfl⟩⟩
    · exact ⟨_, 0, ls ++ [x], a ++ (x ++ nl), opR_ok (t' := ⟨5, s3, ls ++ [x], scrOf (a ++ (x ++ nl))⟩) (by omega) (by omega) hin (by
        unfold typedT shownT
        rw [if_pos h1, if_neg v3.2, if_neg h2]
        simp only
        rw [scrOf_append]), Ts.put_same _ _ _, .inl ⟨rfl, rfl⟩⟩
  · exact ⟨X, lineErr x, ls, a, opR_err (t' := ⟨5, s3, ls, scrOf a⟩) (by omega) (by omega) hin (by unfold typedT; rw [if_neg h1]) h1, hX, .inr ⟨h1, rfl⟩⟩
theorem screen_show {X : Ts} {ls : List ByteArray} {a : ByteArray} (x : ByteArray) (hx : x.size ≤ 3000) (hX : X 99 = some ⟨5, s3, ls, scrOf a⟩) :
    ∃ X1 i, shwR X 99 5 x = (X1, 0, i) ∧ i ≤ 1 ∧ X1 99 = some ⟨5, s3, ls, scrOf (a ++ x)⟩ := by
  have hin : inT (X 99) 5 = ⟨5, s3, ls, scrOf a⟩ := by rw [hX]; rfl
  unfold shwR
  rw [if_pos (by omega), if_neg (by omega)]
  by_cases h : x.size = 0
  · rw [if_pos h]
    have e1 : a ++ x = a := by
      apply ByteArray.ext
      have : x.data = #[] := Array.eq_empty_of_size_eq_zero h
      simp [this]
    exact ⟨X, 0, rfl, by omega, by rw [e1]; exact hX⟩
  · rw [if_neg h]
    refine ⟨_, 1, rfl, by omega, ?_⟩
    rw [Ts.put_same, hin]
    unfold shownT
    simp only
    rw [scrOf_append]
theorem screen_end {X : Ts} {ls : List ByteArray} {sc : ByteArray} (hX : X 99 = some ⟨5, s3, ls, sc⟩) : opR X 99 5 (endT s3) = (X.put 99 ⟨5, es, [], sc⟩, 0) :=
  opR_ok (t := ⟨5, s3, ls, sc⟩) (by omega) (by omega) (by rw [hX]; rfl) (by unfold endT; rw [if_pos ⟨v3.2, rfl⟩])

/-- How the law stands: a has been shown. -/
def SSt (w : World) (top b k : Nat) (a : ByteArray) (wr : World) : Prop :=
  ∃ (ls : List ByteArray) (c : Nat) (X : Ts), Hid (V w top wr b c X) ∧ c ≤ k + 2 ∧ X 99 = some ⟨5, s3, ls, scrOf a⟩ ∧ a.size ≤ 3001 * k

theorem screen_before : ∃ sc, shwR X0L 99 5 sBefore = (X0L.put 99 ⟨5, es, [], sc⟩, 0, 1) := by
  unfold shwR
  rw [if_pos (by omega), if_neg (by decide), if_neg (by decide)]
  exact ⟨_, rfl⟩

set_option maxRecDepth 100000 in
/-- Too many texts: the answer is known's. -/
theorem f6_many (A B : Option Addr) (n cn m cm : Nat) (w : World) (h30 : (30 : Int) < (n : Int)) :
    Calls Tryz.prog 6 #[.slice A n cn, .slice B m cm] w fun e w' => e = .returned (.bool true) ∧ Kpt Non w w' := by
  go_enter Tryz.func6, Tryz.ntmps6
  go_wp2_with fail
  refine (f24_any _).mono ?_
  rintro e w1 ⟨rfl, k1⟩
  have K1 := Lib.hid k1; clear k1
  go_wp2_with fail
  refine (f24_any _).mono ?_
  rintro e w2 ⟨rfl, k2⟩
  have K2 := Lib.hid k2; clear k2
  go_wp2_with fail
  go_ret
  exact ⟨rfl, Kpt.trans K1.out K2.out (fun _ e _ => e)⟩

set_option maxRecDepth 100000 in
set_option maxHeartbeats 4000000 in
theorem f6_few (A B : Option Addr) (n cn m cm : Nat) (texts : List ByteArray) (rs : List Bool) (w : World) (hl : Rd w (fun i => i < w.heap.size) 1 A n (texts.map Value.string)) (hr : Rd w (fun i => i < w.heap.size) 1 B m (rs.map Value.bool))
    (hs : ∀ s ∈ texts, s.size ≤ 140737488351232) (h30 : ¬ (30 : Int) < (n : Int)) :
    Calls Tryz.prog 6 #[.slice A n cn, .slice B m cm] w fun e w' => e = .returned (.bool true) ∧ Kpt Non w w' := by
  have HL := Lib.hid hl; have HR := Lib.hid hr; have HS := Lib.hid hs; clear hl hr hs
  obtain ⟨sc0, hb0⟩ := screen_before
  have HB0 := Lib.hid hb0; clear hb0
  go_enter Tryz.func6, Tryz.ntmps6
  go_wp2_with fail
  refine (f24_any _).mono ?_
  rintro e w1 ⟨rfl, k1⟩
  have K1 := Lib.hid k1; clear k1
  have hs1 := K1.out.size
  go_wp2_with fail
  refine (f26_any _).mono ?_
  rintro e w2 ⟨rfl, rfl⟩
  go_wp2_with fail
  refine (V.new w1).mono ?_
  rintro e w2 ⟨b, rfl, hv⟩
  have htop : w1.heap.size ≤ w2.heap.size := hv.kpt.size
  obtain ⟨top, ht⟩ : ∃ top, w2.heap.size = top := ⟨_, rfl⟩
  rw [ht] at hv htop
  have HV := Lib.hid hv; clear hv ht
  go_wp2_with fail
  refine (V.show (c' := 1) HV.out sBefore HB0.out rfl (by decide)).mono ?_
  rintro e w3 ⟨rfl, hv, -⟩
  have HV := Lib.hid hv; clear hv
  go_wp2_with fail
  refine (V.begin (c' := 2) HV.out s3 (screen_begin (Ts.put_same _ _ _)) rfl (by decide) (by decide)).mono ?_
  rintro e w4 ⟨rfl, hv, -⟩
  have HV := Lib.hid hv; clear hv
  go_wp2_with fail
  go_loopw [6, 7] (fun av xi wr => ∃ (k : Nat) (a : ByteArray), xi = .int .i64 k ∧ av = .string a ∧ k ≤ n ∧ SSt w1 top b k a wr) (fun _ xi _ => n - (intOf xi).toNat)
  case atStart =>
    exact ⟨0, es, rfl, rfl, Nat.zero_le _, [], 2, _, HV, by omega, Ts.put_same _ _ _, by simp [size_es]⟩
  case round =>
    obtain ⟨k, a, rfl, rfl, hk, ls, c, X, HV, hc, hX, ha⟩ := hrel
    have hkr : Kpt Non w wr := Kpt.trans K1.out HV.out.kpt (fun _ e _ => e)
    by_cases h1 : k < n
    · have h1' : (k : Int) < (n : Int) := by omega
      obtain ⟨ad, u, rfl, had, hu, hcell⟩ := (HL.out.kpt hkr (fun _ _ e => e)).at_ h1
      rw [List.getElem?_map] at hu
      obtain ⟨s, hs, rfl⟩ := Option.map_eq_some_iff.1 hu
      clear hu
      have hm := HS.out s (List.mem_of_getElem? hs)
      clear hs
      have hcd : wr.drew.cell? (ad.add k) = some (.string s) := hcell
      go_wp2_with fail
      go_upto_region 10 with fail
      go_cut [8] (fun x8 wc => ∃ s' : ByteArray, .string s' = x8 ∧ s'.size ≤ 3000 ∧ Hid (Kpt Non wr wc))
      case first =>
        by_cases h3 : s.size ≤ 3000
        · have h3' : ¬ (3000 : Int) < (s.size : Int) := by omega
          have h3'' : (s.size : Int) ≤ 3000 := by omega
          go_region
          go_wp2_with fail
          go_meet
          exact ⟨s, rfl, h3, Lib.hid (Kpt.drew (Kpt.refl _ _))⟩
        · have h3' : (3000 : Int) < (s.size : Int) := by omega
          have h3'' : ¬ (s.size : Int) ≤ 3000 := by omega
          go_region
          go_wp2_with fail
          go_meet
          exact ⟨_, rfl, by simp; omega, Lib.hid (Kpt.drew (Kpt.refl _ _))⟩
      case rest =>
        clear hcell hcd hm
        obtain ⟨s', rfl, hs3, HKc⟩ := hcut
        have HV := Lib.hid (HV.out.non HKc.out)
        have hcat : (a ++ s').size = a.size + s'.size := by simp
        have hcat2 : (a ++ s' ++ nl).size = a.size + s'.size + 1 := by
          have h1 : nl.size = 1 := rfl
          rw [ByteArray.size_append, ByteArray.size_append, h1]
        have hass : a ++ s' ++ nl = a ++ (s' ++ nl) := by
          apply ByteArray.ext
          simp
        have HAss := Lib.hid hass; clear hass
        by_cases hty : ∃ _ : k < m, rs[k]? = some true
        · obtain ⟨h2, hrk⟩ := hty
          have h2' : (k : Int) < (m : Int) := by omega
          obtain ⟨ad', u, rfl, had', hu, hcell'⟩ := (HR.out.kpt (Kpt.trans hkr HKc.out (fun _ e _ => e)) (fun _ _ e => e)).at_ h2
          rw [List.getElem?_map, hrk] at hu
          simp only [Option.map_some, Option.some.injEq] at hu
          subst hu
          obtain ⟨X1, err, ls1, a1, hx1, hX1, hcase⟩ := screen_type s' hX
          have E28 := Lib.hid (V.type HV.out s' hx1 rfl (by omega) (by omega)); clear hx1 hrk
          go_wp2_with fail
          refine E28.out.mono ?_
          rintro e w6 ⟨rfl, hv6, -⟩
          have HV6 := Lib.hid hv6; clear hv6
          rcases hcase with ⟨rfl, rfl⟩ | ⟨herr, rfl⟩
          · go_wp2_with fail
            exact ⟨⟨k + 1, _, by go_num, by rw [← HAss.out]; rfl, by omega, ls1, c + 1, X1, Lib.hid (by simpa using HV6.out), by omega, hX1, by rw [← HAss.out]; omega⟩, by simp [intOf]; omega⟩
          · have herr' : (err == 0) = false := by rw [beq_eq_false_iff_ne]; exact herr
            have HErr := Lib.hid herr; clear herr
            go_wp2_with fail
            have hv6 := HV6.out
            rw [if_neg HErr.out] at hv6
            exact ⟨⟨k + 1, _, by go_num, rfl, by omega, ls1, c, X1, Lib.hid hv6, by omega, hX1, by omega⟩, by simp [intOf]; omega⟩
        · obtain ⟨X1, i, hx1, hi1, hX1⟩ := screen_show s' hs3 hX
          have E46 := Lib.hid (V.show HV.out s' hx1 rfl (by omega)); clear hx1
          have hfin : SSt w1 top b (k + 1) (a ++ s') w1 ∨ True := .inr trivial
          clear hfin
          by_cases h2 : k < m
          · have h2' : (k : Int) < (m : Int) := by omega
            obtain ⟨ad', u, rfl, had', hu, hcell'⟩ := (HR.out.kpt (Kpt.trans hkr HKc.out (fun _ e _ => e)) (fun _ _ e => e)).at_ h2
            rw [List.getElem?_map, Option.map_eq_some_iff] at hu
            obtain ⟨rb, hrb, rfl⟩ := hu
            obtain rfl : rb = false := by
              cases rb with
              | false => rfl
              | true => exact absurd ⟨h2, hrb⟩ hty
            clear hty hrb
            go_wp2_with fail
            refine E46.out.mono ?_
            rintro e w6 ⟨rfl, hv6, -⟩
            have HV6 := Lib.hid hv6; clear hv6
            go_wp2_with fail
            exact ⟨⟨k + 1, _, by go_num, rfl, by omega, ls, c + i, X1, HV6, by omega, hX1, by omega⟩, by simp [intOf]; omega⟩
          · have h2' : ¬ (k : Int) < (m : Int) := by omega
            clear hty
            go_wp2_with fail
            refine E46.out.mono ?_
            rintro e w6 ⟨rfl, hv6, -⟩
            have HV6 := Lib.hid hv6; clear hv6
            go_wp2_with fail
            exact ⟨⟨k + 1, _, by go_num, rfl, by omega, ls, c + i, X1, HV6, by omega, hX1, by omega⟩, by simp [intOf]; omega⟩
    · have h1' : ¬ (k : Int) < (n : Int) := by omega
      have hk30 : k ≤ 30 := by omega
      have E32 := Lib.hid (V.end_ (c' := c + 1) HV.out s3 (screen_end hX) rfl (by omega))
      clear hX
      go_wp2_with fail
      refine E32.out.mono ?_
      rintro e w6 ⟨rfl, hv6, -⟩
      have hq : getR (X.put 99 ⟨5, es, [], scrOf a⟩) 99 5 = (⟨5, es, [], scrOf a⟩, 0) := by
        unfold getR
        rw [if_pos (by omega), inT_put rfl]
      have E30 := Lib.hid (V.getTm hv6 hq); clear hq hv6
      go_wp2_with fail
      refine E30.out.mono ?_
      rintro e w7 ⟨A', cp, rfl, hca, hcb, hrd, hv7, -⟩
      have HV7 := Lib.hid hv7; clear hv7 hrd
      have hz := Blk.new w7 36 #[.int .i64 5, .string es, .slice A' ([] : List ByteArray).length cp, .string (scrOf a)]
      have hv8 := HV7.out.non (Kpt.alloc (Kpt.refl _ _) (.cells #[.int .i64 5, .string es, .slice A' ([] : List ByteArray).length cp, .string (scrOf a)] 36))
      have kfin := Kpt.trans K1.out hv8.kpt (fun _ e _ => e)
      have y2 := hz.drew.cell 2
      have y3 := hz.drew.cell 3
      simp only [List.getElem?_toArray, List.getElem?_cons_zero, List.getElem?_cons_succ] at y2 y3
      have HK := Lib.hid kfin; clear kfin hz hv8
      have hae := scrOf_eq a
      by_cases hl : 2048 < a.size
      · have hl1 : (0 : Int) < (a.size : Int) - 2048 := by omega
        have hl2 : (a.size : Int) ≤ 2199023255552 := by omega
        have heq := tl_eq hae
        have HAe := Lib.hid hae; clear hae
        go_wp2_with fail
        go_quiet (fail)
        go_wp2_with fail
        go_ret
        exact ⟨rfl, Kpt.drewN HK.out _⟩
      · have hl1 : ¬ (0 : Int) < (a.size : Int) - 2048 := by omega
        have hl2 : (a.size : Int) ≤ 2199023255552 := by omega
        rw [show a.size - 2048 = 0 by omega] at hae
        have heq2 := tl_eq hae
        rw [ByteArray.extract_zero_size] at hae
        have heq := tl_eq hae
        have HAe := Lib.hid hae; clear hae
        go_wp2_with fail
        go_quiet (fail)
        go_wp2_with fail
        go_ret
        exact ⟨rfl, Kpt.drewN HK.out _⟩

theorem f6_any (A B : Option Addr) (n cn m cm : Nat) (texts : List ByteArray) (rs : List Bool) (w : World) (hl : Rd w (fun i => i < w.heap.size) 1 A n (texts.map Value.string)) (hr : Rd w (fun i => i < w.heap.size) 1 B m (rs.map Value.bool))
    (hs : ∀ s ∈ texts, s.size ≤ 140737488351232) :
    Calls Tryz.prog 6 #[.slice A n cn, .slice B m cm] w fun e w' => e = .returned (.bool true) ∧ Kpt Non w w' := by
  by_cases h : (30 : Int) < (n : Int)
  · exact f6_many A B n cn m cm w h
  · exact f6_few A B n cn m cm texts rs w hl hr hs h
end Go.Proofs.YtkpmabknjdgkmaaGreatDoor
