/- The reference's CheckLine and Check. No condition but that sizes fit the machine. -/
import Derived.Test.YtkpmabknjdgkmaaGreatDoorRef1
import Derived.Test.YtkpmabknjdgkmaaGreatDoorTerm2
namespace Go.Proofs.YtkpmabknjdgkmaaGreatDoor
open Go.RowKit

set_option maxRecDepth 100000 in
set_option maxHeartbeats 1000000 in
theorem f35_any (s : ByteArray) (hs : s.size ≤ 140737488351232) (w : World) :
    Calls Tryz.prog 22 #[.string s] w fun e w' => e = .returned (.int .i64 (lineErr s)) ∧ Kpt Non w w' := by
  by_cases h : 1024 < s.size
  · have h' : (1024 : Int) < (s.size : Int) := by omega
    have hl : lineErr s = 5 := by unfold lineErr; rw [if_pos h]
    rw [hl]
    go_enter Tryz.func22, Tryz.ntmps22
    go_wp2_with fail
    go_ret
    exact ⟨rfl, Kpt.refl _ _⟩
  · have h' : ¬ (1024 : Int) < (s.size : Int) := by omega
    have hl : lineErr s = if (bytesOf s).any oddB then 6 else 0 := by unfold lineErr; rw [if_neg h]
    have HL := Lib.hid hl; clear hl
    go_enter Tryz.func22, Tryz.ntmps22
    go_wp2_with fail
    go_loopw [3] (fun x3 wr => ∃ k : Nat, x3 = .int .i64 k ∧ k ≤ s.size ∧ w = wr ∧ Hid (∀ j x, j < k → (bytesOf s)[j]? = some x → oddB x = false)) (fun x3 _ => s.size - (intOf x3).toNat)
    case atStart => exact ⟨0, rfl, Nat.zero_le _, rfl, Lib.hid (fun j x hj => absurd hj (by omega))⟩
    case round =>
      obtain ⟨k, rfl, hk, rfl, HO⟩ := hrel
      by_cases h1 : k < s.size
      · have h1' : (k : Int) < (s.size : Int) := by omega
        have h0' : (0 : Int) ≤ (k : Int) := by omega
        have hb := byte_at s k h1
        have HB := Lib.hid hb; clear hb
        have hodd : oddB s[k] = true → lineErr s = 6 := fun e => by
          rw [HL.out, if_pos (List.any_eq_true.2 ⟨_, List.mem_of_getElem? HB.out, e⟩)]
        have HOdd := Lib.hid hodd; clear hodd
        by_cases h2 : (s[k].toNat : Int) < 32
        · have hl := HOdd.out (by unfold oddB; simp; omega)
          have HL6 := Lib.hid hl; clear hl
          go_wp2_with fail
          go_ret
          exact ⟨by rw [HL6.out]; rfl, Kpt.refl _ _⟩
        · by_cases h3 : (s[k].toNat : Int) = 127
          · have h3' : ((s[k].toNat : Int) == 127) = true := by rw [beq_iff_eq]; exact h3
            have hl := HOdd.out (by unfold oddB; simp; omega)
            have HL6 := Lib.hid hl; have H3 := Lib.hid h3; clear hl h3
            go_wp2_with fail
            go_ret
            exact ⟨by rw [HL6.out]; rfl, Kpt.refl _ _⟩
          · have h3' : ((s[k].toNat : Int) == 127) = false := by rw [beq_eq_false_iff_ne]; exact h3
            have hno : oddB s[k] = false := by unfold oddB; simp; omega
            have HNo := Lib.hid hno; have H3 := Lib.hid h3; clear hno h3
            go_wp2_with fail
            refine ⟨⟨k + 1, by go_num, by omega, trivial, Lib.hid (fun j x hj hx => ?_)⟩, by simp [intOf]; omega⟩
            by_cases hjk : j < k
            · exact HO.out j x hjk hx
            · obtain rfl : j = k := by omega
              rw [HB.out] at hx
              injection hx with hx
              rw [← hx]
              exact HNo.out
      · have h1' : ¬ (k : Int) < (s.size : Int) := by omega
        have hl : lineErr s = 0 := by
          rw [HL.out, if_neg]
          rw [any_false_iff.2 (fun j x hx => HO.out j x (by have := (List.getElem?_eq_some_iff.1 hx).1; rw [len_bytesOf] at this; omega) hx)]
          decide
        have HL0 := Lib.hid hl; clear hl
        go_wp2_with fail
        go_ret
        exact ⟨by rw [HL0.out]; rfl, Kpt.refl _ _⟩

set_option maxRecDepth 100000 in
set_option maxHeartbeats 1000000 in
theorem f42_any (t : Tm) (v : Value) (D : Nat → Prop) (w : World) (hv : TmV w D t v) (ok : TmOk t) :
    Calls Tryz.prog 29 #[v] w fun e w' => e = .returned (.int .i64 (chkT t)) ∧ Kpt Non w w' := by
  obtain ⟨A, c, rfl, hc1, hc2, hr⟩ := hv
  obtain ⟨ep, ss, ls, sc⟩ := t
  have hA : chkT ⟨ep, ss, ls, sc⟩ = chkT ⟨ep, ss, ls, sc⟩ := rfl
  conv at hA => rhs; unfold chkT
  generalize chkT ⟨ep, ss, ls, sc⟩ = T at hA ⊢
  simp only at hc1 hr hA ⊢
  have hs1 := ok.session
  have hs2 := ok.typed
  have hs3 := ok.screen
  have hs4 := ok.count
  simp only at hs1 hs2 hs3 hs4
  have HS2 := Lib.hid hs2
  clear ok hs2
  have E115 := f115_any ss hs1
  have HR := Lib.hid hr; clear hr
  by_cases h1 : 0 ≤ ep ∧ ep ≤ 1073741824
  · rw [if_pos h1] at hA
    have h1a : ¬ ep < 0 := by omega
    have h1b : ¬ 1073741824 < ep := by omega
    clear h1
    by_cases h2 : validB (bytesOf ss) = true
    · rw [if_pos h2] at hA
      rw [show validB ss.data.toList = true from h2] at E115
      have H115 := Lib.hid E115; clear E115 h2
      by_cases h3 : 16 < ls.length
      · have h3' : (16 : Int) < (ls.length : Int) := by omega
        rw [if_pos h3] at hA
        subst hA
        go_enter Tryz.func29, Tryz.ntmps29
        go_wp2_with fail
        refine (H115.out _).mono ?_
        rintro e w1 ⟨rfl, k1⟩
        have K1 := Lib.hid k1
        have hb := (Blk.new w 44 #[.int .i64 ep, .string ss, .slice A ls.length c, .string sc]).kpt k1 (fun e => e)
        clear k1
        have c2 := hb.cell 2
        simp only [List.getElem?_toArray, List.getElem?_cons_zero, List.getElem?_cons_succ] at c2
        clear hb
        go_wp2_with fail
        go_ret
        exact ⟨rfl, Kpt.trans (Kpt.alloc (Kpt.refl _ _) _) K1.out (fun _ h _ => h)⟩
      · have h3' : ¬ (16 : Int) < (ls.length : Int) := by omega
        rw [if_neg h3] at hA
        go_enter Tryz.func29, Tryz.ntmps29
        go_wp2_with fail
        refine (H115.out _).mono ?_
        rintro e w1 ⟨rfl, k1⟩
        have K1 := Lib.hid k1
        have hb := (Blk.new w 44 #[.int .i64 ep, .string ss, .slice A ls.length c, .string sc]).kpt k1 (fun e => e)
        have hr1 := (HR.out.alloc (.cells #[.int .i64 ep, .string ss, .slice A ls.length c, .string sc] 44)).kpt k1 (fun _ _ e => e)
        clear k1
        have HB := Lib.hid hb
        have HR1 := Lib.hid hr1; clear hr1
        have HA := Lib.hid hA; clear hA
        have c2 := hb.cell 2
        simp only [List.getElem?_toArray, List.getElem?_cons_zero, List.getElem?_cons_succ] at c2
        clear hb
        go_wp2_with fail
        go_loopw [3] (fun i wr => ∃ k : Nat, i = .int .i64 k ∧ k ≤ ls.length ∧ Hid (linesErr ls = linesErr (ls.drop k)) ∧ Hid (Kpt Non w1 wr)) (fun i _ => ls.length - (intOf i).toNat)
        case atStart => exact ⟨0, rfl, Nat.zero_le _, Lib.hid (by simp), Lib.hid (Kpt.refl _ _)⟩
        case round =>
          obtain ⟨k, rfl, hk, HC, HK⟩ := hrel
          have hb0 := HB.out.kpt HK.out (fun e => e)
          have g2 := hb0.cell 2
          simp only [List.getElem?_toArray, List.getElem?_cons_zero, List.getElem?_cons_succ] at g2
          clear hb0
          by_cases h4 : k < ls.length
          · have h4' : (k : Int) < (ls.length : Int) := by omega
            obtain ⟨ad, u, rfl, _, hu, hcell⟩ := (HR1.out.kpt HK.out (fun _ _ e => e)).at_ h4
            rw [List.getElem?_map] at hu
            obtain ⟨s, hs, rfl⟩ := Option.map_eq_some_iff.1 hu
            clear hu
            have hm := HS2.out s (List.mem_of_getElem? hs)
            have hd := linesErr_drop hs
            have HD := Lib.hid hd; clear hd hs
            have E35 := f35_any s hm
            by_cases h5 : lineErr s = 0
            · rw [h5] at E35
              have H35 := Lib.hid E35; clear E35
              have H5 := Lib.hid h5; clear h5
              go_wp2_with fail
              refine (H35.out _).mono ?_
              rintro e w2 ⟨rfl, k2⟩
              have K2 := Lib.hid k2; clear k2
              go_wp2_with fail
              exact ⟨⟨k + 1, by go_num, by omega, Lib.hid (by rw [HC.out, HD.out, if_pos H5.out]), Lib.hid (Kpt.trans HK.out K2.out (fun _ h _ => h))⟩, by simp [intOf]; omega⟩
            · have hL : linesErr ls = lineErr s := by rw [HC.out, HD.out, if_neg h5]
              have hT : T = lineErr s := by rw [HA.out, if_neg (by rw [hL]; exact h5), hL]
              rw [← hT] at E35
              have h5' : (T != 0) = true := by rw [bne_iff_ne, hT]; exact h5
              have H35 := Lib.hid E35; clear E35
              have HT := Lib.hid hT; clear hT hL
              have H5 := Lib.hid h5; clear h5
              go_wp2_with fail
              refine (H35.out _).mono ?_
              rintro e w2 ⟨rfl, k2⟩
              have K2 := Lib.hid k2; clear k2
              go_wp2_with fail
              go_ret
              exact ⟨rfl, Kpt.trans (Kpt.trans (Kpt.alloc (Kpt.refl _ _) _) K1.out (fun _ h _ => h)) (Kpt.trans HK.out K2.out (fun _ h _ => h)) (fun _ h _ => h)⟩
          · have h4' : decide ((k : Int) < (ls.length : Int)) = false := by simp; omega
            have hz : linesErr ls = 0 := by rw [HC.out, List.drop_eq_nil_of_le (by omega)]; rfl
            have hA := HA.out
            rw [if_pos hz] at hA
            clear hz
            have hb1 := HB.out.kpt HK.out (fun e => e)
            have d1 := hb1.cell 1
            have d2 := hb1.cell 2
            have d3 := hb1.cell 3
            simp only [List.getElem?_toArray, List.getElem?_cons_zero, List.getElem?_cons_succ] at d1 d2 d3
            clear hb1
            have kk := Kpt.trans (Kpt.trans (Kpt.alloc (Kpt.refl Non w) (.cells #[.int .i64 ep, .string ss, .slice A ls.length c, .string sc] 44)) K1.out (fun _ h _ => h)) HK.out (fun _ h _ => h)
            have KK := Lib.hid kk; clear kk
            have hfin : ∀ x : Int, T = x → (Ending.returned (.int .i64 x) = Ending.returned (.int .i64 T) ∧ Kpt Non w wr) := fun x e => ⟨by rw [e], KK.out⟩
            have HFin := Lib.hid hfin; clear hfin
            by_cases e3 : 2048 < sc.size
            · have e3' : (2048 : Int) < (sc.size : Int) := by omega
              by_cases e2 : 0 < ls.length
              · have e2' : (0 : Int) < (ls.length : Int) := by omega
                by_cases e1 : ss.size = 0
                · have e1' := isEmpty_true e1
                  rw [if_pos ⟨e1, e2⟩] at hA
                  subst hA
                  have E1 := Lib.hid e1; clear e1
                  go_wp2_with fail
                  go_ret
                  exact HFin.out _ rfl
                · have e1' := isEmpty_false e1
                  rw [if_neg (fun e => e1 e.1), if_pos e3] at hA
                  subst hA
                  have E1 := Lib.hid e1; clear e1
                  go_wp2_with fail
                  go_ret
                  exact HFin.out _ rfl
              · have e2' : ¬ (0 : Int) < (ls.length : Int) := by omega
                rw [if_neg (fun e => e2 e.2), if_pos e3] at hA
                subst hA
                go_wp2_with fail
                all_goals go_ret
                all_goals exact HFin.out _ rfl
            · have e3' : ¬ (2048 : Int) < (sc.size : Int) := by omega
              by_cases e2 : 0 < ls.length
              · have e2' : (0 : Int) < (ls.length : Int) := by omega
                by_cases e1 : ss.size = 0
                · have e1' := isEmpty_true e1
                  rw [if_pos ⟨e1, e2⟩] at hA
                  subst hA
                  have E1 := Lib.hid e1; clear e1
                  go_wp2_with fail
                  go_ret
                  exact HFin.out _ rfl
                · have e1' := isEmpty_false e1
                  rw [if_neg (fun e => e1 e.1), if_neg e3] at hA
                  subst hA
                  have E1 := Lib.hid e1; clear e1
                  go_wp2_with fail
                  go_ret
                  exact HFin.out _ rfl
              · have e2' : ¬ (0 : Int) < (ls.length : Int) := by omega
                rw [if_neg (fun e => e2 e.2), if_neg e3] at hA
                subst hA
                go_wp2_with fail
                all_goals go_ret
                all_goals exact HFin.out _ rfl
    · rw [if_neg h2] at hA
      subst hA
      rw [show validB ss.data.toList = false by simpa [bytesOf] using h2] at E115
      have H115 := Lib.hid E115; clear E115 h2
      go_enter Tryz.func29, Tryz.ntmps29
      go_wp2_with fail
      refine (H115.out _).mono ?_
      rintro e w1 ⟨rfl, k1⟩
      have K1 := Lib.hid k1; clear k1
      go_wp2_with fail
      go_ret
      exact ⟨rfl, Kpt.trans (Kpt.alloc (Kpt.refl _ _) _) K1.out (fun _ h _ => h)⟩
  · rw [if_neg h1] at hA
    subst hA
    clear E115
    by_cases h1a : ep < 0
    · go_enter Tryz.func29, Tryz.ntmps29
      go_wp2_with fail
      go_ret
      exact ⟨rfl, Kpt.alloc (Kpt.refl _ _) _⟩
    · have h1b : 1073741824 < ep := by omega
      go_enter Tryz.func29, Tryz.ntmps29
      go_wp2_with fail
      go_ret
      exact ⟨rfl, Kpt.alloc (Kpt.refl _ _) _⟩
end Go.Proofs.YtkpmabknjdgkmaaGreatDoor
