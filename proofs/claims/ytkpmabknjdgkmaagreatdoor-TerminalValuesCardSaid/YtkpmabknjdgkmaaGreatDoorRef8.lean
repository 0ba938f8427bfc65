/- The walk of the reference's Decode. No condition but that the string is of at most a million bytes. -/
import Derived.Test.YtkpmabknjdgkmaaGreatDoorRef7
namespace Go.Proofs.YtkpmabknjdgkmaaGreatDoor
open Go.RowKit

theorem takeT_len (l : List UInt8) : (takeT l).2.length ≤ l.length := by
  unfold takeT
  split
  · simp
  · simp
theorem pieceT_len (l : List UInt8) : (pieceT l).1.length ≤ l.length ∧ (pieceT l).2.length ≤ l.length := by
  have := takeT_len l
  unfold pieceT
  split
  · simp
  · simp only [List.length_take, List.length_drop]
    omega

set_option maxRecDepth 100000 in
set_option maxHeartbeats 2000000 in
theorem f40_any (s : ByteArray) (w : World) (hs : s.size ≤ 1000000) :
    Calls Tryz.prog 27 #[.string s] w fun e w' => ∃ v, e = .returned (.tuple #[v, .int .i64 (refDec (bytesOf s)).2]) ∧ TmV w' (fun i => w.heap.size ≤ i) (refDec (bytesOf s)).1 v ∧ Kpt Non w w' := by
  obtain ⟨i0, hi, hz, hz0, hz1⟩ := info_parts info9
  have HI := Lib.hid hi; have HZI := Lib.hid hz; have HZ0 := Lib.hid hz0; have HZ1 := Lib.hid hz1; clear hi hz hz0 hz1
  have E113 := f113_any s ((w.alloc (.cells #[.int .i64 0, .string ⟨#[]⟩, .slice none 0 0, .string ⟨#[]⟩] 44)).alloc (.cells #[.int .i64 0, .string ⟨#[]⟩, .slice none 0 0, .string ⟨#[]⟩] 44)) (by omega)
  have hlen := len_bytesOf s
  have la := takeT_len (bytesOf s)
  have hdec : refDec (bytesOf s) = refDec (bytesOf s) := rfl
  conv at hdec => rhs; unfold refDec guessT guessN
  generalize refDec (bytesOf s) = X at hdec ⊢
  generalize hA : takeT (bytesOf s) = a at E113 la hdec
  obtain ⟨a1, a2⟩ := a
  simp only at E113 la hdec
  have E114 := fun w' => f114_any (strB a2) w' (by rw [strB_size]; omega)
  have lb := pieceT_len a2
  simp only [bytesOf_strB] at E114
  generalize hB : pieceT a2 = b at E114 lb hdec
  obtain ⟨b1, b2⟩ := b
  simp only at E114 lb hdec
  have E113b := fun w' => f113_any (strB b2) w' (by rw [strB_size]; omega)
  have lc := takeT_len b2
  simp only [bytesOf_strB] at E113b
  generalize hC : takeT b2 = c at E113b lc hdec
  obtain ⟨n, c2⟩ := c
  simp only at E113b lc hdec
  have H113 := Lib.hid E113; have H114 := Lib.hid E114; have H113b := Lib.hid E113b; clear E113 E114 E113b hA hB hC
  rw [hlen] at la
  have lss : (strB b1).size ≤ 1000000 := by rw [strB_size]; omega
  have lc2 : c2.length ≤ 1000000 := by omega
  clear hlen la lb lc
  have HDec := Lib.hid hdec; clear hdec
  go_enter Tryz.func27, Tryz.ntmps27
  go_wp2_with fail
  refine H113.out.mono ?_
  rintro e w1 ⟨rfl, k1⟩
  have hR1 := ((Blk.new w 44 #[.int .i64 0, .string ⟨#[]⟩, .slice none 0 0, .string ⟨#[]⟩]).alloc (.cells #[.int .i64 0, .string ⟨#[]⟩, .slice none 0 0, .string ⟨#[]⟩] 44)).kpt k1 (fun e => e)
  have hT1 : Blk w1 (w.heap.size + 1) 44 #[.int .i64 0, .string ⟨#[]⟩, .slice none 0 0, .string ⟨#[]⟩] := by
    have := (Blk.new (w.alloc (.cells #[.int .i64 0, .string ⟨#[]⟩, .slice none 0 0, .string ⟨#[]⟩] 44)) 44 #[.int .i64 0, .string ⟨#[]⟩, .slice none 0 0, .string ⟨#[]⟩]).kpt k1 (fun e => e)
    simpa using this
  have kk1 : Kpt Non w w1 := Kpt.trans (Kpt.alloc (Kpt.alloc (Kpt.refl _ _) _) _) k1 (fun _ e _ => e)
  have t10 := hT1.cell 0
  have ft10 := hT1.frozen 0
  simp only [List.getElem?_toArray, List.getElem?_cons_zero] at t10
  have HR1 := Lib.hid hR1; have HT1 := Lib.hid hT1; have KK1 := Lib.hid kk1; clear hR1 hT1 kk1 k1
  go_wp2_with fail
  refine (H114.out _).mono ?_
  rintro e w2 ⟨rfl, k2⟩
  have hT2 : Blk w2 (w.heap.size + 1) 44 #[.int .i64 a1, .string ⟨#[]⟩, .slice none 0 0, .string ⟨#[]⟩] := (HT1.out.set_ 0 _).kpt k2 (fun e => e)
  have hR2 := (HR1.out.far (p := ⟨w.heap.size + 1, 0, none⟩) (by simp) (.int .i64 a1)).kpt k2 (fun e => e)
  have kk2 : Kpt Non w w2 := Kpt.trans (Kpt.setCell KK1.out (p := ⟨w.heap.size + 1, 0, none⟩) (fun h => absurd h (by simp)) (.int .i64 a1)) k2 (fun _ e _ => e)
  have t21 := hT2.cell 1
  have ft21 := hT2.frozen 1
  simp only [List.getElem?_toArray, List.getElem?_cons_zero, List.getElem?_cons_succ] at t21
  have HR2 := Lib.hid hR2; have HT2 := Lib.hid hT2; have KK2 := Lib.hid kk2; clear hR2 hT2 kk2 k2 t10 ft10
  go_wp2_with fail
  refine (H113b.out _).mono ?_
  rintro e w3 ⟨rfl, k3⟩
  have hT3 : Blk w3 (w.heap.size + 1) 44 #[.int .i64 a1, .string (strB b1), .slice none 0 0, .string ⟨#[]⟩] := (HT2.out.set_ 1 _).kpt k3 (fun e => e)
  have hR3 := (HR2.out.far (p := ⟨w.heap.size + 1, 1, none⟩) (by simp) (.string (strB b1))).kpt k3 (fun e => e)
  have kk3 : Kpt Non w w3 := Kpt.trans (Kpt.setCell KK2.out (p := ⟨w.heap.size + 1, 1, none⟩) (fun h => absurd h (by simp)) (.string (strB b1))) k3 (fun _ e _ => e)
  have HR3 := Lib.hid hR3; have HT3 := Lib.hid hT3; have KK3 := Lib.hid kk3; clear hR3 hT3 kk3 k3 t21 ft21
  by_cases hb : n < 0 ∨ 16 < n
  · have hdec := HDec.out
    rw [if_pos hb] at hdec
    have HDz := Lib.hid hdec; clear hdec
    have r0 := HR3.out.cell 0
    have r1 := HR3.out.cell 1
    have r2 := HR3.out.cell 2
    have r3 := HR3.out.cell 3
    have g0 := HR3.out.frozen 0
    have g1 := HR3.out.frozen 1
    have g2 := HR3.out.frozen 2
    have g3 := HR3.out.frozen 3
    simp only [List.getElem?_toArray, List.getElem?_cons_zero, List.getElem?_cons_succ] at r0 r1 r2 r3
    by_cases hn : n < 0
    · clear hb
      go_wp2_with fail
      have hzf : Blk ((((w3.setCell ⟨w.heap.size, 0, none⟩ (.int .i64 0)).setCell ⟨w.heap.size, 1, none⟩ (.string ⟨#[]⟩)).setCell ⟨w.heap.size, 2, none⟩ (.slice none 0 0)).setCell ⟨w.heap.size, 3, none⟩ (.string ⟨#[]⟩)) w.heap.size 44 #[(.int .i64 0), (.string ⟨#[]⟩), (.slice none 0 0), (.string ⟨#[]⟩)] := (((HR3.out.set_ 0 _).set_ 1 _).set_ 2 _).set_ 3 _
      have kz : Kpt (One w.heap.size) w3 ((((w3.setCell ⟨w.heap.size, 0, none⟩ (.int .i64 0)).setCell ⟨w.heap.size, 1, none⟩ (.string ⟨#[]⟩)).setCell ⟨w.heap.size, 2, none⟩ (.slice none 0 0)).setCell ⟨w.heap.size, 3, none⟩ (.string ⟨#[]⟩)) := ((((Kpt.refl (One w.heap.size) w3).setOne 0 _).setOne 1 _).setOne 2 _).setOne 3 _
      have y0 := hzf.cell 0
      have y1 := hzf.cell 1
      have y2 := hzf.cell 2
      have y3 := hzf.cell 3
      simp only [List.getElem?_toArray, List.getElem?_cons_zero, List.getElem?_cons_succ] at y0 y1 y2 y3
      refine bodyPost_ret (v := .tuple #[.agg #[(.int .i64 0), (.string ⟨#[]⟩), (.slice none 0 0), (.string ⟨#[]⟩)], .int .i64 3]) ?_ rfl ⟨_, by rw [HDz.out], (by rw [HDz.out]; exact ⟨none, 0, rfl, Nat.le_refl _, by simp [maxLen], Rd.nil _ _ _ _⟩), Kpt.trans KK3.out kz (fun i e hlt => by have e' : i = w.heap.size := e; omega)⟩
      generalize ((((w3.setCell ⟨w.heap.size, 0, none⟩ (.int .i64 0)).setCell ⟨w.heap.size, 1, none⟩ (.string ⟨#[]⟩)).setCell ⟨w.heap.size, 2, none⟩ (.slice none 0 0)).setCell ⟨w.heap.size, 3, none⟩ (.string ⟨#[]⟩)) = wf at y0 y1 y2 y3
      simp [results, Tryz.results27, go_sem, y0, y1, y2, y3]
    · have hn2 : 16 < n := by omega
      clear hb
      go_wp2_with fail
      have hzf : Blk ((((w3.setCell ⟨w.heap.size, 0, none⟩ (.int .i64 0)).setCell ⟨w.heap.size, 1, none⟩ (.string ⟨#[]⟩)).setCell ⟨w.heap.size, 2, none⟩ (.slice none 0 0)).setCell ⟨w.heap.size, 3, none⟩ (.string ⟨#[]⟩)) w.heap.size 44 #[(.int .i64 0), (.string ⟨#[]⟩), (.slice none 0 0), (.string ⟨#[]⟩)] := (((HR3.out.set_ 0 _).set_ 1 _).set_ 2 _).set_ 3 _
      have kz : Kpt (One w.heap.size) w3 ((((w3.setCell ⟨w.heap.size, 0, none⟩ (.int .i64 0)).setCell ⟨w.heap.size, 1, none⟩ (.string ⟨#[]⟩)).setCell ⟨w.heap.size, 2, none⟩ (.slice none 0 0)).setCell ⟨w.heap.size, 3, none⟩ (.string ⟨#[]⟩)) := ((((Kpt.refl (One w.heap.size) w3).setOne 0 _).setOne 1 _).setOne 2 _).setOne 3 _
      have y0 := hzf.cell 0
      have y1 := hzf.cell 1
      have y2 := hzf.cell 2
      have y3 := hzf.cell 3
      simp only [List.getElem?_toArray, List.getElem?_cons_zero, List.getElem?_cons_succ] at y0 y1 y2 y3
      refine bodyPost_ret (v := .tuple #[.agg #[(.int .i64 0), (.string ⟨#[]⟩), (.slice none 0 0), (.string ⟨#[]⟩)], .int .i64 3]) ?_ rfl ⟨_, by rw [HDz.out], (by rw [HDz.out]; exact ⟨none, 0, rfl, Nat.le_refl _, by simp [maxLen], Rd.nil _ _ _ _⟩), Kpt.trans KK3.out kz (fun i e hlt => by have e' : i = w.heap.size := e; omega)⟩
      generalize ((((w3.setCell ⟨w.heap.size, 0, none⟩ (.int .i64 0)).setCell ⟨w.heap.size, 1, none⟩ (.string ⟨#[]⟩)).setCell ⟨w.heap.size, 2, none⟩ (.slice none 0 0)).setCell ⟨w.heap.size, 3, none⟩ (.string ⟨#[]⟩)) = wf at y0 y1 y2 y3
      simp [results, Tryz.results27, go_sem, y0, y1, y2, y3]
  · obtain ⟨nn, rfl⟩ : ∃ nn : Nat, n = nn := ⟨n.toNat, by omega⟩
    have hn1 : ¬ (nn : Int) < 0 := by omega
    have hn2 : ¬ (16 : Int) < (nn : Int) := by omega
    have hdec := HDec.out
    rw [if_neg hb] at hdec
    simp only [Int.toNat_natCast] at hdec
    have HDec := Lib.hid hdec; clear hdec hb
    go_wp2_with fail
    go_loopw [5, 7] (fun x5 x7 wr => ∃ (k : Nat) (r : List UInt8) (L : List ByteArray) (tv : Value), x5 = .string (strB r) ∧ x7 = .int .i64 k ∧ k ≤ nn ∧ r.length ≤ 1000000 ∧ L.length = k ∧ Hid (pieces nn c2 = (L ++ (pieces (nn - k) r).1, (pieces (nn - k) r).2)) ∧ Hid (∀ x ∈ L, x.size ≤ 1000000) ∧ Hid (Blk wr (w.heap.size + 1) 44 #[.int .i64 a1, .string (strB b1), tv, .string ⟨#[]⟩]) ∧ Hid (wr.ownsRow w.heap.size 9 1 tv L.length (L.map Value.string)) ∧ Hid (Blk wr w.heap.size 44 #[.int .i64 0, .string ⟨#[]⟩, .slice none 0 0, .string ⟨#[]⟩]) ∧ Hid (Kpt Non w wr)) (fun _ x7 _ => nn - (intOf x7).toNat)
    case atStart => exact ⟨0, c2, [], _, rfl, rfl, Nat.zero_le _, lc2, rfl, Lib.hid (by simp), Lib.hid (by simp), HT3, Lib.hid (World.ownsRow_nil _ _ _ _), HR3, KK3⟩
    case round =>
      obtain ⟨k, r, L, tv, rfl, rfl, hk, hr, hLe, HM, HSz, HT, HO, HR, HK⟩ := hrel
      have E114 := f114_any (strB r) wr (by rw [strB_size]; omega)
      have lp := pieceT_len r
      simp only [bytesOf_strB] at E114
      have hto : ∀ g, tv.ownBlock = some g → ¬ One (w.heap.size + 1) g := fun g hg e => Blk.own_ne HT.out HO.out (by decide) (by rw [hg]; exact congrArg some e)
      have hro : ∀ g, tv.ownBlock = some g → ¬ One w.heap.size g := fun g hg e => Blk.own_ne HR.out HO.out (by decide) (by rw [hg]; exact congrArg some e)
      have HTo := Lib.hid hto; have HRo := Lib.hid hro; clear hto hro
      have hkl : L.length ≤ 16 := by omega
      have HLe := Lib.hid hLe; clear hLe
      by_cases h1 : k < nn
      · have h1' : (k : Int) < (nn : Int) := by omega
        have hM : pieces (nn - k) r = (strB (pieceT r).1 :: (pieces (nn - (k + 1)) (pieceT r).2).1, (pieces (nn - (k + 1)) (pieceT r).2).2) := by
          rw [show nn - k = (nn - (k + 1)) + 1 by omega]; rfl
        generalize pieceT r = p at E114 lp hM
        obtain ⟨p1, p2⟩ := p
        simp only at E114 lp hM
        have HMM := Lib.hid hM; have H114r := Lib.hid E114; clear hM E114
        go_wp2_with fail
        refine H114r.out.mono ?_
        rintro e w4 ⟨rfl, k4⟩
        have hT4 := HT.out.kpt k4 (fun e => e)
        have HT4 := Lib.hid hT4; have HO4 := Lib.hid (own_kpt HO.out k4 (fun _ _ e => e)); have HR4 := Lib.hid (HR.out.kpt k4 (fun e => e)); have HK4 := Lib.hid (Kpt.trans HK.out k4 (fun _ e _ => e))
        have t42 := hT4.cell 2
        simp only [List.getElem?_toArray, List.getElem?_cons_zero, List.getElem?_cons_succ] at t42
        have hs4 := HK4.out.size
        clear hT4 k4
        go_wp2_with (refine wpList_append_own _ rfl _ _ 22 rfl w.heap.size 9 i0 _ 1 16 Tryz.underlying22 HI.out HZI.out HZ0.out HZ1.out (by rfl) (by omega) tv _ _ rfl (HO4.out.alloc _) ⟨w4.heap.size, 0, none⟩ 1 1 [.string (strB p1)] rfl rfl (cell_one_new _ _ _) (by simp [Value.oneCell']) (by simp only [maxLen]; omega) (by omega) (by simp; omega) ?_; intro v' w5 ho hg _; obtain ⟨A5, c5, rfl, hca5, hcb5⟩ := own_slice ho; have hb5 := ((HT4.out.alloc _).grown hg (fun e => HTo.out _ e.symm rfl)); have c52 := hb5.cell 2; have f52 := hb5.frozen 2; simp only [List.getElem?_toArray, List.getElem?_cons_zero, List.getElem?_cons_succ] at c52; have HB5 := Lib.hid hb5; have HO5 := Lib.hid ho; have HG5 := Lib.hid hg; clear hb5 ho hg)
        have hR5 := ((HR4.out.alloc (.cells #[.string (strB p1)] 9)).grown HG5.out (fun e => HRo.out _ e.symm rfl)).far (p := ⟨w.heap.size + 1, 2, none⟩) (by simp) (.slice A5 (L.length + 1) c5)
        have hk5 : Kpt Non w (w5.setCell ⟨w.heap.size + 1, 2, none⟩ (.slice A5 (L.length + 1) c5)) := Kpt.setCell (Kpt.trans (Kpt.alloc HK4.out _) (Kpt.grown (Kpt.refl (fun i => tv.ownBlock = some i) _) HG5.out (fun _ e _ => e)) (fun i e hlt => by have := (HO4.out.lt i e).1; omega)) (p := ⟨w.heap.size + 1, 2, none⟩) (fun h => absurd h (by simp)) (.slice A5 (L.length + 1) c5)
        have ho5 : (w5.setCell ⟨w.heap.size + 1, 2, none⟩ (.slice A5 (L.length + 1) c5)).ownsRow w.heap.size 9 1 (.slice A5 (L.length + 1) c5) (L.length + 1) (L.map Value.string ++ [.string (strB p1)]) := own_kpt HO5.out ((Kpt.refl (One (w.heap.size + 1)) w5).setOne 2 (.slice A5 (L.length + 1) c5)) (fun g hg e => Blk.own_ne HB5.out HO5.out (by decide) (by rw [hg]; exact congrArg some e))
        refine ⟨⟨k + 1, p2, L ++ [strB p1], (.slice A5 (L.length + 1) c5), rfl, by go_num, by omega, by omega, by have := HLe.out; simp; omega, Lib.hid (by rw [HM.out, HMM.out]; simp), Lib.hid (fun x hx => ?_), Lib.hid (HB5.out.set_ 2 _), Lib.hid (by simpa using ho5), Lib.hid hR5, Lib.hid hk5⟩, by simp [intOf]; omega⟩
        rcases List.mem_append.1 hx with hx | hx
        · exact HSz.out x hx
        · simp only [List.mem_singleton] at hx
          rw [hx, strB_size]; omega
      · have h1' : ¬ (k : Int) < (nn : Int) := by omega
        have hM : pieces nn c2 = (L, r) := by rw [HM.out, show nn - k = 0 by omega]; simp [pieces]
        have hdec := HDec.out
        simp only [hM] at hdec
        generalize pieceT r = p at E114 lp hdec
        obtain ⟨p1, p2⟩ := p
        simp only at E114 lp hdec
        have HDec := Lib.hid hdec; have H114r := Lib.hid E114; clear hdec E114 hM
        go_wp2_with fail
        refine H114r.out.mono ?_
        rintro e w4 ⟨rfl, k4⟩
        have hT4 := HT.out.kpt k4 (fun e => e)
        have t43 := hT4.cell 3
        have ft43 := hT4.frozen 3
        simp only [List.getElem?_toArray, List.getElem?_cons_zero, List.getElem?_cons_succ] at t43
        have hT5 : Blk (w4.setCell ⟨w.heap.size + 1, 3, none⟩ (.string (strB p1))) (w.heap.size + 1) 44 #[.int .i64 a1, .string (strB b1), tv, .string (strB p1)] := hT4.set_ 3 _
        have hR5 := (HR.out.kpt k4 (fun e => e)).far (p := ⟨w.heap.size + 1, 3, none⟩) (by simp) (.string (strB p1))
        have hO5 := own_kpt (own_kpt HO.out k4 (fun _ _ e => e)) ((Kpt.refl (One (w.heap.size + 1)) w4).setOne 3 (.string (strB p1))) HTo.out
        have hK5 : Kpt Non w (w4.setCell ⟨w.heap.size + 1, 3, none⟩ (.string (strB p1))) := Kpt.setCell (Kpt.trans HK.out k4 (fun _ e _ => e)) (p := ⟨w.heap.size + 1, 3, none⟩) (fun h => absurd h (by simp)) _
        obtain ⟨A, c, rfl, hcA, hcB⟩ := own_slice hO5
        have d0 := hT5.cell 0
        have d1 := hT5.cell 1
        have d2 := hT5.cell 2
        have d3 := hT5.cell 3
        simp only [List.getElem?_toArray, List.getElem?_cons_zero, List.getElem?_cons_succ] at d0 d1 d2 d3
        have ok : TmOk ⟨a1, strB b1, L, strB p1⟩ := by
          refine ⟨?_, fun x hx => ?_, ?_, ?_⟩
          · show (strB b1).size ≤ _; omega
          · have := HSz.out x hx; omega
          · show (strB p1).size ≤ _; rw [strB_size]; omega
          · show L.length ≤ _; omega
        have e38 := f38_any ⟨a1, strB b1, L, strB p1⟩ _ _ _ ⟨A, c, rfl, hcA, hcB, Rd.of_own hO5⟩ ok (by show (strB b1).size ≤ _; omega)
        have HT5 := Lib.hid hT5; have HR5 := Lib.hid hR5; have HO5 := Lib.hid hO5; have HK5 := Lib.hid hK5; have H38 := Lib.hid e38; clear hT4 hT5 hR5 hO5 hK5 e38 k4 ok
        obtain ⟨ck, hck⟩ : ∃ ck, chkT ⟨a1, strB b1, L, strB p1⟩ = ck := ⟨_, rfl⟩
        rw [hck] at H38 HDec
        clear hck
        go_wp2_with fail
        refine H38.out.mono ?_
        rintro e w6 ⟨rfl, k6⟩
        have hR6 := HR5.out.kpt k6 (fun e => e)
        have hT6 := HT5.out.kpt k6 (fun e => e)
        have r0 := hR6.cell 0
        have r1 := hR6.cell 1
        have r2 := hR6.cell 2
        have r3 := hR6.cell 3
        have g0 := hR6.frozen 0
        have g1 := hR6.frozen 1
        have g2 := hR6.frozen 2
        have g3 := hR6.frozen 3
        have m0 := hT6.cell 0
        have m1 := hT6.cell 1
        have m2 := hT6.cell 2
        have m3 := hT6.cell 3
        simp only [List.getElem?_toArray, List.getElem?_cons_zero, List.getElem?_cons_succ] at r0 r1 r2 r3 m0 m1 m2 m3
        have HR6 := Lib.hid hR6; have HO6 := Lib.hid (own_kpt HO5.out k6 (fun _ _ e => e)); have HK6 := Lib.hid (Kpt.trans HK5.out k6 (fun _ e _ => e)); clear hR6 hT6 k6 d0 d1 d2 d3 t43 ft43
        by_cases hc0 : ck = 0
        · subst hc0
          rw [if_pos rfl]
          by_cases he : encT ⟨a1, strB b1, L, strB p1⟩ = bytesOf s
          · have hes : strB (encT ⟨a1, strB b1, L, strB p1⟩) = s := by rw [he, strB_bytesOf]
            have heq : (strB (encT ⟨a1, strB b1, L, strB p1⟩)).toList = s.toList := by rw [hes]
            by_cases hp : p2 = []
            · have hdec := HDec.out
              rw [if_pos ⟨rfl, he, hp⟩] at hdec
              have HDz := Lib.hid hdec; clear hdec
              have hpe := isEmpty_true (s := strB p2) (by rw [hp]; rfl)
              have HP := Lib.hid hp; have HEs := Lib.hid hes; have HEe := Lib.hid he; clear hp hes he
              go_wp2_with fail
              have hzf : Blk ((((w6.setCell ⟨w.heap.size, 0, none⟩ (.int .i64 a1)).setCell ⟨w.heap.size, 1, none⟩ (.string (strB b1))).setCell ⟨w.heap.size, 2, none⟩ (.slice A L.length c)).setCell ⟨w.heap.size, 3, none⟩ (.string (strB p1))) w.heap.size 44 #[(.int .i64 a1), (.string (strB b1)), (.slice A L.length c), (.string (strB p1))] := (((HR6.out.set_ 0 _).set_ 1 _).set_ 2 _).set_ 3 _
              have kz : Kpt (One w.heap.size) w6 ((((w6.setCell ⟨w.heap.size, 0, none⟩ (.int .i64 a1)).setCell ⟨w.heap.size, 1, none⟩ (.string (strB b1))).setCell ⟨w.heap.size, 2, none⟩ (.slice A L.length c)).setCell ⟨w.heap.size, 3, none⟩ (.string (strB p1))) := ((((Kpt.refl (One w.heap.size) w6).setOne 0 _).setOne 1 _).setOne 2 _).setOne 3 _
              have y0 := hzf.cell 0
              have y1 := hzf.cell 1
              have y2 := hzf.cell 2
              have y3 := hzf.cell 3
              simp only [List.getElem?_toArray, List.getElem?_cons_zero, List.getElem?_cons_succ] at y0 y1 y2 y3
              refine bodyPost_ret (v := .tuple #[.agg #[(.int .i64 a1), (.string (strB b1)), (.slice A L.length c), (.string (strB p1))], .int .i64 0]) ?_ rfl ⟨_, by rw [HDz.out], (by rw [HDz.out]; exact ⟨A, c, rfl, hcA, hcB, ((Rd.of_own HO6.out).kpt kz (fun i hi e => HRo.out i hi.2 e)).more (fun i hi => hi.1)⟩), Kpt.trans HK6.out kz (fun i e hlt => by have e' : i = w.heap.size := e; omega)⟩
              generalize ((((w6.setCell ⟨w.heap.size, 0, none⟩ (.int .i64 a1)).setCell ⟨w.heap.size, 1, none⟩ (.string (strB b1))).setCell ⟨w.heap.size, 2, none⟩ (.slice A L.length c)).setCell ⟨w.heap.size, 3, none⟩ (.string (strB p1))) = wf at y0 y1 y2 y3
              simp [results, Tryz.results27, go_sem, y0, y1, y2, y3]
            · have hdec := HDec.out
              rw [if_neg (fun h => hp h.2.2)] at hdec
              have HDz := Lib.hid hdec; clear hdec
              have hpe := isEmpty_false (s := strB p2) (by rw [strB_size]; exact fun e => hp (List.eq_nil_of_length_eq_zero e))
              have HP := Lib.hid hp; have HEs := Lib.hid hes; have HEe := Lib.hid he; clear hp hes he
              go_wp2_with fail
              have hzf : Blk ((((w6.setCell ⟨w.heap.size, 0, none⟩ (.int .i64 0)).setCell ⟨w.heap.size, 1, none⟩ (.string ⟨#[]⟩)).setCell ⟨w.heap.size, 2, none⟩ (.slice none 0 0)).setCell ⟨w.heap.size, 3, none⟩ (.string ⟨#[]⟩)) w.heap.size 44 #[(.int .i64 0), (.string ⟨#[]⟩), (.slice none 0 0), (.string ⟨#[]⟩)] := (((HR6.out.set_ 0 _).set_ 1 _).set_ 2 _).set_ 3 _
              have kz : Kpt (One w.heap.size) w6 ((((w6.setCell ⟨w.heap.size, 0, none⟩ (.int .i64 0)).setCell ⟨w.heap.size, 1, none⟩ (.string ⟨#[]⟩)).setCell ⟨w.heap.size, 2, none⟩ (.slice none 0 0)).setCell ⟨w.heap.size, 3, none⟩ (.string ⟨#[]⟩)) := ((((Kpt.refl (One w.heap.size) w6).setOne 0 _).setOne 1 _).setOne 2 _).setOne 3 _
              have y0 := hzf.cell 0
              have y1 := hzf.cell 1
              have y2 := hzf.cell 2
              have y3 := hzf.cell 3
              simp only [List.getElem?_toArray, List.getElem?_cons_zero, List.getElem?_cons_succ] at y0 y1 y2 y3
              refine bodyPost_ret (v := .tuple #[.agg #[(.int .i64 0), (.string ⟨#[]⟩), (.slice none 0 0), (.string ⟨#[]⟩)], .int .i64 3]) ?_ rfl ⟨_, by rw [HDz.out], (by rw [HDz.out]; exact ⟨none, 0, rfl, Nat.le_refl _, by simp [maxLen], Rd.nil _ _ _ _⟩), Kpt.trans HK6.out kz (fun i e hlt => by have e' : i = w.heap.size := e; omega)⟩
              generalize ((((w6.setCell ⟨w.heap.size, 0, none⟩ (.int .i64 0)).setCell ⟨w.heap.size, 1, none⟩ (.string ⟨#[]⟩)).setCell ⟨w.heap.size, 2, none⟩ (.slice none 0 0)).setCell ⟨w.heap.size, 3, none⟩ (.string ⟨#[]⟩)) = wf at y0 y1 y2 y3
              simp [results, Tryz.results27, go_sem, y0, y1, y2, y3]
          · have hdec := HDec.out
            rw [if_neg (fun h => he h.2.1)] at hdec
            have HDz := Lib.hid hdec; clear hdec
            have heq : ¬ (strB (encT ⟨a1, strB b1, L, strB p1⟩)).toList = s.toList := by
              intro e
              rw [ByteArray.toList_eq, ByteArray.toList_eq] at e
              exact he (by
                have : bytesOf (strB (encT ⟨a1, strB b1, L, strB p1⟩)) = bytesOf s := e
                rw [bytesOf_strB] at this
                exact this)
            have HEe := Lib.hid he; clear he
            go_wp2_with fail
            have hzf : Blk ((((w6.setCell ⟨w.heap.size, 0, none⟩ (.int .i64 0)).setCell ⟨w.heap.size, 1, none⟩ (.string ⟨#[]⟩)).setCell ⟨w.heap.size, 2, none⟩ (.slice none 0 0)).setCell ⟨w.heap.size, 3, none⟩ (.string ⟨#[]⟩)) w.heap.size 44 #[(.int .i64 0), (.string ⟨#[]⟩), (.slice none 0 0), (.string ⟨#[]⟩)] := (((HR6.out.set_ 0 _).set_ 1 _).set_ 2 _).set_ 3 _
            have kz : Kpt (One w.heap.size) w6 ((((w6.setCell ⟨w.heap.size, 0, none⟩ (.int .i64 0)).setCell ⟨w.heap.size, 1, none⟩ (.string ⟨#[]⟩)).setCell ⟨w.heap.size, 2, none⟩ (.slice none 0 0)).setCell ⟨w.heap.size, 3, none⟩ (.string ⟨#[]⟩)) := ((((Kpt.refl (One w.heap.size) w6).setOne 0 _).setOne 1 _).setOne 2 _).setOne 3 _
            have y0 := hzf.cell 0
            have y1 := hzf.cell 1
            have y2 := hzf.cell 2
            have y3 := hzf.cell 3
            simp only [List.getElem?_toArray, List.getElem?_cons_zero, List.getElem?_cons_succ] at y0 y1 y2 y3
            refine bodyPost_ret (v := .tuple #[.agg #[(.int .i64 0), (.string ⟨#[]⟩), (.slice none 0 0), (.string ⟨#[]⟩)], .int .i64 3]) ?_ rfl ⟨_, by rw [HDz.out], (by rw [HDz.out]; exact ⟨none, 0, rfl, Nat.le_refl _, by simp [maxLen], Rd.nil _ _ _ _⟩), Kpt.trans HK6.out kz (fun i e hlt => by have e' : i = w.heap.size := e; omega)⟩
            generalize ((((w6.setCell ⟨w.heap.size, 0, none⟩ (.int .i64 0)).setCell ⟨w.heap.size, 1, none⟩ (.string ⟨#[]⟩)).setCell ⟨w.heap.size, 2, none⟩ (.slice none 0 0)).setCell ⟨w.heap.size, 3, none⟩ (.string ⟨#[]⟩)) = wf at y0 y1 y2 y3
            simp [results, Tryz.results27, go_sem, y0, y1, y2, y3]
        · have hdec := HDec.out
          rw [if_neg (fun h => hc0 h.1)] at hdec
          have HDz := Lib.hid hdec; clear hdec
          rw [if_neg hc0]
          have hc0' : (ck != 0) = true := by rw [bne_iff_ne]; exact hc0
          have HC0 := Lib.hid hc0; clear hc0
          go_wp2_with fail
          have hzf : Blk ((((w6.setCell ⟨w.heap.size, 0, none⟩ (.int .i64 0)).setCell ⟨w.heap.size, 1, none⟩ (.string ⟨#[]⟩)).setCell ⟨w.heap.size, 2, none⟩ (.slice none 0 0)).setCell ⟨w.heap.size, 3, none⟩ (.string ⟨#[]⟩)) w.heap.size 44 #[(.int .i64 0), (.string ⟨#[]⟩), (.slice none 0 0), (.string ⟨#[]⟩)] := (((HR6.out.set_ 0 _).set_ 1 _).set_ 2 _).set_ 3 _
          have kz : Kpt (One w.heap.size) w6 ((((w6.setCell ⟨w.heap.size, 0, none⟩ (.int .i64 0)).setCell ⟨w.heap.size, 1, none⟩ (.string ⟨#[]⟩)).setCell ⟨w.heap.size, 2, none⟩ (.slice none 0 0)).setCell ⟨w.heap.size, 3, none⟩ (.string ⟨#[]⟩)) := ((((Kpt.refl (One w.heap.size) w6).setOne 0 _).setOne 1 _).setOne 2 _).setOne 3 _
          have y0 := hzf.cell 0
          have y1 := hzf.cell 1
          have y2 := hzf.cell 2
          have y3 := hzf.cell 3
          simp only [List.getElem?_toArray, List.getElem?_cons_zero, List.getElem?_cons_succ] at y0 y1 y2 y3
          refine bodyPost_ret (v := .tuple #[.agg #[(.int .i64 0), (.string ⟨#[]⟩), (.slice none 0 0), (.string ⟨#[]⟩)], .int .i64 3]) ?_ rfl ⟨_, by rw [HDz.out], (by rw [HDz.out]; exact ⟨none, 0, rfl, Nat.le_refl _, by simp [maxLen], Rd.nil _ _ _ _⟩), Kpt.trans HK6.out kz (fun i e hlt => by have e' : i = w.heap.size := e; omega)⟩
          generalize ((((w6.setCell ⟨w.heap.size, 0, none⟩ (.int .i64 0)).setCell ⟨w.heap.size, 1, none⟩ (.string ⟨#[]⟩)).setCell ⟨w.heap.size, 2, none⟩ (.slice none 0 0)).setCell ⟨w.heap.size, 3, none⟩ (.string ⟨#[]⟩)) = wf at y0 y1 y2 y3
          simp [results, Tryz.results27, go_sem, y0, y1, y2, y3]
end Go.Proofs.YtkpmabknjdgkmaaGreatDoor
