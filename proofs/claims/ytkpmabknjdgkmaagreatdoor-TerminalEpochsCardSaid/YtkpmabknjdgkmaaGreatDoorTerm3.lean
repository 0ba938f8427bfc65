/- The walk of terminal.Encode. -/
import Derived.Test.YtkpmabknjdgkmaaGreatDoorTerm2
namespace Go.Proofs.YtkpmabknjdgkmaaGreatDoor
open Go.RowKit

def encT (t : Tm) : List UInt8 := natB t.epoch.toNat ++ textB t.session ++ natB t.typed.length ++ t.typed.flatMap textB ++ textB t.screen

theorem natB_len : ∀ (k u : Nat), u < 128 ^ (k + 1) → (natB u).length ≤ k + 1
  | 0, u, h => by rw [natB_small (by simpa using h)]; simp
  | k + 1, u, h => by
    by_cases h1 : u < 128
    · rw [natB_small h1]; simp
    · rw [natB_big h1, List.length_cons]
      have := natB_len k (u / 128) (by rw [Nat.pow_succ] at h; omega)
      omega
theorem textB_len {s : ByteArray} {n : Nat} (h : s.size ≤ n) (hn : n ≤ 16777216) : (textB s).length ≤ n + 5 := by
  rw [textB, List.length_append, len_bytesOf]
  have := natB_len 4 s.size (by rw [show (128 : Nat) ^ (4 + 1) = 34359738368 by decide]; omega)
  omega

theorem chkT_ok {t : Tm} (h : chkT t = 0) : (0 ≤ t.epoch ∧ t.epoch ≤ 1073741824) ∧ validB (bytesOf t.session) = true ∧ t.typed.length ≤ 16 ∧ linesErr t.typed = 0 ∧ ¬ (t.session.size = 0 ∧ 0 < t.typed.length) ∧ t.screen.size ≤ 2048 := by
  unfold chkT at h
  split at h
  · rename_i h1
    split at h
    · rename_i h2
      split at h
      · simp at h
      · rename_i h3
        split at h
        · rename_i h4
          split at h
          · simp at h
          · rename_i h5
            split at h
            · simp at h
            · rename_i h6
              exact ⟨h1, h2, by omega, h4, h5, by omega⟩
        · rename_i h4
          exact absurd h h4
    · simp at h
  · simp at h
theorem linesErr_ok : ∀ {l : List ByteArray}, linesErr l = 0 → ∀ s ∈ l, lineErr s = 0
  | [], _, s, hs => by simp at hs
  | x :: l, h, s, hs => by
    unfold linesErr at h
    split at h
    · rename_i h0
      rcases List.mem_cons.1 hs with rfl | hs
      · exact h0
      · exact linesErr_ok h s hs
    · rename_i h0
      exact absurd h h0
theorem lineErr_ok {s : ByteArray} (h : lineErr s = 0) : s.size ≤ 1024 := by
  unfold lineErr at h
  split at h
  · simp at h
  · omega

theorem bflatL {ls : List ByteArray} {k : Nat} {s : ByteArray} (h : ls[k]? = some s) : (ls.take (k + 1)).flatMap textB = (ls.take k).flatMap textB ++ textB s := by
  rw [List.take_add_one, h, List.flatMap_append]
  simp

set_option maxRecDepth 100000 in
set_option maxHeartbeats 1000000 in
theorem f36_any (t : Tm) (v : Value) (D : Nat → Prop) (w : World) (hv : TmV w D t v) (ok : TmOk t) (hss : t.session.size ≤ 16777216) :
    Calls Tryz.prog 23 #[v] w fun e w' => e = .returned (.tuple #[.string (if chkT t = 0 then strB (encT t) else es), .int .i64 (chkT t)]) ∧ Kpt Non w w' := by
  have hbox : ∀ o, TmV (w.alloc o) D t v := fun o => by
    obtain ⟨A, c, h1, h2, h3, h4⟩ := hv
    exact ⟨A, c, h1, h2, h3, h4.alloc o⟩
  have E41 := fun o => f41_any t v D (w.alloc o) (hbox o) ok
  have H41 := Lib.hid E41; clear E41 hbox
  obtain ⟨A, c, rfl, hc1, hc2, hr⟩ := hv
  have HR := Lib.hid hr; clear hr
  by_cases h0 : chkT t = 0
  · obtain ⟨h1, h2, h3, h4, h5, h6⟩ := chkT_ok h0
    rw [h0] at H41 ⊢
    rw [if_pos rfl]
    have hle := linesErr_ok h4
    clear h2 h4 h5 h0 ok
    obtain ⟨ep, ss, ls, sc⟩ := t
    simp only at h1 h3 h6 hle hss hc1 H41 HR ⊢
    obtain ⟨en, rfl⟩ := Int.eq_ofNat_of_zero_le h1.1
    have hen : en ≤ 1073741824 := by omega
    have hE : encT ⟨(en : Int), ss, ls, sc⟩ = natB en ++ textB ss ++ natB ls.length ++ ls.flatMap textB ++ textB sc := by simp [encT]
    have HE := Lib.hid hE; clear hE
    have HLE := Lib.hid hle; clear hle
    have n1 := natB_len 4 en (by rw [show (128 : Nat) ^ (4 + 1) = 34359738368 by decide]; omega)
    have n2 := textB_len (s := ss) hss (by omega)
    have n3 := natB_len 4 ls.length (by rw [show (128 : Nat) ^ (4 + 1) = 34359738368 by decide]; omega)
    have n4 := textB_len (s := sc) h6 (by omega)
    have p1 := natB_len_pos en
    clear h1
    go_enter Tryz.func23, Tryz.ntmps23
    go_wp2_with fail
    refine (H41.out _).mono ?_
    rintro e w1 ⟨rfl, k1⟩
    have hb := (Blk.new w 36 #[.int .i64 en, .string ss, .slice A ls.length c, .string sc]).kpt k1 (fun e => e)
    have hbk : ∀ w', Kpt Non w1 w' → (w'.cell? ⟨w.heap.size, 0, none⟩ = some (.int .i64 en) ∧ w'.cell? ⟨w.heap.size, 1, none⟩ = some (.string ss) ∧ w'.cell? ⟨w.heap.size, 2, none⟩ = some (.slice A ls.length c) ∧ w'.cell? ⟨w.heap.size, 3, none⟩ = some (.string sc)) := fun w' k => by
      have h := hb.kpt k (fun e => e)
      have c0 := h.cell 0
      have c1 := h.cell 1
      have c2 := h.cell 2
      have c3 := h.cell 3
      simp only [List.getElem?_toArray, List.getElem?_cons_zero, List.getElem?_cons_succ] at c0 c1 c2 c3
      exact ⟨c0, c1, c2, c3⟩
    have HBK := Lib.hid hbk
    have hr1 := (HR.out.alloc (.cells #[.int .i64 en, .string ss, .slice A ls.length c, .string sc] 36)).kpt k1 (fun _ _ e => e)
    have HR1 := Lib.hid hr1
    have K1 := Lib.hid k1; clear hb hbk hr1 k1
    go_wp2_with fail
    refine (f103_any _).mono ?_
    rintro e w2 ⟨rfl, hw2⟩
    have q2 := HBK.out w2 (by obtain ⟨_, _, _, k⟩ := hw2; exact k)
    have HW2 := Lib.hid hw2; clear hw2
    obtain ⟨q20, q21, q22, q23⟩ := q2
    go_wp2_with fail
    refine (f104_any w1 w2 _ _ en HW2.out hen (by simp)).mono ?_
    rintro e w3 ⟨rfl, hw3⟩
    have q3 := HBK.out w3 (by obtain ⟨_, _, _, k⟩ := hw3; exact k)
    have HW3 := Lib.hid hw3; clear hw3
    obtain ⟨q30, q31, q32, q33⟩ := q3
    go_wp2_with fail
    refine (f105_any w1 w3 _ _ ss HW3.out hss (by simp; omega)).mono ?_
    rintro e w4 ⟨rfl, hw4⟩
    have q4 := HBK.out w4 (by obtain ⟨_, _, _, k⟩ := hw4; exact k)
    have HW4 := Lib.hid hw4; clear hw4
    obtain ⟨q40, q41, q42, q43⟩ := q4
    go_wp2_with fail
    refine (f104_any w1 w4 _ _ ls.length HW4.out (by omega) (by simp; omega)).mono ?_
    rintro e w5 ⟨rfl, hw5⟩
    have q5 := HBK.out w5 (by obtain ⟨_, _, _, k⟩ := hw5; exact k)
    have HW5 := Lib.hid hw5; clear hw5
    obtain ⟨q50, q51, q52, q53⟩ := q5
    go_wp2_with fail
    go_loopw [7, 32] (fun x i wr => ∃ (k : Nat) (L : List UInt8), i = .int .i64 k ∧ k ≤ ls.length ∧ L.length ≤ 16777300 + 1029 * k ∧ Hid (L = [] ++ natB en ++ textB ss ++ natB ls.length ++ (ls.take k).flatMap textB) ∧ Hid (WrAt w1 wr w1.heap.size L)) (fun _ i _ => ls.length - (intOf i).toNat)
    case atStart =>
      exact ⟨0, _, rfl, Nat.zero_le _, by simp; omega, Lib.hid rfl, Lib.hid (by simpa using HW5.out)⟩
    case round =>
      obtain ⟨k, L, rfl, hk, hLl, HL, HW⟩ := hrel
      by_cases h7 : k < ls.length
      · have h7' : (k : Int) < (ls.length : Int) := by omega
        have kk : Kpt Non w1 wr := by obtain ⟨_, _, _, k⟩ := HW.out; exact k
        obtain ⟨ad, u, rfl, _, hu, hcell⟩ := (HR1.out.kpt kk (fun _ _ e => e)).at_ h7
        rw [List.getElem?_map] at hu
        obtain ⟨s, hs, rfl⟩ := Option.map_eq_some_iff.1 hu
        clear hu
        have hsz := lineErr_ok (HLE.out s (List.mem_of_getElem? hs))
        have hfl := bflatL hs
        have htl := textB_len (s := s) hsz (by omega)
        have HFL := Lib.hid hfl; clear hfl hs
        have KK := Lib.hid kk; clear kk
        go_wp2_with fail
        refine (f105_any w1 wr _ L s HW.out (by omega) (by omega)).mono ?_
        rintro e w6 ⟨rfl, hw6⟩
        have HW6 := Lib.hid hw6; clear hw6
        go_wp2_with fail
        exact ⟨⟨k + 1, L ++ textB s, by go_num, by omega, by rw [List.length_append]; omega, Lib.hid (by rw [HFL.out, HL.out]; simp only [List.append_assoc]), HW6⟩, by simp [intOf]; omega⟩
      · have h7' : decide ((k : Int) < (ls.length : Int)) = false := by simp; omega
        have hkk : ls.length ≤ k := by omega
        have kk : Kpt Non w1 wr := by obtain ⟨_, _, _, k⟩ := HW.out; exact k
        obtain ⟨r0, r1, r2, r3⟩ := HBK.out wr kk
        have KK := Lib.hid kk; clear kk
        go_wp2_with fail
        refine (f105_any w1 wr _ L sc HW.out (by omega) (by omega)).mono ?_
        rintro e w6 ⟨rfl, hw6⟩
        have k6 : Kpt Non w1 w6 := by obtain ⟨_, _, _, k⟩ := hw6; exact k
        have HW6 := Lib.hid hw6; clear hw6
        have K6 := Lib.hid k6; clear k6
        have hLE : L ++ textB sc = encT ⟨(en : Int), ss, ls, sc⟩ := by rw [HL.out, HE.out, List.take_of_length_le hkk]; simp
        have hpos : 0 < (L ++ textB sc).length := by rw [hLE, HE.out]; simp; omega
        have hbig : (L ++ textB sc).length ≤ 1073741824 := by rw [List.length_append]; omega
        rw [hLE] at HW6 hpos hbig
        clear hLE
        obtain ⟨E, hEE⟩ : ∃ E, encT ⟨(en : Int), ss, ls, sc⟩ = E := ⟨_, rfl⟩
        rw [hEE] at HW6 hpos hbig
        have HEE := Lib.hid hEE; clear hEE
        go_wp2_with fail
        refine (f106_any w1 w6 _ E HW6.out hbig hpos).mono ?_
        rintro e w7 ⟨v7, rfl, ho7, k7⟩
        obtain ⟨g7, c7, rfl, _, _⟩ := ho7.form hpos
        have hcv := conv_bytes (c := c7) rfl (Rd.of_own ho7)
        have HO7 := Lib.hid ho7; have K7 := Lib.hid k7; clear ho7 k7
        go_wp2_with fail
        go_ret2
        exact ⟨by rw [HEE.out]; rfl, Kpt.trans (Kpt.trans (Kpt.trans (Kpt.alloc (Kpt.refl _ _) _) K1.out (fun _ h _ => h)) K6.out (fun _ h _ => h)) K7.out (fun _ h _ => h)⟩
  · rw [if_neg h0]
    generalize chkT t = T at h0 H41 ⊢
    have h0' : (T != 0) = true := by rw [bne_iff_ne]; exact h0
    have H0 := Lib.hid h0; clear h0
    obtain ⟨ep, ss, ls, sc⟩ := t
    simp only at H41 hc1 HR ⊢
    go_enter Tryz.func23, Tryz.ntmps23
    go_wp2_with fail
    refine (H41.out _).mono ?_
    rintro e w1 ⟨rfl, k1⟩
    have K1 := Lib.hid k1; clear k1
    go_wp2_with fail
    go_ret2
    exact ⟨rfl, Kpt.trans (Kpt.alloc (Kpt.refl _ _) _) K1.out (fun _ h _ => h)⟩
end Go.Proofs.YtkpmabknjdgkmaaGreatDoor
