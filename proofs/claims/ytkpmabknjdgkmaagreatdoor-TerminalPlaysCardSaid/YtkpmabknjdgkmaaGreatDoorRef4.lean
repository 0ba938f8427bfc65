/- The reference's codec, read: groups and Parse of package replevinref01; take and piece of package replevinref36. No condition but that sizes fit the machine. The reference's take and piece. No condition but that sizes fit the machine. The reference's Encode. No condition but that sizes fit the machine. -/
import Derived.Test.YtkpmabknjdgkmaaGreatDoorRef2
import Derived.Test.YtkpmabknjdgkmaaGreatDoorCodec7
import Derived.Deep.QuietTactic
import Derived.BigQuiet
import Derived.Test.YtkpmabknjdgkmaaGreatDoorRef3
import Derived.Test.YtkpmabknjdgkmaaGreatDoorTerm3
import Derived.Deep.RegionLaw
namespace Go.Proofs.YtkpmabknjdgkmaaGreatDoor
open Go.RowKit

theorem hv_drop {l : List UInt8} {j e : Nat} {x : UInt8} (hx : l[j]? = some x) (hj : j ≤ e) : hv ((l.take (e + 1)).drop j) = x.toNat % 128 + 128 * hv ((l.take (e + 1)).drop (j + 1)) := by
  have hlt := (List.getElem?_eq_some_iff.1 hx).1
  have h : (l.take (e + 1))[j]? = some x := by rw [List.getElem?_take, if_pos (by omega)]; exact hx
  have hlt2 := (List.getElem?_eq_some_iff.1 h).1
  rw [List.drop_eq_getElem_cons hlt2]
  have : (l.take (e + 1))[j] = x := (List.getElem?_eq_some_iff.1 h).2
  rw [this]
  rfl
theorem hv_drop_lt (l : List UInt8) (e j : Nat) (hj : j ≤ e) (he : e ≤ 8) : hv ((l.take (e + 1)).drop (j + 1)) < 72057594037927936 := by
  refine Nat.lt_of_lt_of_le (hv_lt _) ?_
  have h1 : ((l.take (e + 1)).drop (j + 1)).length ≤ 8 := by
    rw [List.length_drop, List.length_take]; omega
  have h2 := Nat.pow_le_pow_right (show 128 > 0 by decide) h1
  rw [show (128 : Nat) ^ 8 = 72057594037927936 by decide] at h2
  exact h2

set_option maxRecDepth 100000 in
set_option maxHeartbeats 2000000 in
theorem f217_any (A : Option Addr) (n c : Nat) (D : Nat → Prop) (l : List UInt8) (w : World) (hr : Rd w D 1 A n (l.map byteV)) (hn : n ≤ 1099511627776) :
    Calls Tryz.prog 113 #[.slice A n c, .int .i64 9] w fun e w' => e = .returned (.tuple #[.int .u64 ((grp 0 0 l).1 : Int), .int .i64 ((grp 0 0 l).2.1 : Int), .int .i64 (grp 0 0 l).2.2]) ∧ w = w' := by
  have hl : l.length = n := by have := hr.1; simpa using this
  have HR := Lib.hid hr; have HLen := Lib.hid hl; clear hr hl
  have fin : ∀ (g : Nat × Nat × Int), grp 0 0 l = g → (Ending.returned (.tuple #[.int .u64 (g.1 : Int), .int .i64 (g.2.1 : Int), .int .i64 g.2.2]) = .returned (.tuple #[.int .u64 ((grp 0 0 l).1 : Int), .int .i64 ((grp 0 0 l).2.1 : Int), .int .i64 (grp 0 0 l).2.2]) ∧ w = w) := fun g hg => ⟨by rw [hg], rfl⟩
  have Fin := Lib.hid fin; clear fin
  go_enter Tryz.func113, Tryz.ntmps113
  go_wp2_with fail
  go_loopw [7] (fun x7 wr => ∃ e : Nat, x7 = .int .i64 e ∧ e ≤ n ∧ e ≤ 9 ∧ w = wr ∧ Hid (∀ k, k < e → ∃ c, l[k]? = some c ∧ 128 ≤ c.toNat)) (fun x7 _ => n - (intOf x7).toNat)
  case atStart => exact ⟨0, rfl, Nat.zero_le _, Nat.zero_le _, rfl, Lib.hid (fun k hk => absurd hk (by omega))⟩
  case round =>
    obtain ⟨e, rfl, hen, he9, rfl, HC⟩ := hrel
    by_cases h1 : e < n
    · have h1' : (e : Int) < (n : Int) := by omega
      by_cases h2 : e < 9
      · have h2' : (e : Int) < 9 := by omega
        have h2'' : ((e : Int) == 9) = false := by rw [beq_eq_false_iff_ne]; omega
        have h1'' : ((e : Int) == (n : Int)) = false := by rw [beq_eq_false_iff_ne]; omega
        obtain ⟨ad, u, rfl, _, hu, hcell⟩ := HR.out.at_ h1
        rw [List.getElem?_map] at hu
        obtain ⟨x, hx, rfl⟩ := Option.map_eq_some_iff.1 hu
        clear hu
        unfold byteV at hcell
        have hb := UInt8.toNat_lt x
        have HX := Lib.hid hx; clear hx
        by_cases h3 : (128 : Int) ≤ (x.toNat : Int)
        · go_wp2_with fail
          refine ⟨⟨e + 1, by go_num, by omega, by omega, trivial, Lib.hid (fun k hk => ?_)⟩, by simp [intOf]; omega⟩
          by_cases hke : k < e
          · exact HC.out k hke
          · obtain rfl : k = e := by omega
            exact ⟨x, HX.out, by omega⟩
        · have h3n : x.toNat < 128 := by omega
          by_cases h4 : 0 < e ∧ x.toNat = 0
          · have h4a : (0 : Int) < (e : Int) := by omega
            have h4b : ((x.toNat : Int) == 0) = true := by rw [beq_iff_eq]; omega
            have hg := grp_zero e l 0 0 HC.out HX.out (by omega) h4.2 (by omega)
            have HG := Lib.hid hg; clear hg h4
            go_wp2_with fail
            exact bodyPost_ret (v := .tuple #[.int .u64 0, .int .i64 0, .int .i64 3]) (by simp [results, Tryz.results113, go_sem]) rfl ⟨(Fin.out (0, 0, 3) HG.out).1, rfl⟩
          · have hg := grp_hv e l 0 0 HC.out HX.out h3n (by omega) (fun e' => h4 ⟨by omega, e'.1⟩)
            have HG := Lib.hid hg; clear hg
            have hcont : ∀ (k : Nat), k ≤ e + 1 → ∃ K, K = k := fun k _ => ⟨k, rfl⟩
            clear hcont
            by_cases h5 : 0 < e
            · have h4a : (0 : Int) < (e : Int) := by omega
              have h4b : ((x.toNat : Int) == 0) = false := by rw [beq_eq_false_iff_ne]; omega
              clear h4
              go_wp2_with fail
              go_loopw [8, 9] (fun x8 x9 wr => ∃ k : Nat, x8 = .int .u64 ((hv ((l.take (e + 1)).drop k) : Nat) : Int) ∧ x9 = .int .i64 ((k : Int) - 1) ∧ k ≤ e + 1 ∧ w = wr) (fun _ x9 _ => (intOf x9 + 1).toNat)
              case atStart => exact ⟨e + 1, by rw [List.drop_eq_nil_of_le (by rw [List.length_take]; omega)]; rfl, by simp, by omega, rfl⟩
              case round =>
                obtain ⟨k, rfl, rfl, hk, rfl⟩ := hrel
                cases k with
                | zero =>
                  go_wp2_with fail
                  refine bodyPost_ret (v := .tuple #[.int .u64 ((hv (l.take (e + 1)) : Nat) : Int), .int .i64 ((e + 1 : Nat) : Int), .int .i64 0]) (by simp [results, Tryz.results113, go_sem]) rfl ⟨(Fin.out (hv (l.take (e + 1)), e + 1, 0) (by rw [HG.out]; simp)).1, rfl⟩
                | succ j =>
                  obtain ⟨ad2, u2, e2, _, hu2, hcell2⟩ := HR.out.at_ (k := j) (by omega)
                  injection e2 with e2
                  subst e2
                  rw [List.getElem?_map] at hu2
                  obtain ⟨y, hy, rfl⟩ := Option.map_eq_some_iff.1 hu2
                  clear hu2
                  unfold byteV at hcell2
                  have hbound := hv_drop_lt l e j (by omega) (by omega)
                  have hstep := hv_drop hy (show j ≤ e by omega)
                  generalize hv ((l.take (e + 1)).drop (j + 1)) = N at hbound hstep ⊢
                  have HStep := Lib.hid hstep; clear hstep hy
                  have hby := UInt8.toNat_lt y
                  rw [show ((j + 1 : Nat) : Int) - 1 = (j : Int) by omega]
                  have hj0 : (0 : Int) ≤ (j : Int) := by omega
                  have hjn : (j : Int) < (n : Int) := by omega
                  go_wp2_with fail
                  refine ⟨⟨j, ?_, rfl, by omega, trivial⟩, by simp [intOf]⟩
                  rw [HStep.out]
                  congr 1
                  omega
            · have h4a : ¬ (0 : Int) < (e : Int) := by omega
              clear h4
              go_wp2_with fail
              go_loopw [8, 9] (fun x8 x9 wr => ∃ k : Nat, x8 = .int .u64 ((hv ((l.take (e + 1)).drop k) : Nat) : Int) ∧ x9 = .int .i64 ((k : Int) - 1) ∧ k ≤ e + 1 ∧ w = wr) (fun _ x9 _ => (intOf x9 + 1).toNat)
              case atStart => exact ⟨e + 1, by rw [List.drop_eq_nil_of_le (by rw [List.length_take]; omega)]; rfl, by simp, by omega, rfl⟩
              case round =>
                obtain ⟨k, rfl, rfl, hk, rfl⟩ := hrel
                cases k with
                | zero =>
                  go_wp2_with fail
                  refine bodyPost_ret (v := .tuple #[.int .u64 ((hv (l.take (e + 1)) : Nat) : Int), .int .i64 ((e + 1 : Nat) : Int), .int .i64 0]) (by simp [results, Tryz.results113, go_sem]) rfl ⟨(Fin.out (hv (l.take (e + 1)), e + 1, 0) (by rw [HG.out]; simp)).1, rfl⟩
                | succ j =>
                  obtain ⟨ad2, u2, e2, _, hu2, hcell2⟩ := HR.out.at_ (k := j) (by omega)
                  injection e2 with e2
                  subst e2
                  rw [List.getElem?_map] at hu2
                  obtain ⟨y, hy, rfl⟩ := Option.map_eq_some_iff.1 hu2
                  clear hu2
                  unfold byteV at hcell2
                  have hbound := hv_drop_lt l e j (by omega) (by omega)
                  have hstep := hv_drop hy (show j ≤ e by omega)
                  generalize hv ((l.take (e + 1)).drop (j + 1)) = N at hbound hstep ⊢
                  have HStep := Lib.hid hstep; clear hstep hy
                  have hby := UInt8.toNat_lt y
                  rw [show ((j + 1 : Nat) : Int) - 1 = (j : Int) by omega]
                  have hj0 : (0 : Int) ≤ (j : Int) := by omega
                  have hjn : (j : Int) < (n : Int) := by omega
                  go_wp2_with fail
                  refine ⟨⟨j, ?_, rfl, by omega, trivial⟩, by simp [intOf]⟩
                  rw [HStep.out]
                  congr 1
                  omega
      · have he : e = 9 := by omega
        have h2' : ¬ (e : Int) < 9 := by omega
        have h2'' : ((e : Int) == 9) = true := by rw [beq_iff_eq]; omega
        have hg := grp_long e l 0 0 HC.out (by omega)
        have HG := Lib.hid hg; have HE := Lib.hid he; clear hg he
        go_wp2_with fail
        exact bodyPost_ret (v := .tuple #[.int .u64 0, .int .i64 0, .int .i64 3]) (by simp [results, Tryz.results113, go_sem]) rfl ⟨(Fin.out (0, 0, 3) HG.out).1, rfl⟩
    · have h1' : ¬ (e : Int) < (n : Int) := by omega
      by_cases he : e = 9
      · have h2'' : ((e : Int) == 9) = true := by rw [beq_iff_eq]; omega
        have hg := grp_long e l 0 0 HC.out (by omega)
        have HG := Lib.hid hg; have HE := Lib.hid he; clear hg he
        go_wp2_with fail
        exact bodyPost_ret (v := .tuple #[.int .u64 0, .int .i64 0, .int .i64 3]) (by simp [results, Tryz.results113, go_sem]) rfl ⟨(Fin.out (0, 0, 3) HG.out).1, rfl⟩
      · have h2'' : ((e : Int) == 9) = false := by rw [beq_eq_false_iff_ne]; omega
        have h1'' : ((e : Int) == (n : Int)) = true := by rw [beq_iff_eq]; omega
        have hg := grp_short e l 0 0 HC.out (by rw [HLen.out]; omega) (by omega)
        have HG := Lib.hid hg; clear hg
        go_wp2_with fail
        exact bodyPost_ret (v := .tuple #[.int .u64 0, .int .i64 0, .int .i64 28]) (by simp [results, Tryz.results113, go_sem]) rfl ⟨(Fin.out (0, 0, 28) HG.out).1, rfl⟩

set_option maxRecDepth 100000 in
set_option maxHeartbeats 400000 in
theorem f174_any (A : Option Addr) (n c : Nat) (D : Nat → Prop) (l : List UInt8) (w : World) (hr : Rd w D 1 A n (l.map byteV)) (hn : n ≤ 1099511627776) :
    Calls Tryz.prog 90 #[.slice A n c] w fun e w' => e = .returned (.tuple #[.int .i64 (grp 0 0 l).1, .int .i64 (grp 0 0 l).2.1, .int .i64 (grp 0 0 l).2.2]) ∧ w = w' := by
  have hc := f217_any A n c D l w hr hn
  have hlt := grp_lt l 0 0 (by omega) (by simp)
  generalize hg : grp 0 0 l = g at hc hlt
  obtain ⟨g1, g2, g3⟩ := g
  simp only at hc hlt
  have HC := Lib.hid hc; clear hc hr hg
  go_enter Tryz.func90, Tryz.ntmps90
  go_wp2_with fail
  refine HC.out.mono ?_
  rintro e w1 ⟨rfl, rfl⟩
  go_wp2_with fail
  refine bodyPost_ret (v := .tuple #[.int .i64 g1, .int .i64 g2, .int .i64 g3]) (by simp [results, Tryz.results90, go_sem]) rfl ⟨rfl, rfl⟩

/-- What take returns: the number, or -1; and the rest. -/
def takeT (l : List UInt8) : Int × List UInt8 := if (grp 0 0 l).2.2 = 0 then ((grp 0 0 l).1, l.drop (grp 0 0 l).2.1) else (-1, [])
/-- What piece returns. -/
def pieceT (l : List UInt8) : List UInt8 × List UInt8 :=
  if (takeT l).1 < 0 ∨ ((takeT l).2.length : Int) < (takeT l).1 then ([], []) else ((takeT l).2.take (takeT l).1.toNat, (takeT l).2.drop (takeT l).1.toNat)
end Go.Proofs.YtkpmabknjdgkmaaGreatDoor

namespace Go.Proofs.YtkpmabknjdgkmaaGreatDoor
open Go.RowKit

theorem strB_drop (s : ByteArray) (k : Nat) : s.extract k s.size = strB ((bytesOf s).drop k) := by
  apply ByteArray.ext
  rw [ByteArray.data_extract]
  apply Array.toList_inj.1
  rw [Array.toList_extract]
  unfold strB bytesOf
  rw [List.extract_eq_take_drop]
  exact List.take_of_length_le (by rw [List.length_drop]; exact Nat.le_refl _)
theorem strB_take (s : ByteArray) (k : Nat) : s.extract 0 k = strB ((bytesOf s).take k) := by
  apply ByteArray.ext
  rw [ByteArray.data_extract]
  apply Array.toList_inj.1
  rw [Array.toList_extract]
  unfold strB bytesOf
  rw [List.extract_eq_take_drop]
  simp
theorem strB_size' (l : List UInt8) : (strB l).size = l.length := by simp [strB, ByteArray.size]
theorem strB_nil : strB [] = ⟨#[]⟩ := rfl

set_option maxRecDepth 100000 in
set_option maxHeartbeats 1000000 in
theorem f113_any (s : ByteArray) (w : World) (hs : s.size ≤ 1099511627776) :
    Calls Tryz.prog 64 #[.string s] w fun e w' => e = .returned (.tuple #[.int .i64 (takeT (bytesOf s)).1, .string (strB (takeT (bytesOf s)).2)]) ∧ Kpt Non w w' := by
  obtain ⟨c1, w1, hr1, hc1, hs1, hcell1, k1⟩ := toBytes (P := Tryz.prog) w 9 81 5 s Tryz.underlying9 Tryz.underlying81 Tryz.underlying5
  have hcl := cells_bytes hcell1
  have hlen := len_bytesOf s
  have hrd : Rd w1 (fun i => i = w.heap.size) 1 (some ⟨w.heap.size, 0, none⟩) s.size ((bytesOf s).map byteV) := ⟨by rw [List.length_map, hlen]; omega, fun _ => ⟨_, rfl, rfl, fun j u hu => hcl j u hu⟩⟩
  have e174 := f174_any (some ⟨w.heap.size, 0, none⟩) s.size c1 _ (bytesOf s) w1 hrd hs
  have hgs := grp_size (bytesOf s) 0 0
  have hT : takeT (bytesOf s) = if (grp 0 0 (bytesOf s)).2.2 = 0 then (((grp 0 0 (bytesOf s)).1 : Int), (bytesOf s).drop (grp 0 0 (bytesOf s)).2.1) else (-1, []) := rfl
  generalize takeT (bytesOf s) = T at hT ⊢
  generalize grp 0 0 (bytesOf s) = g at e174 hgs hT
  obtain ⟨g1, g2, g3⟩ := g
  simp only at e174 hgs hT
  have HE := Lib.hid e174; have K1 := Lib.hid k1; clear e174 hcl hcell1 hrd k1 hs1
  by_cases h0 : g3 = 0
  · subst h0
    rw [if_pos rfl] at hT
    subst hT
    have hg := (hgs rfl).1
    rw [hlen] at hg
    have hg1 : (g2 : Int) ≤ (s.size : Int) := by omega
    have hg0 : (0 : Int) ≤ (g2 : Int) := by omega
    clear hgs hlen
    go_enter Tryz.func64, Tryz.ntmps64
    go_wp2_with fail
    refine HE.out.mono ?_
    rintro e w2 ⟨rfl, rfl⟩
    go_wp2_with fail
    go_quiet (fail)
    go_wp2_with fail
    go_ret2
    exact ⟨by rw [strB_drop]; rfl, Kpt.drewN K1.out _⟩
  · rw [if_neg h0] at hT
    subst hT
    have h0' : (g3 != 0) = true := by rw [bne_iff_ne]; exact h0
    have H0 := Lib.hid h0; clear h0 hgs hlen
    go_enter Tryz.func64, Tryz.ntmps64
    go_wp2_with fail
    refine HE.out.mono ?_
    rintro e w2 ⟨rfl, rfl⟩
    go_wp2_with fail
    go_ret2
    exact ⟨rfl, K1.out⟩

set_option maxRecDepth 100000 in
set_option maxHeartbeats 1000000 in
theorem f114_any (s : ByteArray) (w : World) (hs : s.size ≤ 1099511627776) :
    Calls Tryz.prog 65 #[.string s] w fun e w' => e = .returned (.tuple #[.string (strB (pieceT (bytesOf s)).1), .string (strB (pieceT (bytesOf s)).2)]) ∧ Kpt Non w w' := by
  have E113 := f113_any s w hs
  have hP : pieceT (bytesOf s) = if (takeT (bytesOf s)).1 < 0 ∨ ((takeT (bytesOf s)).2.length : Int) < (takeT (bytesOf s)).1 then ([], []) else ((takeT (bytesOf s)).2.take (takeT (bytesOf s)).1.toNat, (takeT (bytesOf s)).2.drop (takeT (bytesOf s)).1.toNat) := rfl
  generalize pieceT (bytesOf s) = X at hP ⊢
  generalize takeT (bytesOf s) = T at hP E113
  obtain ⟨n, r⟩ := T
  simp only at hP E113
  obtain ⟨R, hR⟩ : ∃ R, strB r = R := ⟨_, rfl⟩
  have hRs : R.size = r.length := by rw [← hR]; exact strB_size' r
  have hRb : bytesOf R = r := by rw [← hR]; simp [strB, bytesOf]
  rw [hR] at E113
  have H113 := Lib.hid E113; have HRb := Lib.hid hRb; clear E113 hR hRb
  have HRs := Lib.hid hRs
  by_cases h1 : n < 0
  · rw [if_pos (.inl h1)] at hP
    subst hP
    clear hRs
    go_enter Tryz.func65, Tryz.ntmps65
    go_wp2_with fail
    refine H113.out.mono ?_
    rintro e w2 ⟨rfl, k2⟩
    have K2 := Lib.hid k2; clear k2
    go_wp2_with fail
    go_ret2
    exact ⟨rfl, K2.out⟩
  · by_cases h2 : (R.size : Int) < n
    · rw [if_pos (.inr (by rw [← hRs]; exact h2))] at hP
      subst hP
      clear hRs
      go_enter Tryz.func65, Tryz.ntmps65
      go_wp2_with fail
      refine H113.out.mono ?_
      rintro e w2 ⟨rfl, k2⟩
      have K2 := Lib.hid k2; clear k2
      go_wp2_with fail
      go_ret2
      exact ⟨rfl, K2.out⟩
    · rw [if_neg (by rw [← hRs]; omega)] at hP
      obtain ⟨m, rfl⟩ : ∃ m : Nat, n = m := ⟨n.toNat, by omega⟩
      rw [Int.toNat_natCast] at hP
      subst hP
      have h3 : (m : Int) ≤ (R.size : Int) := by omega
      clear hRs
      have h0 : (0 : Int) ≤ (m : Int) := by omega
      go_enter Tryz.func65, Tryz.ntmps65
      go_wp2_with fail
      refine H113.out.mono ?_
      rintro e w2 ⟨rfl, k2⟩
      have K2 := Lib.hid k2; clear k2
      go_wp2_with fail
      go_quiet (fail)
      go_wp2_with fail
      go_ret2
      exact ⟨by rw [strB_drop, strB_take, HRb.out]; rfl, Kpt.drewN K2.out _⟩
end Go.Proofs.YtkpmabknjdgkmaaGreatDoor

namespace Go.Proofs.YtkpmabknjdgkmaaGreatDoor
open Go.RowKit

theorem own_form {w : World} {base n : Nat} {e : TypeId} {v : Value} {xs : List Value} (h : w.ownsRow base e 1 v n xs) (hn : 0 < n) : ∃ g c, v = .slice (some ⟨g, 0, none⟩) n c := by
  obtain ⟨A, c, rfl, _, _⟩ := own_slice h
  obtain ⟨g, cap, hv, _, _⟩ := h.form hn
  exact ⟨g, _, hv⟩
theorem f108_s (s : ByteArray) (base : Nat) (w : World) (hs : s.size ≤ 1099511627776) (hbase : base ≤ w.heap.size) :
    Calls Tryz.prog 59 #[.string s] w fun e w' => ∃ g c, e = .returned (.slice (some ⟨g, 0, none⟩) (textB s).length c) ∧ w'.ownsRow base 5 1 (.slice (some ⟨g, 0, none⟩) (textB s).length c) (textB s).length ((textB s).map byteV) ∧ Kpt Non w w' := by
  refine (f108_any base s w hs hbase).mono ?_
  rintro e w' ⟨v, rfl, ho, k⟩
  obtain ⟨g, c, rfl⟩ := own_form ho (by
    have := natB_len_pos s.size
    rw [textB, List.length_append]; omega)
  exact ⟨g, c, rfl, ho, k⟩
theorem f107_s (u : Nat) (base : Nat) (w : World) (hu : u ≤ 1099511627776) (hbase : base ≤ w.heap.size) :
    Calls Tryz.prog 58 #[.int .u64 (u : Int)] w fun e w' => ∃ g c, e = .returned (.slice (some ⟨g, 0, none⟩) (natB u).length c) ∧ w'.ownsRow base 5 1 (.slice (some ⟨g, 0, none⟩) (natB u).length c) (natB u).length ((natB u).map byteV) ∧ Kpt Non w w' := by
  refine (f107_any base u w hu hbase).mono ?_
  rintro e w' ⟨v, rfl, ho, _, k⟩
  obtain ⟨g, c, rfl⟩ := own_form ho (natB_len_pos u)
  exact ⟨g, c, rfl, ho, k⟩

set_option maxRecDepth 100000 in
set_option maxHeartbeats 2000000 in
theorem f38_any (t : Tm) (v : Value) (D : Nat → Prop) (w : World) (hv : TmV w D t v) (ok : TmOk t) (hss : t.session.size ≤ 16777216) :
    Calls Tryz.prog 25 #[v] w fun e w' => e = .returned (.tuple #[.string (if chkT t = 0 then strB (encT t) else es), .int .i64 (chkT t)]) ∧ Kpt Non w w' := by
  have hbox : ∀ o, TmV (w.alloc o) D t v := fun o => by
    obtain ⟨A, c, h1, h2, h3, h4⟩ := hv
    exact ⟨A, c, h1, h2, h3, h4.alloc o⟩
  have E42 := fun o => f42_any t v D (w.alloc o) (hbox o) ok
  have H42 := Lib.hid E42; clear E42 hbox
  obtain ⟨A, c, rfl, hc1, hc2, hr⟩ := hv
  have HR := Lib.hid hr; clear hr
  obtain ⟨i0, hi, hz, hz0, hz1⟩ := info_parts info5
  have HI := Lib.hid hi; have HZ := Lib.hid hz; have HZ0 := Lib.hid hz0; have HZ1 := Lib.hid hz1; clear hi hz hz0 hz1
  by_cases h0 : chkT t = 0
  · obtain ⟨h1, h2, h3, h4, h5, h6⟩ := chkT_ok h0
    rw [h0] at H42 ⊢
    rw [if_pos rfl]
    have hle := linesErr_ok h4
    clear h2 h4 h5 h0 ok
    obtain ⟨ep, ss, ls, sc⟩ := t
    simp only at h1 h3 h6 hle hss HR H42 ⊢
    obtain ⟨u, rfl⟩ : ∃ u : Nat, ep = u := ⟨ep.toNat, by omega⟩
    have hu0 : (0 : Int) ≤ (u : Int) := by omega
    have hu1 : u ≤ 1073741824 := by omega
    have HLe := Lib.hid hle; clear hle h1
    have n1 := natB_len 4 u (by rw [show (128 : Nat) ^ (4 + 1) = 34359738368 by decide]; omega)
    have n2 := textB_len (s := ss) hss (by omega)
    have p1 := natB_len_pos u
    have hwu : IntKind.u64.wrap (u : Int) = (u : Int) := wrap_u64 u (by omega)
    have p2 : 0 < (textB ss).length := by
      have := natB_len_pos ss.size
      rw [textB, List.length_append]; omega
    go_enter Tryz.func25, Tryz.ntmps25
    go_wp2_with fail
    refine (H42.out _).mono ?_
    rintro e w1 ⟨rfl, k1⟩
    have hb := (Blk.new w 44 #[.int .i64 (u : Int), .string ss, .slice A ls.length c, .string sc]).kpt k1 (fun e => e)
    have hr1 := (HR.out.alloc (.cells #[.int .i64 (u : Int), .string ss, .slice A ls.length c, .string sc] 44)).kpt k1 (fun _ _ e => e)
    have kk1 : Kpt Non w w1 := Kpt.trans (Kpt.alloc (Kpt.refl _ _) _) k1 (fun _ e _ => e)
    have HB := Lib.hid hb; have HR1 := Lib.hid hr1; have KK1 := Lib.hid kk1; clear k1 hr1 hb kk1
    have hsw1 := KK1.out.size
    have hps : ∀ w', Kpt Non w1 w' → w'.cell? ⟨w.heap.size, 0, none⟩ = some (.int .i64 (u : Int)) ∧ w'.cell? ⟨w.heap.size, 1, none⟩ = some (.string ss) := fun w' k => ⟨((HB.out.kpt k (fun e => e)).cell 0), ((HB.out.kpt k (fun e => e)).cell 1)⟩
    have HPS := Lib.hid hps; clear hps
    go_wp2_with fail
    go_upto_region 4 with fail
    go_cut [5] (fun x5 wx => ∃ g' c', (.slice (some ⟨g', 0, none⟩) (natB u ++ textB ss).length c') = x5 ∧ Hid (wx.ownsRow w1.heap.size 5 1 (.slice (some ⟨g', 0, none⟩) (natB u ++ textB ss).length c') (natB u ++ textB ss).length ((natB u ++ textB ss).map byteV)) ∧ Hid (Kpt Non w1 wx))
    case first =>
      go_region_held3 (fun w' => w'.cell? ⟨w.heap.size, 0, none⟩ = some (.int .i64 (u : Int)) ∧ w'.cell? ⟨w.heap.size, 1, none⟩ = some (.string ss))
        (first | (refine HPS.out _ ?_; ((repeat (first | with_reducible exact Kpt.refl _ _ | with_reducible apply Kpt.alloc | with_reducible apply Kpt.drew | with_reducible apply Kpt.drewN | (refine Kpt.trans (S' := Non) ?_ (by first | assumption | (apply Lib.Hid.out; assumption)) (fun _ e _ => e)))); done)))
        (first
          | (go_at_call 58; refine (f107_s u w1.heap.size _ (by omega) (by first | exact Nat.le_refl _ | exact kT.size)).mono ?_; rintro e wN ⟨gN, cN, rfl, hoN, kN⟩; have HON := Lib.hid hoN; clear hoN)
          | (go_at_call 59; refine (f108_s ss w1.heap.size _ (by omega) (by first | exact Nat.le_refl _ | exact kN.size)).mono ?_; rintro e wT ⟨gT, cT, rfl, hoT, kT⟩; have HOT := Lib.hid hoT; clear hoT)
          | (refine step_append_lies _ (by rfl) _ _ _ (by rfl) w1.heap.size 5 i0 _ 1 1 Tryz.underlying81 HI.out HZ.out HZ0.out HZ1.out (by rfl) (by omega) (.slice (some ⟨gN, 0, none⟩) (natB u).length cN) _ _ (by rfl) (own_kpt HON.out kT (fun _ _ e => e)) ⟨gT, 0, none⟩ (textB ss).length cT ((textB ss).map byteV) (by rfl) (by simp) (own_cells HOT.out) (one_bytes _) p2 (by simp only [maxLen]; omega) (by omega) (by first | exact (Nat.le_trans kN.size kT.size) | exact (Nat.le_trans kT.size kN.size)) _ rfl ?_; intro g cap w3 hown hgrow hat hlt; have k3 : Kpt Non w1 w3 := (Kpt.trans (by ((repeat (first | with_reducible exact Kpt.refl _ _ | with_reducible apply Kpt.alloc | with_reducible apply Kpt.drew | with_reducible apply Kpt.drewN | (refine Kpt.trans (S' := Non) ?_ (by first | assumption | (apply Lib.Hid.out; assumption)) (fun _ e _ => e)))); done)) (Kpt.grown (Kpt.refl (fun i => gN = i) _) hgrow (fun k e _ => by simpa [Value.ownBlock] using e)) (fun i e hlt => by have := (HON.out.lt i (by rw [← (show gN = i from e)]; rfl)).1; omega)); have HO3 := Lib.hid hown; clear hown hgrow hat)
          | (refine step_append_lies _ (by rfl) _ _ _ (by rfl) w1.heap.size 5 i0 _ 1 1 Tryz.underlying81 HI.out HZ.out HZ0.out HZ1.out (by rfl) (by omega) (.slice (some ⟨gN, 0, none⟩) (natB u).length cN) _ _ (by rfl) HON.out ⟨gT, 0, none⟩ (textB ss).length cT ((textB ss).map byteV) (by rfl) (by simp) (own_cells (own_kpt HOT.out kN (fun _ _ e => e))) (one_bytes _) p2 (by simp only [maxLen]; omega) (by omega) (by first | exact (Nat.le_trans kN.size kT.size) | exact (Nat.le_trans kT.size kN.size)) _ rfl ?_; intro g cap w3 hown hgrow hat hlt; have k3 : Kpt Non w1 w3 := (Kpt.trans (by ((repeat (first | with_reducible exact Kpt.refl _ _ | with_reducible apply Kpt.alloc | with_reducible apply Kpt.drew | with_reducible apply Kpt.drewN | (refine Kpt.trans (S' := Non) ?_ (by first | assumption | (apply Lib.Hid.out; assumption)) (fun _ e _ => e)))); done)) (Kpt.grown (Kpt.refl (fun i => gN = i) _) hgrow (fun k e _ => by simpa [Value.ownBlock] using e)) (fun i e hlt => by have := (HON.out.lt i (by rw [← (show gN = i from e)]; rfl)).1; omega)); have HO3 := Lib.hid hown; clear hown hgrow hat)
          | fail)
      all_goals (go_wp2_with fail; go_meet)
      all_goals exact ⟨g, cap, by rw [List.length_append], Lib.hid (by simpa using HO3.out), Lib.hid k3⟩
    case rest =>
      obtain ⟨g0, c0, rfl, HO, HK⟩ := hcut
      have hstep : ∀ (wa wb : World) (v : Value) (B : List UInt8), wa.ownsRow w1.heap.size 5 1 v B.length (B.map byteV) → Kpt Non w1 wa → wa.grownBy wb v.ownBlock → Kpt Non w1 wb := fun wa wb v B ho k hg =>
        Kpt.trans k (Kpt.grown (Kpt.refl (fun i => v.ownBlock = some i) _) hg (fun _ e _ => e)) (fun i e hlt => by have := (ho.lt i e).1; omega)
      have HStep := Lib.hid hstep; clear hstep
      have n3 := natB_len 4 ls.length (by rw [show (128 : Nat) ^ (4 + 1) = 34359738368 by decide]; omega)
      have n4 := textB_len (s := sc) h6 (by omega)
      have p3 := natB_len_pos ls.length
      have p4 : 0 < (textB sc).length := by
        have := natB_len_pos sc.size
        rw [textB, List.length_append]; omega
      have hwl : IntKind.u64.wrap (ls.length : Int) = (ls.length : Int) := wrap_u64 ls.length (by omega)
      obtain ⟨B0, hB0⟩ : ∃ B0, natB u ++ textB ss = B0 := ⟨_, rfl⟩
      have hB0l : B0.length ≤ 16777300 := by rw [← hB0, List.length_append]; omega
      rw [hB0] at HO
      simp only [hB0]
      have HB0 := Lib.hid hB0; clear hB0 n1 n2 p1 p2 hwu
      have hb2 := (HB.out.kpt HK.out (fun e => e)).cell 2
      simp only [List.getElem?_toArray, List.getElem?_cons_zero, List.getElem?_cons_succ] at hb2
      go_wp2_with fail
      refine (f107_s ls.length w1.heap.size _ (by omega) HK.out.size).mono ?_
      rintro e w2 ⟨g2, c2', rfl, ho2, k2⟩
      have HO2 := Lib.hid ho2; have HOa := Lib.hid (own_kpt HO.out k2 (fun _ _ e => e)); have HK2 := Lib.hid (Kpt.trans HK.out k2 (fun _ e _ => e)); clear ho2 k2
      go_wp2_with (refine wpList_append_own_at _ rfl _ _ 81 rfl w1.heap.size 5 i0 _ 1 1 Tryz.underlying81 HI.out HZ.out HZ0.out HZ1.out (by rfl) (by omega) _ _ _ rfl HOa.out ⟨g2, 0, none⟩ (natB ls.length).length c2' ((natB ls.length).map byteV) rfl (by simp) (own_cells HO2.out) (one_bytes _) (by simp only [maxLen]; omega) (by omega) HK2.out.size ?_; intro v3 w3 ho3 hg3 _ _; have HO3 := Lib.hid ho3; have HG3 := Lib.hid hg3; clear ho3 hg3)
      have HK3 := Lib.hid (HStep.out _ _ _ _ HOa.out HK2.out HG3.out)
      go_loopw [5, 6] (fun x5 x6 wr => ∃ (k : Nat) (ov : Value) (B : List UInt8), ov = x5 ∧ x6 = .int .i64 k ∧ k ≤ ls.length ∧ Hid (B = B0 ++ natB ls.length ++ (ls.take k).flatMap textB) ∧ B.length ≤ 16777310 + k * 1029 ∧ Hid (wr.ownsRow w1.heap.size 5 1 ov B.length (B.map byteV)) ∧ Hid (Kpt Non w1 wr)) (fun _ x6 _ => ls.length - (intOf x6).toNat)
      case atStart => exact ⟨0, _, B0 ++ natB ls.length, rfl, rfl, Nat.zero_le _, Lib.hid (by simp), by rw [List.length_append]; omega, Lib.hid (by simpa using HO3.out), HK3⟩
      case round =>
        obtain ⟨k, ov, B, rfl, rfl, hk, HBe, hBl, HOv, HKr⟩ := hrel
        have hd2 := (HB.out.kpt HKr.out (fun e => e)).cell 2
        have hd3 := (HB.out.kpt HKr.out (fun e => e)).cell 3
        simp only [List.getElem?_toArray, List.getElem?_cons_zero, List.getElem?_cons_succ] at hd2 hd3
        by_cases hkl : k < ls.length
        · have hkl' : (k : Int) < (ls.length : Int) := by omega
          obtain ⟨ad, x, rfl, _, hx, hcell⟩ := (HR1.out.kpt HKr.out (fun _ _ e => e)).at_ hkl
          rw [List.getElem?_map] at hx
          obtain ⟨y, hy, rfl⟩ := Option.map_eq_some_iff.1 hx
          clear hx
          have hy1 := lineErr_ok (HLe.out y (List.mem_of_getElem? hy))
          have hyl := textB_len (s := y) hy1 (by omega)
          have HY := Lib.hid (bflatL hy); clear hy
          go_wp2_with fail
          refine (f108_s y w1.heap.size _ (by omega) HKr.out.size).mono ?_
          rintro e w4 ⟨g4, c4, rfl, ho4, k4⟩
          have HO4 := Lib.hid ho4; have HOb := Lib.hid (own_kpt HOv.out k4 (fun _ _ e => e)); have HK4 := Lib.hid (Kpt.trans HKr.out k4 (fun _ e _ => e)); clear ho4 k4
          go_wp2_with (refine wpList_append_own_at _ rfl _ _ 81 rfl w1.heap.size 5 i0 _ 1 1 Tryz.underlying81 HI.out HZ.out HZ0.out HZ1.out (by rfl) (by omega) _ _ _ rfl HOb.out ⟨g4, 0, none⟩ (textB y).length c4 ((textB y).map byteV) rfl (by simp) (own_cells HO4.out) (one_bytes _) (by simp only [maxLen]; omega) (by omega) HK4.out.size ?_; intro v5 w5 ho5 hg5 _ _; have HO5 := Lib.hid ho5; have HG5 := Lib.hid hg5; clear ho5 hg5)
          refine ⟨⟨k + 1, v5, B ++ textB y, rfl, by go_num, by omega, Lib.hid (by rw [HBe.out, HY.out]; simp), by rw [List.length_append]; omega, Lib.hid (by simpa using HO5.out), Lib.hid (HStep.out _ _ _ _ HOb.out HK4.out HG5.out)⟩, by simp [intOf]; omega⟩
        · have hkl' : ¬ (k : Int) < (ls.length : Int) := by omega
          have hke : k = ls.length := by omega
          have hE : B ++ textB sc = encT ⟨(u : Int), ss, ls, sc⟩ := by
            rw [HBe.out, hke, List.take_length, ← HB0.out]
            simp [encT]
          have HE := Lib.hid hE; clear hE hke
          go_wp2_with fail
          refine (f108_s sc w1.heap.size _ (by omega) HKr.out.size).mono ?_
          rintro e w4 ⟨g4, c4, rfl, ho4, k4⟩
          have HO4 := Lib.hid ho4; have HOb := Lib.hid (own_kpt HOv.out k4 (fun _ _ e => e)); have HK4 := Lib.hid (Kpt.trans HKr.out k4 (fun _ e _ => e)); clear ho4 k4
          go_wp2_with (refine wpList_append_own_at _ rfl _ _ 81 rfl w1.heap.size 5 i0 _ 1 1 Tryz.underlying81 HI.out HZ.out HZ0.out HZ1.out (by rfl) (by omega) _ _ _ rfl HOb.out ⟨g4, 0, none⟩ (textB sc).length c4 ((textB sc).map byteV) rfl (by simp) (own_cells HO4.out) (one_bytes _) (by simp only [maxLen]; omega) (by omega) HK4.out.size ?_; intro v5 w5 ho5 hg5 _ _; obtain ⟨g5, c5, rfl⟩ := own_form ho5 (by omega); have hcv := conv_bytes (l := B ++ textB sc) (n := B.length + (textB sc).length) (c := c5) (ad := ⟨g5, 0, none⟩) (D := fun _ => True) (w := w5) (by rw [List.length_append]) (by rw [List.map_append]; exact (Rd.of_own ho5).more (fun _ _ => trivial)); have HG5 := Lib.hid hg5; clear ho5 hg5)
          go_ret2
          exact ⟨by rw [HE.out]; rfl, Kpt.trans KK1.out (HStep.out _ _ _ _ HOb.out HK4.out HG5.out) (fun _ e _ => e)⟩
  · rw [if_neg h0]
    obtain ⟨ck, hck⟩ : ∃ ck, chkT t = ck := ⟨_, rfl⟩
    rw [hck] at H42 h0 ⊢
    have h0' : (ck != 0) = true := by rw [bne_iff_ne]; exact h0
    have H0 := Lib.hid h0; clear h0 hck ok
    go_enter Tryz.func25, Tryz.ntmps25
    go_wp2_with fail
    refine (H42.out _).mono ?_
    rintro e w1 ⟨rfl, k1⟩
    have K1 := Lib.hid k1; clear k1
    go_wp2_with fail
    go_ret2
    exact ⟨rfl, Kpt.trans (Kpt.alloc (Kpt.refl _ _) _) K1.out (fun _ e _ => e)⟩
end Go.Proofs.YtkpmabknjdgkmaaGreatDoor
