/- The reference's take and piece. No condition but that sizes fit the machine. -/
import Derived.Test.YtkpmabknjdgkmaaGreatDoorRef4
import Derived.Deep.QuietTactic
import Derived.BigQuiet
namespace Go.Proofs.YtkpmabknjdgkmaaGreatDoor
open Go.RowKit

theorem strB_drop (s : ByteArray) (k : Nat) : s.extract k s.size = strB ((bytesOf s).drop k) := by
  apply ByteArray.ext
  rw [ByteArray.data_extract]
  apply Array.toList_inj.1
  rw [Array.toList_extract]
  unfold strB bytesOf
  rw [List.extract_eq_take_drop]
  exact List.take_of_length_le (by rw [List.length_drop]; exact Nat.le_refl _)
theorem strB_take (s : ByteArray) (k : Nat) : s.extract 0 k = strB ((bytesOf s).take k) := by
  apply ByteArray.ext
  rw [ByteArray.data_extract]
  apply Array.toList_inj.1
  rw [Array.toList_extract]
  unfold strB bytesOf
  rw [List.extract_eq_take_drop]
  simp
theorem strB_size' (l : List UInt8) : (strB l).size = l.length := by simp [strB, ByteArray.size]
theorem strB_nil : strB [] = ⟨#[]⟩ := rfl

set_option maxRecDepth 100000 in
set_option maxHeartbeats 1000000 in
theorem f113_any (s : ByteArray) (w : World) (hs : s.size ≤ 1099511627776) :
    Calls Tryz.prog 64 #[.string s] w fun e w' => e = .returned (.tuple #[.int .i64 (takeT (bytesOf s)).1, .string (strB (takeT (bytesOf s)).2)]) ∧ Kpt Non w w' := by
  obtain ⟨c1, w1, hr1, hc1, hs1, hcell1, k1⟩ := toBytes (P := Tryz.prog) w 9 81 5 s Tryz.underlying9 Tryz.underlying81 Tryz.underlying5
  have hcl := cells_bytes hcell1
  have hlen := len_bytesOf s
  have hrd : Rd w1 (fun i => i = w.heap.size) 1 (some ⟨w.heap.size, 0, none⟩) s.size ((bytesOf s).map byteV) := ⟨by rw [List.length_map, hlen]; omega, fun _ => ⟨_, rfl, rfl, fun j u hu => hcl j u hu⟩⟩
  have e174 := f174_any (some ⟨w.heap.size, 0, none⟩) s.size c1 _ (bytesOf s) w1 hrd hs
  have hgs := grp_size (bytesOf s) 0 0
  have hT : takeT (bytesOf s) = if (grp 0 0 (bytesOf s)).2.2 = 0 then (((grp 0 0 (bytesOf s)).1 : Int), (bytesOf s).drop (grp 0 0 (bytesOf s)).2.1) else (-1, []) := rfl
  generalize takeT (bytesOf s) = T at hT ⊢
  generalize grp 0 0 (bytesOf s) = g at e174 hgs hT
  obtain ⟨g1, g2, g3⟩ := g
  simp only at e174 hgs hT
  have HE := Lib.hid e174; have K1 := Lib.hid k1; clear e174 hcl hcell1 hrd k1 hs1
  by_cases h0 : g3 = 0
  · subst h0
    rw [if_pos rfl] at hT
    subst hT
    have hg := (hgs rfl).1
    rw [hlen] at hg
    have hg1 : (g2 : Int) ≤ (s.size : Int) := by omega
    have hg0 : (0 : Int) ≤ (g2 : Int) := by omega
    clear hgs hlen
    go_enter Tryz.func64, Tryz.ntmps64
    go_wp2_with fail
    refine HE.out.mono ?_
    rintro e w2 ⟨rfl, rfl⟩
    go_wp2_with fail
    go_quiet (fail)
    go_wp2_with fail
    go_ret2
    exact ⟨by rw [strB_drop]; rfl, Kpt.drewN K1.out _⟩
  · rw [if_neg h0] at hT
    subst hT
    have h0' : (g3 != 0) = true := by rw [bne_iff_ne]; exact h0
    have H0 := Lib.hid h0; clear h0 hgs hlen
    go_enter Tryz.func64, Tryz.ntmps64
    go_wp2_with fail
    refine HE.out.mono ?_
    rintro e w2 ⟨rfl, rfl⟩
    go_wp2_with fail
    go_ret2
    exact ⟨rfl, K1.out⟩

set_option maxRecDepth 100000 in
set_option maxHeartbeats 1000000 in
theorem f114_any (s : ByteArray) (w : World) (hs : s.size ≤ 1099511627776) :
    Calls Tryz.prog 65 #[.string s] w fun e w' => e = .returned (.tuple #[.string (strB (pieceT (bytesOf s)).1), .string (strB (pieceT (bytesOf s)).2)]) ∧ Kpt Non w w' := by
  have E113 := f113_any s w hs
  have hP : pieceT (bytesOf s) = if (takeT (bytesOf s)).1 < 0 ∨ ((takeT (bytesOf s)).2.length : Int) < (takeT (bytesOf s)).1 then ([], []) else ((takeT (bytesOf s)).2.take (takeT (bytesOf s)).1.toNat, (takeT (bytesOf s)).2.drop (takeT (bytesOf s)).1.toNat) := rfl
  generalize pieceT (bytesOf s) = X at hP ⊢
  generalize takeT (bytesOf s) = T at hP E113
  obtain ⟨n, r⟩ := T
  simp only at hP E113
  obtain ⟨R, hR⟩ : ∃ R, strB r = R := ⟨_, rfl⟩
  have hRs : R.size = r.length := by rw [← hR]; exact strB_size' r
  have hRb : bytesOf R = r := by rw [← hR]; simp [strB, bytesOf]
  rw [hR] at E113
  have H113 := Lib.hid E113; have HRb := Lib.hid hRb; clear E113 hR hRb
  have HRs := Lib.hid hRs
  by_cases h1 : n < 0
  · rw [if_pos (.inl h1)] at hP
    subst hP
    clear hRs
    go_enter Tryz.func65, Tryz.ntmps65
    go_wp2_with fail
    refine H113.out.mono ?_
    rintro e w2 ⟨rfl, k2⟩
    have K2 := Lib.hid k2; clear k2
    go_wp2_with fail
    go_ret2
    exact ⟨rfl, K2.out⟩
  · by_cases h2 : (R.size : Int) < n
    · rw [if_pos (.inr (by rw [← hRs]; exact h2))] at hP
      subst hP
      clear hRs
      go_enter Tryz.func65, Tryz.ntmps65
      go_wp2_with fail
      refine H113.out.mono ?_
      rintro e w2 ⟨rfl, k2⟩
      have K2 := Lib.hid k2; clear k2
      go_wp2_with fail
      go_ret2
      exact ⟨rfl, K2.out⟩
    · rw [if_neg (by rw [← hRs]; omega)] at hP
      obtain ⟨m, rfl⟩ : ∃ m : Nat, n = m := ⟨n.toNat, by omega⟩
      rw [Int.toNat_natCast] at hP
      subst hP
      have h3 : (m : Int) ≤ (R.size : Int) := by omega
      clear hRs
      have h0 : (0 : Int) ≤ (m : Int) := by omega
      go_enter Tryz.func65, Tryz.ntmps65
      go_wp2_with fail
      refine H113.out.mono ?_
      rintro e w2 ⟨rfl, k2⟩
      have K2 := Lib.hid k2; clear k2
      go_wp2_with fail
      go_quiet (fail)
      go_wp2_with fail
      go_ret2
      exact ⟨by rw [strB_drop, strB_take, HRb.out]; rfl, Kpt.drewN K2.out _⟩
end Go.Proofs.YtkpmabknjdgkmaaGreatDoor
