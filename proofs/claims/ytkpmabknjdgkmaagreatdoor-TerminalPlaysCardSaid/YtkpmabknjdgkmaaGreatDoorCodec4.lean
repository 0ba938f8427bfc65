/- codec's groups and Parse. -/
import Derived.Test.YtkpmabknjdgkmaaGreatDoorCodec3
import Derived.Laws.BitsAllLaws
namespace Go.Proofs.YtkpmabknjdgkmaaGreatDoor
open Go.RowKit

/-- The number at the beginning of bytes with at most nine groups: the number, its length, the error. -/
def grp (i u : Nat) : List UInt8 → Nat × Nat × Int
  | [] => (0, 0, if 9 ≤ i then 3 else 28)
  | c :: l => if i = 9 then (0, 0, 3) else
    if c.toNat < 128 then (if c.toNat = 0 ∧ 0 < i then (0, 0, 3) else (u + c.toNat % 128 * 128 ^ i, i + 1, 0)) else grp (i + 1) (u + c.toNat % 128 * 128 ^ i) l

theorem or_mul (a b i m : Nat) (hm : m = 2 ^ i) (h : a < m) : a ||| (b * m) = b * m + a := by
  subst hm
  rw [Nat.or_comm, ← Nat.shiftLeft_eq, Nat.shiftLeft_add_eq_or_of_lt h]
theorem pow128 (i : Nat) : 128 ^ i = 2 ^ (7 * i) := by rw [Nat.pow_mul]
theorem pow128_le {i : Nat} (h : i < 9) : 128 * 128 ^ i ≤ 9223372036854775808 := by
  have h1 : 128 * 128 ^ i = 128 ^ (i + 1) := by rw [Nat.pow_succ]; omega
  rw [h1, show (9223372036854775808 : Nat) = 128 ^ 9 by decide]
  exact Nat.pow_le_pow_right (by decide) (by omega)

set_option maxRecDepth 100000 in
theorem and127_fin : ∀ x : Fin 256, bits .and .u8 (x.val : Int) 127 = (x.val % 128 : Nat) := by decide
theorem and127 (b : UInt8) : bits .and .u8 (b.toNat : Int) 127 = ((b.toNat % 128 : Nat) : Int) := and127_fin ⟨b.toNat, UInt8.toNat_lt b⟩
theorem wrap_u64 (z : Nat) (h : z < 18446744073709551616) : IntKind.u64.wrap (z : Int) = z := by
  simp only [IntKind.wrap, IntKind.bits, IntKind.signed]
  simp only [Bool.false_and, Bool.false_eq_true, if_false]
  omega
theorem or_group (m k : Nat) (b : UInt8) (hk : k < 9) (hm : m < 128 ^ k) :
    bits .or .u64 (m : Int) (IntKind.u64.wrap (IntKind.u64.wrap (bits .and .u8 (b.toNat : Int) 127) * 2 ^ (7 * k))) = ((m + b.toNat % 128 * 128 ^ k : Nat) : Int) := by
  have hp := pow128_le hk
  have hx : b.toNat % 128 < 128 := Nat.mod_lt _ (by decide)
  have hmul : b.toNat % 128 * 128 ^ k ≤ 127 * 128 ^ k := Nat.mul_le_mul_right _ (by omega)
  have hpos : 0 < 128 ^ k := Nat.pos_of_ne_zero (by simp)
  have h1 : b.toNat % 128 * 128 ^ k + 128 ^ k ≤ 9223372036854775808 := by omega
  rw [and127, wrap_u64 _ (by omega)]
  rw [show (((b.toNat % 128 : Nat) : Int) * 2 ^ (7 * k)) = ((b.toNat % 128 * 128 ^ k : Nat) : Int) by rw [pow128]; push_cast; rfl]
  rw [wrap_u64 _ (by omega)]
  rw [u64_or_nat _ _ (by omega) (by omega), or_mul m _ (7 * k) (128 ^ k) (pow128 k) hm]
  congr 1
  omega

set_option maxRecDepth 100000 in
set_option maxHeartbeats 2000000 in
theorem f216_any (A : Option Addr) (n c : Nat) (D : Nat → Prop) (l : List UInt8) (w : World) (hr : Rd w D 1 A n (l.map byteV)) (_hn : n ≤ maxLen) :
    Calls Tryz.prog 112 #[.slice A n c, .int .i64 9] w fun e w' => e = .returned (.tuple #[.int .u64 (grp 0 0 l).1, .int .i64 (grp 0 0 l).2.1, .int .i64 (grp 0 0 l).2.2]) ∧ w = w' := by
  have hl : l.length = n := by have := hr.1; simpa using this
  unfold maxLen at _hn
  have HL := Lib.hid hl; clear hl
  have HR := Lib.hid hr; clear hr
  go_enter Tryz.func112, Tryz.ntmps112
  go_wp2_with fail
  go_loopw [7, 8, 9, 12] (fun u i c x wr => ∃ (k : Nat) (m : Nat), x = .int .i64 (k : Int) ∧ u = .int .u64 (m : Int) ∧ k ≤ n ∧ k ≤ 9 ∧ m < 128 ^ k ∧ Hid (grp 0 0 l = grp k m (l.drop k)) ∧ wr = w) (fun _ _ _ x _ => n - (intOf x).toNat)
  case atStart =>
    exact ⟨0, 0, rfl, rfl, Nat.zero_le _, by omega, by simp, Lib.hid (by simp), rfl⟩
  case round =>
    obtain ⟨k, m, rfl, rfl, hk, hk9, hm, HG, rfl⟩ := hrel
    by_cases h1 : k < n
    · have h1' : (k : Int) < (n : Int) := by omega
      obtain ⟨ad, u, rfl, _, hu, hcell⟩ := (HR.out).at_ h1
      rw [List.getElem?_map] at hu
      obtain ⟨b, hb, rfl⟩ := Option.map_eq_some_iff.1 hu
      clear hu
      have hd : l.drop k = b :: l.drop (k + 1) := List.drop_eq_getElem?_toList_append.trans (by rw [hb]; rfl)
      have HB := Lib.hid hb; have HD := Lib.hid hd; clear hb hd
      unfold byteV at hcell
      have hb256 : b.toNat < 256 := UInt8.toNat_lt b
      by_cases h9 : k = 9
      · have h9' : ((k : Int) == 9) = true := by simp; omega
        have hg : grp 0 0 l = (0, 0, 3) := by rw [HG.out, HD.out, grp, if_pos h9]
        have HGG := Lib.hid hg; clear hg
        have H9 := Lib.hid h9; clear h9
        go_wp2_with fail
        refine bodyPost_ret (v := .tuple #[.int .u64 0, .int .i64 0, .int .i64 3]) (by simp [results, Tryz.results112, go_sem]) rfl ⟨by rw [HGG.out]; rfl, rfl⟩
      · have h9' : ((k : Int) == 9) = false := by simp; omega
        by_cases h128 : b.toNat < 128
        · have h128' : (b.toNat : Int) < 128 := by omega
          by_cases h0 : b.toNat = 0 ∧ 0 < k
          · have h0' : ((b.toNat : Int) == 0) = true := by rw [beq_iff_eq]; omega
            have h0'' : ((0 : Int) < (k : Int)) := by omega
            have hg : grp 0 0 l = (0, 0, 3) := by rw [HG.out, HD.out, grp, if_neg h9, if_pos h128, if_pos h0]
            have HGG := Lib.hid hg; clear hg
            have H0 := Lib.hid h0; clear h0
            go_wp2_with fail
            refine bodyPost_ret (v := .tuple #[.int .u64 0, .int .i64 0, .int .i64 3]) (by simp [results, Tryz.results112, go_sem]) rfl ⟨by rw [HGG.out]; rfl, rfl⟩
          · have hg : grp 0 0 l = (m + b.toNat % 128 * 128 ^ k, k + 1, 0) := by rw [HG.out, HD.out, grp, if_neg h9, if_pos h128, if_neg h0]
            have HGG := Lib.hid hg; clear hg
            have hor := or_group m k b (by omega) hm
            have HOR := Lib.hid hor; clear hor
            have H0 := Lib.hid h0
            by_cases hb0 : b.toNat = 0
            · have hk0 : ¬ (0 : Int) < (k : Int) := by omega
              have hb0' : ((b.toNat : Int) == 0) = true := by rw [beq_iff_eq]; omega
              have HB0 := Lib.hid hb0; clear hb0 h0
              go_wp2_with fail
              refine bodyPost_ret (v := .tuple #[.int .u64 ((m + b.toNat % 128 * 128 ^ k : Nat) : Int), .int .i64 ((k : Int) + 1), .int .i64 0]) (by simp only [results, Tryz.results112, go_sem, HOR.out]; simp [go_sem]) rfl ⟨by rw [HGG.out]; simp, rfl⟩
            · have hb0' : ((b.toNat : Int) == 0) = false := by rw [beq_eq_false_iff_ne]; omega
              have HB0 := Lib.hid hb0; clear hb0 h0
              go_wp2_with fail
              refine bodyPost_ret (v := .tuple #[.int .u64 ((m + b.toNat % 128 * 128 ^ k : Nat) : Int), .int .i64 ((k : Int) + 1), .int .i64 0]) (by simp only [results, Tryz.results112, go_sem, HOR.out]; simp [go_sem]) rfl ⟨by rw [HGG.out]; simp, rfl⟩
        · have h128' : ¬ (b.toNat : Int) < 128 := by omega
          have hor := or_group m k b (by omega) hm
          have HOR := Lib.hid hor; clear hor
          have hg : grp 0 0 l = grp (k + 1) (m + b.toNat % 128 * 128 ^ k) (l.drop (k + 1)) := by rw [HG.out, HD.out, grp, if_neg h9, if_neg h128]
          have HGG := Lib.hid hg; clear hg
          go_wp2_with fail
          refine ⟨⟨k + 1, m + b.toNat % 128 * 128 ^ k, by go_num, by rw [HOR.out], by omega, by omega, ?_, HGG, trivial⟩, by simp [intOf]; omega⟩
          have hx : b.toNat % 128 < 128 := Nat.mod_lt _ (by decide)
          have hmul : b.toNat % 128 * 128 ^ k ≤ 127 * 128 ^ k := Nat.mul_le_mul_right _ (by omega)
          rw [Nat.pow_succ]
          omega
    · have h1' : decide ((k : Int) < (n : Int)) = false := by simp; omega
      have hd : l.drop k = [] := List.drop_eq_nil_of_le (by rw [HL.out]; omega)
      by_cases h9 : 9 ≤ n
      · have h9' : (9 : Int) ≤ (n : Int) := by omega
        have hg : grp 0 0 l = (0, 0, 3) := by rw [HG.out, hd, grp, if_pos (by omega)]
        have HGG := Lib.hid hg; clear hg hd
        go_wp2_with fail
        refine bodyPost_ret (v := .tuple #[.int .u64 0, .int .i64 0, .int .i64 3]) (by simp [results, Tryz.results112, go_sem]) rfl ⟨by rw [HGG.out]; rfl, rfl⟩
      · have h9' : ¬ (9 : Int) ≤ (n : Int) := by omega
        have hg : grp 0 0 l = (0, 0, 28) := by rw [HG.out, hd, grp, if_neg (by omega)]
        have HGG := Lib.hid hg; clear hg hd
        go_wp2_with fail
        refine bodyPost_ret (v := .tuple #[.int .u64 0, .int .i64 0, .int .i64 28]) (by simp [results, Tryz.results112, go_sem]) rfl ⟨by rw [HGG.out]; rfl, rfl⟩
end Go.Proofs.YtkpmabknjdgkmaaGreatDoor
