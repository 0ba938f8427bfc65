/- The reference's codec: the walks of Natural, Text, groups and Parse of package replevinref01. No condition but that sizes fit the machine. -/
import Derived.Test.YtkpmabknjdgkmaaGreatDoorCodec4
import Derived.IntWalk
namespace Go.Proofs.YtkpmabknjdgkmaaGreatDoor
open Go.RowKit

theorem natB_len' (u : Nat) (h : u < 128 ^ 9) : (natB u).length ≤ 9 := by
  have : ∀ (k u : Nat), u < 128 ^ (k + 1) → (natB u).length ≤ k + 1 := by
    intro k
    induction k with
    | zero => intro u h; rw [natB_small (by simpa using h)]; simp
    | succ k ih =>
      intro u h
      by_cases h1 : u < 128
      · rw [natB_small h1]; simp
      · rw [natB_big h1, List.length_cons]
        have := ih (u / 128) (by rw [Nat.pow_succ] at h; omega)
        omega
  exact this 8 u h

set_option maxRecDepth 100000 in
set_option maxHeartbeats 1000000 in
theorem f107_any (base u : Nat) (w : World) (hu : u ≤ 1099511627776) (hbase : base ≤ w.heap.size) :
    Calls Tryz.prog 58 #[.int .u64 (u : Int)] w fun e w' => ∃ v, e = .returned v ∧ w'.ownsRow base 5 1 v (natB u).length ((natB u).map byteV) ∧ (∀ k, v.ownBlock = some k → w.heap.size ≤ k) ∧ Kpt Non w w' := by
  obtain ⟨i0, hi, hz, hz0, hz1⟩ := info_parts info5
  have HI := Lib.hid hi; have HZ := Lib.hid hz; have HZ0 := Lib.hid hz0; have HZ1 := Lib.hid hz1; clear hi hz hz0 hz1
  go_enter Tryz.func58, Tryz.ntmps58
  go_wp2_with fail
  go_loopw [0, 3] (fun x v wr => ∃ (u' : Nat) (pre : List UInt8), x = .int .u64 (u' : Int) ∧ pre.length + u' ≤ u ∧ Hid (natB u = pre ++ natB u') ∧ Hid (wr.ownsRow w.heap.size 5 1 v pre.length (pre.map byteV)) ∧ Hid (Kpt Non w wr)) (fun x _ _ => (intOf x).toNat)
  case atStart =>
    exact ⟨u, [], rfl, by simp, Lib.hid rfl, Lib.hid (World.ownsRow_nil _ _ _ _), Lib.hid (Kpt.refl _ _)⟩
  case round =>
    obtain ⟨u', pre, rfl, hle, HN, HO, HK⟩ := hrel
    have hsz := HK.out.size
    by_cases h : (128 : Int) ≤ (u' : Int)
    · go_wp2_with (refine wpList_append_own _ rfl _ _ 81 rfl w.heap.size 5 i0 _ 1 1 Tryz.underlying81 HI.out HZ.out HZ0.out HZ1.out (by rfl) (by omega) _ pre.length _ rfl (HO.out.alloc _) ⟨wr.heap.size, 0, none⟩ 1 1 [.int .u8 (((u' % 128 + 128 : Nat) : Int))] rfl rfl (cell_one_new _ _ _) (by simp [Value.oneCell']) (by simp only [maxLen]; omega) (by omega) (by simp; omega) ?_; intro v' w1 ho hg _; have HO1 := Lib.hid ho; have HG1 := Lib.hid hg; clear ho hg)
      refine ⟨⟨u' / 128, pre ++ [UInt8.ofNat (u' % 128 + 128)], by simp, by simp; omega, Lib.hid ?_, Lib.hid ?_, Lib.hid ?_⟩, by simp [intOf]; omega⟩
      · rw [HN.out, natB_big (by omega)]; simp
      · have := HO1.out
        rw [← byteV_ofNat (by omega)] at this
        simp only [List.length_append, List.length_singleton, List.map_append, List.map_cons, List.map_nil]
        exact this
      · exact Kpt.app (Kpt.alloc HK.out _) HG1.out (fun k hk => (HO.out.lt k hk).1)
    · have h' : (u' : Int) < 128 := by omega
      go_wp2_with (refine wpList_append_own _ rfl _ _ 81 rfl w.heap.size 5 i0 _ 1 1 Tryz.underlying81 HI.out HZ.out HZ0.out HZ1.out (by rfl) (by omega) _ pre.length _ rfl (HO.out.alloc _) ⟨wr.heap.size, 0, none⟩ 1 1 [.int .u8 (u' : Int)] rfl rfl (cell_one_new _ _ _) (by simp [Value.oneCell']) (by simp only [maxLen]; omega) (by omega) (by simp; omega) ?_; intro v' w1 ho hg _; have HO1 := Lib.hid ho; have HG1 := Lib.hid hg; clear ho hg)
      go_ret
      have hn : natB u = pre ++ [UInt8.ofNat u'] := by rw [HN.out, natB_small (by omega)]
      refine ⟨v', rfl, ?_, fun k hk => (HO1.out.lt k hk).1, Kpt.app (Kpt.alloc HK.out _) HG1.out (fun k hk => (HO.out.lt k hk).1)⟩
      have := own_le HO1.out hbase
      rw [← byteV_ofNat (by omega)] at this
      rw [hn]
      simp only [List.length_append, List.length_singleton, List.map_append, List.map_cons, List.map_nil]
      exact this

set_option maxRecDepth 100000 in
set_option maxHeartbeats 1000000 in
theorem f108_any (base : Nat) (s : ByteArray) (w : World) (hs : s.size ≤ 1099511627776) (hbase : base ≤ w.heap.size) :
    Calls Tryz.prog 59 #[.string s] w fun e w' => ∃ v, e = .returned v ∧ w'.ownsRow base 5 1 v (textB s).length ((textB s).map byteV) ∧ Kpt Non w w' := by
  obtain ⟨i0, hi, hz, hz0, hz1⟩ := info_parts info5
  have HI := Lib.hid hi; have HZ := Lib.hid hz; have HZ0 := Lib.hid hz0; have HZ1 := Lib.hid hz1; clear hi hz hz0 hz1
  have hnl := natB_len' s.size (by omega)
  go_enter Tryz.func59, Tryz.ntmps59
  go_wp2_with fail
  refine (f107_any w.heap.size s.size _ hs (Nat.le_refl _)).mono ?_
  rintro e w1 ⟨v, rfl, ho, _, k1⟩
  have HO := Lib.hid ho; have K1 := Lib.hid k1; clear ho k1
  go_wp2_with fail
  go_loopw [3, 4] (fun x3 x4 wr => ∃ (k : Nat) (ov : Value), ov = x3 ∧ x4 = .int .i64 k ∧ k ≤ s.size ∧ Hid (wr.ownsRow w.heap.size 5 1 ov (natB s.size ++ (bytesOf s).take k).length ((natB s.size ++ (bytesOf s).take k).map byteV)) ∧ Hid (Kpt Non w wr)) (fun _ x4 _ => s.size - (intOf x4).toNat)
  case atStart => exact ⟨0, _, rfl, rfl, by omega, Lib.hid (by simpa using HO.out), K1⟩
  case round =>
    obtain ⟨k, ov, rfl, rfl, hk, HO, HK⟩ := hrel
    have hsz := HK.out.size
    by_cases h1 : k < s.size
    · have h1' : (k : Int) < (s.size : Int) := by omega
      have h0' : (0 : Int) ≤ (k : Int) := by omega
      have hll : (natB s.size ++ (bytesOf s).take k).length ≤ 10 + s.size := by
        rw [List.length_append, List.length_take]; omega
      go_wp2_with (refine wpList_append_own _ rfl _ _ 81 rfl w.heap.size 5 i0 _ 1 1 Tryz.underlying81 HI.out HZ.out HZ0.out HZ1.out (by rfl) (by omega) _ _ _ rfl (HO.out.alloc _) ⟨wr.heap.size, 0, none⟩ 1 1 [.int .u8 (s[k].toNat : Int)] rfl rfl (cell_one_new _ _ _) (by simp [Value.oneCell']) (by simp only [maxLen]; omega) (by omega) (by simp; omega) ?_; intro v' w5 ho hg _; have HO5 := Lib.hid ho; have HG5 := Lib.hid hg; clear ho hg)
      refine ⟨⟨k + 1, v', rfl, by go_num, by omega, Lib.hid ?_, Lib.hid (Kpt.app (Kpt.alloc HK.out _) HG5.out (fun g hg => (HO.out.lt g hg).1))⟩, by simp [intOf]; omega⟩
      have hb : (bytesOf s).take (k + 1) = (bytesOf s).take k ++ [s[k]] := by
        rw [List.take_add_one]
        congr 1
        unfold bytesOf
        rw [List.getElem?_eq_getElem (by simpa using h1)]
        rfl
      rw [hb]
      have := HO5.out
      simpa [byteV, Nat.add_assoc] using this
    · have h1' : ¬ (k : Int) < (s.size : Int) := by omega
      have hks : k = s.size := by omega
      go_wp2_with fail
      go_ret
      refine ⟨_, rfl, ?_, HK.out⟩
      have := own_le HO.out hbase
      rw [hks, List.take_of_length_le (by rw [len_bytesOf]; omega)] at this
      exact this

/-- What groups of bytes spell. -/
def hv : List UInt8 → Nat
  | [] => 0
  | c :: l => c.toNat % 128 + 128 * hv l
theorem hv_lt : ∀ l : List UInt8, hv l < 128 ^ l.length
  | [] => by simp [hv]
  | c :: l => by
    have := hv_lt l
    have h2 := Nat.mod_lt c.toNat (show 128 > 0 by decide)
    simp only [hv, List.length_cons, Nat.pow_succ]
    omega
theorem grp_hv {c : UInt8} : ∀ (e : Nat) (l : List UInt8) (i u : Nat), (∀ k, k < e → ∃ c, l[k]? = some c ∧ 128 ≤ c.toNat) → l[e]? = some c → c.toNat < 128 → i + e < 9 → ¬ (c.toNat = 0 ∧ 0 < i + e) → grp i u l = (u + hv (l.take (e + 1)) * 128 ^ i, i + e + 1, 0)
  | 0, l, i, u, _, h2, h3, h4, h5 => by
    cases l with
    | nil => simp at h2
    | cons d l =>
      simp at h2
      subst h2
      unfold grp
      rw [if_neg (by omega), if_pos h3, if_neg (by simpa using h5)]
      simp [hv]
  | e + 1, l, i, u, h1, h2, h3, h4, h5 => by
    cases l with
    | nil => simp at h2
    | cons d l =>
      obtain ⟨d', hd, hd2⟩ := h1 0 (by omega)
      simp at hd
      subst hd
      unfold grp
      rw [if_neg (by omega), if_neg (by omega)]
      rw [grp_hv e l (i + 1) _ (fun k hk => by have := h1 (k + 1) (by omega); simpa using this) (by simpa using h2) h3 (by omega) (by rw [show i + 1 + e = i + (e + 1) by omega]; exact h5)]
      simp only [List.take_succ_cons, hv, Prod.mk.injEq, and_true]
      constructor
      · rw [Nat.pow_succ, Nat.add_mul, Nat.add_assoc, Nat.mul_comm 128 (hv (l.take (e + 1))), Nat.mul_assoc, Nat.mul_comm (128 ^ i) 128]
      · omega
theorem grp_zero {c : UInt8} : ∀ (e : Nat) (l : List UInt8) (i u : Nat), (∀ k, k < e → ∃ c, l[k]? = some c ∧ 128 ≤ c.toNat) → l[e]? = some c → i + e < 9 → c.toNat = 0 → 0 < i + e → grp i u l = (0, 0, 3)
  | 0, l, i, u, _, h2, h4, h5, h6 => by
    cases l with
    | nil => simp at h2
    | cons d l =>
      simp at h2
      subst h2
      unfold grp
      rw [if_neg (by omega), if_pos (by omega), if_pos ⟨h5, by omega⟩]
  | e + 1, l, i, u, h1, h2, h4, h5, h6 => by
    cases l with
    | nil => simp at h2
    | cons d l =>
      obtain ⟨d', hd, hd2⟩ := h1 0 (by omega)
      simp at hd
      subst hd
      unfold grp
      rw [if_neg (by omega), if_neg (by omega)]
      exact grp_zero e l (i + 1) _ (fun k hk => by have := h1 (k + 1) (by omega); simpa using this) (by simpa using h2) (by omega) h5 (by omega)
theorem grp_short : ∀ (e : Nat) (l : List UInt8) (i u : Nat), (∀ k, k < e → ∃ c, l[k]? = some c ∧ 128 ≤ c.toNat) → l.length = e → i + e < 9 → grp i u l = (0, 0, 28)
  | 0, l, i, u, _, h2, h4 => by
    have : l = [] := List.eq_nil_of_length_eq_zero h2
    subst this
    simp [grp]
    omega
  | e + 1, l, i, u, h1, h2, h4 => by
    cases l with
    | nil => simp at h2
    | cons d l =>
      obtain ⟨d', hd, hd2⟩ := h1 0 (by omega)
      simp at hd
      subst hd
      unfold grp
      rw [if_neg (by omega), if_neg (by omega)]
      exact grp_short e l (i + 1) _ (fun k hk => by have := h1 (k + 1) (by omega); simpa using this) (by simpa using h2) (by omega)
theorem grp_long : ∀ (e : Nat) (l : List UInt8) (i u : Nat), (∀ k, k < e → ∃ c, l[k]? = some c ∧ 128 ≤ c.toNat) → i + e = 9 → grp i u l = (0, 0, 3)
  | 0, l, i, u, _, h4 => by
    cases l with
    | nil => simp [grp]; omega
    | cons d l =>
      unfold grp
      rw [if_pos (by omega)]
  | e + 1, l, i, u, h1, h4 => by
    cases l with
    | nil =>
      obtain ⟨d', hd, hd2⟩ := h1 0 (by omega)
      simp at hd
    | cons d l =>
      obtain ⟨d', hd, hd2⟩ := h1 0 (by omega)
      simp at hd
      subst hd
      unfold grp
      rw [if_neg (by omega), if_neg (by omega)]
      exact grp_long e l (i + 1) _ (fun k hk => by have := h1 (k + 1) (by omega); simpa using this) (by omega)
end Go.Proofs.YtkpmabknjdgkmaaGreatDoor
