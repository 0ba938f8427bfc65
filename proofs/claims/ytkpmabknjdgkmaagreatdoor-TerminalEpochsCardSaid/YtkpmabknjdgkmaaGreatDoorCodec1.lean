/- codec's natural numbers, as plain lists of bytes; and the walk of natural. -/
import Derived.Test.YtkpmabknjdgkmaaGreatDoorObj2
import Derived.Deep.DeepCutAuto
namespace Go.Proofs.YtkpmabknjdgkmaaGreatDoor
open Go.RowKit

def byteV (b : UInt8) : Value := .int .u8 (b.toNat : Int)

/-- The encoding of a natural number. -/
def natB (u : Nat) : List UInt8 := if h : u < 128 then [UInt8.ofNat u] else UInt8.ofNat (u % 128 + 128) :: natB (u / 128)
  termination_by u
  decreasing_by omega

theorem natB_small {u : Nat} (h : u < 128) : natB u = [UInt8.ofNat u] := by rw [natB, dif_pos h]
theorem natB_big {u : Nat} (h : ¬ u < 128) : natB u = UInt8.ofNat (u % 128 + 128) :: natB (u / 128) := by rw [natB, dif_neg h]

theorem one_bytes (l : List UInt8) : ∀ u ∈ l.map byteV, u.oneCell' = true := by
  intro u hu
  obtain ⟨b, _, rfl⟩ := List.mem_map.1 hu
  rfl
theorem byteV_ofNat {n : Nat} (h : n < 256) : byteV (UInt8.ofNat n) = .int .u8 (n : Int) := by
  simp [byteV, Nat.mod_eq_of_lt h]

theorem info5 : (Tryz.prog.info? 5).map (fun i => (i.zero, i.size, i.bytes)) = some (some (.int .u8 0), 1, 1) := by kernel_rfl

set_option maxRecDepth 100000 in
theorem or128_fin : ∀ x : Fin 256, bits .or .u8 (x.val : Int) 128 = (x.val % 128 + 128 : Nat) := by decide
theorem or128 (u : Nat) : bits .or .u8 ((u : Int) % 256) 128 = ((u % 128 + 128 : Nat) : Int) := by
  have h := or128_fin ⟨u % 256, by omega⟩
  simp only at h
  rw [show ((u : Int) % 256) = ((u % 256 : Nat) : Int) by omega, h]
  congr 1
  omega

set_option maxRecDepth 100000 in
set_option maxHeartbeats 1000000 in
theorem f167_any (base u : Nat) (w : World) (hu : u ≤ 1099511627776) (hbase : base ≤ w.heap.size) :
    Calls Tryz.prog 83 #[.int .u64 (u : Int)] w fun e w' => ∃ v, e = .returned v ∧ w'.ownsRow base 5 1 v (natB u).length ((natB u).map byteV) ∧ (∀ k, v.ownBlock = some k → w.heap.size ≤ k) ∧ Kpt Non w w' := by
  obtain ⟨i0, hi, hz, hz0, hz1⟩ := info_parts info5
  have HI := Lib.hid hi; have HZ := Lib.hid hz; have HZ0 := Lib.hid hz0; have HZ1 := Lib.hid hz1; clear hi hz hz0 hz1
  go_enter Tryz.func83, Tryz.ntmps83
  go_wp2_with fail
  go_loopw [0, 3] (fun x v wr => ∃ (u' : Nat) (pre : List UInt8), x = .int .u64 (u' : Int) ∧ pre.length + u' ≤ u ∧ Hid (natB u = pre ++ natB u') ∧ Hid (wr.ownsRow w.heap.size 5 1 v pre.length (pre.map byteV)) ∧ Hid (Kpt Non w wr)) (fun x _ _ => (intOf x).toNat)
  case atStart =>
    exact ⟨u, [], rfl, by simp, Lib.hid rfl, Lib.hid (World.ownsRow_nil _ _ _ _), Lib.hid (Kpt.refl _ _)⟩
  case round =>
    obtain ⟨u', pre, rfl, hle, HN, HO, HK⟩ := hrel
    have hsz := HK.out.size
    by_cases h : (128 : Int) ≤ (u' : Int)
    · go_wp2_with (refine wpList_append_own _ rfl _ _ 81 rfl w.heap.size 5 i0 _ 1 1 Tryz.underlying81 HI.out HZ.out HZ0.out HZ1.out (by rfl) (by omega) _ pre.length _ rfl (HO.out.alloc _) ⟨wr.heap.size, 0, none⟩ 1 1 [.int .u8 (bits .or .u8 ((u' : Int) % 256) 128)] rfl rfl (cell_one_new _ _ _) (by simp [Value.oneCell']) (by simp only [maxLen]; omega) (by omega) (by simp; omega) ?_; intro v' w1 ho hg _; have HO1 := Lib.hid ho; have HG1 := Lib.hid hg; clear ho hg)
      refine ⟨⟨u' / 128, pre ++ [UInt8.ofNat (u' % 128 + 128)], by simp, by simp; omega, Lib.hid ?_, Lib.hid ?_, Lib.hid ?_⟩, by simp [intOf]; omega⟩
      · rw [HN.out, natB_big (by omega)]; simp
      · have := HO1.out
        rw [or128 u', ← byteV_ofNat (by omega)] at this
        simp only [List.length_append, List.length_singleton, List.map_append, List.map_cons, List.map_nil]
        exact this
      · exact Kpt.app (Kpt.alloc HK.out _) HG1.out (fun k hk => (HO.out.lt k hk).1)
    · have h' : (u' : Int) < 128 := by omega
      go_wp2_with (refine wpList_append_own _ rfl _ _ 81 rfl w.heap.size 5 i0 _ 1 1 Tryz.underlying81 HI.out HZ.out HZ0.out HZ1.out (by rfl) (by omega) _ pre.length _ rfl (HO.out.alloc _) ⟨wr.heap.size, 0, none⟩ 1 1 [.int .u8 (u' : Int)] rfl rfl (cell_one_new _ _ _) (by simp [Value.oneCell']) (by simp only [maxLen]; omega) (by omega) (by simp; omega) ?_; intro v' w1 ho hg _; have HO1 := Lib.hid ho; have HG1 := Lib.hid hg; clear ho hg)
      go_ret
      have hn : natB u = pre ++ [UInt8.ofNat u'] := by rw [HN.out, natB_small (by omega)]
      refine ⟨v', rfl, ?_, fun k hk => (HO1.out.lt k hk).1, Kpt.app (Kpt.alloc HK.out _) HG1.out (fun k hk => (HO.out.lt k hk).1)⟩
      have := own_le HO1.out hbase
      rw [← byteV_ofNat (by omega)] at this
      rw [hn]
      simp only [List.length_append, List.length_singleton, List.map_append, List.map_cons, List.map_nil]
      exact this
end Go.Proofs.YtkpmabknjdgkmaaGreatDoor
