import Derived.Test.YtkpmabknjdgkmaaGreatDoorProg
import Derived.Test.YtkpmabknjdgkmaaGreatDoorBase
import Derived.Test.YtkpmabknjdgkmaaGreatDoorPure1
import Derived.WalkSpells
import Derived.WalkLawsBesides
import Derived.BigQuiet
import Derived.Deep.QuietTactic
namespace Go.Proofs.YtkpmabknjdgkmaaGreatDoor
open Go.RowKit

theorem getElem_toList (s : ByteArray) (j : Nat) (h : j < s.size) : s.data.toList[j]? = some s[j] := by
  rw [List.getElem?_eq_getElem (by simpa using h)]; rfl
theorem take_snoc (s : ByteArray) (k : Nat) (h : k < s.size) : s.data.toList.take (k + 1) = s.data.toList.take k ++ [s[k]] := by
  rw [List.take_succ_eq_append_getElem (by simpa using h)]; rfl

theorem numTake (s : ByteArray) (k : Nat) (h2 : s.size ≤ 6) (hd : ∀ j (h : j < s.size), 48 ≤ s[j].toNat ∧ s[j].toNat ≤ 57) : 0 ≤ numOf (s.data.toList.take k) ∧ numOf (s.data.toList.take k) ≤ 999999 := by
  have h := numOf_lt (s.data.toList.take k) (fun c hc => by
    obtain ⟨j, hj, rfl⟩ := List.getElem_of_mem (List.mem_of_mem_take hc)
    have := hd j (by simpa using hj)
    simp only [isDig, Bool.and_eq_true, decide_eq_true_eq, UInt8.le_iff_toNat_le]
    exact this)
  have hl : (s.data.toList.take k).length ≤ 6 := by simp; omega
  have hp : (10 : Int) ^ (s.data.toList.take k).length ≤ 10 ^ 6 := by exact_mod_cast Nat.pow_le_pow_right (by decide) hl
  omega

set_option maxRecDepth 100000 in
set_option maxHeartbeats 400000 in
theorem f234_digits (s : ByteArray) (w : World) (h1 : 1 ≤ s.size) (h2 : s.size ≤ 6) (hd : ∀ j (h : j < s.size), 48 ≤ s[j].toNat ∧ s[j].toNat ≤ 57) :
    Calls Tryz.prog 128 #[.string s] w fun e w' => e = .returned (.tuple #[.int .i64 (numOf s.data.toList), .nilIface]) ∧ Kpt Non w w' := by
  have hd0 := hd 0 (by omega)
  have t1 : ((s[0].toNat : Int) == 45) = false := by rw [beq_eq_false_iff_ne]; omega
  have t2 : ((s[0].toNat : Int) == 43) = false := by rw [beq_eq_false_iff_ne]; omega
  obtain ⟨c, w1, hrun, hc, hsz, hcell, hk⟩ := toBytes (P := Tryz.prog) w 9 81 5 s Tryz.underlying9 Tryz.underlying81 Tryz.underlying5
  have HK := Lib.hid hk; clear hk
  have HC := Lib.hid hcell; clear hcell
  have HZ := Lib.hid hsz; clear hsz
  go_enter Tryz.func128, Tryz.ntmps128
  go_wp2_with fail
  go_loop [6, 8, 49] (fun n _ i => ∃ k : Nat, k ≤ s.size ∧ i = .int .i64 k ∧ n = .int .i64 (numOf (s.data.toList.take k))) (fun _ _ i => s.size - (intOf i).toNat)
  case atStart => exact ⟨0, Nat.zero_le _, rfl, rfl⟩
  case round =>
    obtain ⟨k, hk, rfl, rfl⟩ := hrel
    have hb := numTake s k h2 hd
    by_cases hlt : k < s.size
    · have hck := HC.out k hlt
      have hdk := hd k hlt
      have HS := Lib.hid (numOf_snoc (s.data.toList.take k) s[k])
      rw [← take_snoc s k hlt] at HS
      go_wp2_with fail
      go_round
      case rel => exact ⟨k + 1, by omega, by go_num, by rw [HS.out]; congr 1; omega⟩
      case measure => simp [intOf]; omega
    · have hks : k = s.data.toList.length := by simp; omega
      have HT := Lib.hid (List.take_of_length_le (l := s.data.toList) (i := k) (by omega))
      clear hks
      go_wp2_with fail
      go_ret2
      exact ⟨by rw [HT.out]; rfl, HK.out⟩
end Go.Proofs.YtkpmabknjdgkmaaGreatDoor
