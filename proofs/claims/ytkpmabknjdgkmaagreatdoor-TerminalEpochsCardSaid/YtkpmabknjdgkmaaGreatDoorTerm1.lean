/- The walks of package terminal: CheckLine, Check. -/
import Derived.Test.YtkpmabknjdgkmaaGreatDoorCodec7
import Derived.Test.YtkpmabknjdgkmaaGreatDoorView4
import Derived.Test.YtkpmabknjdgkmaaGreatDoorLin4
namespace Go.Proofs.YtkpmabknjdgkmaaGreatDoor
open Go.RowKit

def oddB (b : UInt8) : Bool := decide (b.toNat < 32) || decide (b.toNat = 127)
def lineErr (s : ByteArray) : Int := if 1024 < s.size then 5 else if (bytesOf s).any oddB then 6 else 0
def linesErr : List ByteArray → Int
  | [] => 0
  | s :: l => if lineErr s = 0 then linesErr l else lineErr s

structure Tm where
  epoch : Int
  session : ByteArray
  typed : List ByteArray
  screen : ByteArray
  deriving DecidableEq

def chkT (t : Tm) : Int :=
  if 0 ≤ t.epoch ∧ t.epoch ≤ 1073741824 then
    if validB (bytesOf t.session) then
      if 16 < t.typed.length then 9 else
      if linesErr t.typed = 0 then
        (if t.session.size = 0 ∧ 0 < t.typed.length then 10 else if 2048 < t.screen.size then 5 else 0)
      else linesErr t.typed
    else 12
  else 2

theorem byte_at (s : ByteArray) (k : Nat) (h : k < s.size) : (bytesOf s)[k]? = some s[k] := by
  unfold bytesOf
  rw [List.getElem?_eq_getElem (by simpa using h)]
  rfl

set_option maxRecDepth 100000 in
set_option maxHeartbeats 400000 in
theorem f102_any (s : ByteArray) (k : Nat) (hk : k < s.size) (p : Nat) (w : World) (hp : w.cell? ⟨p, 0, none⟩ = some (.string s)) :
    Calls Tryz.prog 53 #[.int .i64 k, .pointer (some ⟨p, 0, none⟩)] w fun e w' => e = .returned (.bool (oddB s[k])) ∧ w = w' := by
  have hk1 : (k : Int) < (s.size : Int) := by omega
  have hk0 : (0 : Int) ≤ (k : Int) := by omega
  go_enter Tryz.func53, Tryz.ntmps53
  go_wp2_with fail
  all_goals go_ret
  all_goals refine ⟨?_, rfl⟩
  all_goals (first
    | (have hh : oddB s[k] = true := by (unfold oddB; rename_i h; simp; omega)
       rw [hh]; rfl)
    | (have : (decide ((s[k].toNat : Int) < 32) || ((s[k].toNat : Int) == 127)) = oddB s[k] := by
         unfold oddB
         rw [Bool.eq_iff_iff]
         simp
         omega
       rw [← this]
       rfl))

theorem any_false_iff {l : List UInt8} : l.any oddB = false ↔ ∀ (k : Nat) (x : UInt8), l[k]? = some x → oddB x = false := by
  constructor
  · intro h k x hx
    have := List.any_eq_false.1 h x (List.mem_of_getElem? hx)
    simpa using this
  · intro h
    rw [List.any_eq_false]
    intro x hx
    obtain ⟨k, hk⟩ := List.getElem?_of_mem hx
    simp [h k x hk]

set_option maxRecDepth 100000 in
set_option maxHeartbeats 400000 in
theorem f34_any (s : ByteArray) (hs : s.size ≤ 140737488351232) (w : World) :
    Calls Tryz.prog 21 #[.string s] w fun e w' => e = .returned (.int .i64 (lineErr s)) ∧ Kpt Non w w' := by
  by_cases h1 : 1024 < s.size
  · have h1' : (1024 : Int) < (s.size : Int) := by omega
    go_enter Tryz.func21, Tryz.ntmps21
    go_wp2_with fail
    go_ret
    exact ⟨by simp [lineErr, h1], Kpt.alloc (Kpt.refl _ _) _⟩
  · have h1' : ¬ (1024 : Int) < (s.size : Int) := by omega
    have hp := (Blk.new w 9 #[.string s]).cell 0
    simp only [List.getElem?_toArray, List.getElem?_cons_zero] at hp
    go_enter Tryz.func21, Tryz.ntmps21
    go_wp2_with fail
    go_loopw [4, 11] (fun x i wr => ∃ k : Nat, i = .int .i64 k ∧ k ≤ s.size ∧ Hid (∀ j x, j < k → (bytesOf s)[j]? = some x → oddB x = false) ∧ wr = w.alloc (.cells #[.string s] 9)) (fun _ i _ => s.size - (intOf i).toNat)
    case atStart => exact ⟨0, rfl, Nat.zero_le _, Lib.hid (fun j x hj => absurd hj (by omega)), rfl⟩
    case round =>
      obtain ⟨k, rfl, hk, HC, rfl⟩ := hrel
      by_cases h2 : k < s.size
      · have h2' : (k : Int) < (s.size : Int) := by omega
        have hc := f102_any s k h2 w.heap.size _ hp
        cases hb : oddB s[k] with
        | true =>
          rw [hb] at hc
          have HCC := Lib.hid hc; clear hc
          have hL : lineErr s = 6 := by
            rw [lineErr, if_neg h1, if_pos]
            exact List.any_eq_true.2 ⟨s[k], List.mem_of_getElem? (byte_at s k h2), hb⟩
          have HL := Lib.hid hL; clear hL hb
          go_wp2_with fail
          refine HCC.out.mono ?_
          rintro e w1 ⟨rfl, rfl⟩
          go_wp2_with fail
          go_ret
          exact ⟨by rw [HL.out]; rfl, Kpt.alloc (Kpt.refl _ _) _⟩
        | false =>
          rw [hb] at hc
          have HCC := Lib.hid hc; clear hc
          have HB := Lib.hid hb; clear hb
          go_wp2_with fail
          refine HCC.out.mono ?_
          rintro e w1 ⟨rfl, rfl⟩
          go_wp2_with fail
          refine ⟨⟨k + 1, by go_num, by omega, Lib.hid (fun j x hj hx => ?_), trivial⟩, by simp [intOf]; omega⟩
          by_cases e : j = k
          · subst e
            rw [byte_at s j h2] at hx
            injection hx with hx
            rw [← hx]; exact HB.out
          · exact HC.out j x (by omega) hx
      · have h2' : decide ((k : Int) < (s.size : Int)) = false := by simp; omega
        have hL : lineErr s = 0 := by
          rw [lineErr, if_neg h1, if_neg]
          rw [any_false_iff.2 (fun j x hx => HC.out j x (by
            have := (List.getElem?_eq_some_iff.1 hx).1
            rw [len_bytesOf] at this
            omega) hx)]
          simp
        have HL := Lib.hid hL; clear hL
        go_wp2_with fail
        go_ret
        exact ⟨by rw [HL.out]; rfl, Kpt.alloc (Kpt.refl _ _) _⟩
end Go.Proofs.YtkpmabknjdgkmaaGreatDoor
