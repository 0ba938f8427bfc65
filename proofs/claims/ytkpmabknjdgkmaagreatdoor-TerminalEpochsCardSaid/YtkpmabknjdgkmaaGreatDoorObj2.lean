/- The walks of small functions: object's names, number; state's New, tree; view's New; api. -/
import Derived.Test.YtkpmabknjdgkmaaGreatDoorProg
import Derived.Test.YtkpmabknjdgkmaaGreatDoorBase
namespace Go.Proofs.YtkpmabknjdgkmaaGreatDoor
open Go.RowKit

/-- The name of an object. -/
structure Nm where
  kind : Int
  owner : ByteArray
  number : Int
  index : Int
  text : ByteArray
  deriving DecidableEq

def es : ByteArray := ⟨#[]⟩
def Nm.cells (n : Nm) : List Value := [.int .i64 n.kind, .string n.owner, .int .i64 n.number, .int .i64 n.index, .string n.text]
def Nm.val (n : Nm) : Value := .agg n.cells.toArray

/-- A change. -/
structure Ch where
  name : Nm
  value : ByteArray
  absent : Bool
  deriving DecidableEq
def Ch.cells (c : Ch) : List Value := c.name.cells ++ [.string c.value, .bool c.absent]
def Ch.val (c : Ch) : Value := .agg c.cells.toArray

def ofTerminal (n : Int) : Nm := ⟨13, es, n, 0, es⟩
def ofTable (o : ByteArray) : Nm := ⟨4, o, 0, 0, es⟩
def ofPending (o : ByteArray) : Nm := ⟨6, o, 0, 0, es⟩
theorem es_eq : (⟨#[]⟩ : ByteArray) = es := rfl

set_option maxHeartbeats 400000 in
theorem f49_any (n : Int) (w : World) : Calls Tryz.prog 36 #[.int .i64 n] w fun e w' => e = .returned (ofTerminal n).val ∧ Kpt Non w w' := by
  go_enter Tryz.func36, Tryz.ntmps36
  go_wp2
  exact bodyPost_ret (v := (ofTerminal n).val) (by simp [results, Tryz.results36, go_sem, ofTerminal, Nm.val, Nm.cells, es]) rfl ⟨rfl, (Kpt.refl _ _).alloc _⟩

set_option maxHeartbeats 400000 in
theorem f182_any (n : Int) (w : World) : Calls Tryz.prog 98 #[.int .i64 n] w fun e w' => e = .returned (.bool (decide (0 ≤ n ∧ n ≤ 1073741824))) ∧ w = w' := by
  by_cases h : 0 ≤ n
  · go_enter Tryz.func98, Tryz.ntmps98
    go_wp2
    go_ret
    exact ⟨by simp [h], rfl⟩
  · have h' : decide ((0 : Int) ≤ n) = false := by simpa using h
    go_enter Tryz.func98, Tryz.ntmps98
    go_wp2
    go_ret
    exact ⟨by simp, rfl⟩

set_option maxHeartbeats 400000 in
theorem f97_any (n : Int) (w : World) : Calls Tryz.prog 48 #[.int .i64 n] w fun e w' => e = .returned (.bool (decide (0 ≤ n ∧ n ≤ 1073741824))) ∧ w = w' := by
  by_cases h : 0 ≤ n
  · go_enter Tryz.func48, Tryz.ntmps48
    go_wp2
    go_ret
    exact ⟨by simp [h], rfl⟩
  · have h' : decide ((0 : Int) ≤ n) = false := by simpa using h
    go_enter Tryz.func48, Tryz.ntmps48
    go_wp2
    go_ret
    exact ⟨by simp, rfl⟩

set_option maxHeartbeats 400000 in
theorem f26_any (w : World) : Calls Tryz.prog 13 #[] w fun e w' => e = .returned (.pointer (some ⟨w.heap.size, 0, none⟩)) ∧ w.alloc (.cells #[.pointer none] 93) = w' := by
  go_enter Tryz.func13, Tryz.ntmps13
  go_wp2
  go_ret
  exact ⟨rfl, rfl⟩

set_option maxHeartbeats 400000 in
theorem f25_any (a : Addr) (w : World) : Calls Tryz.prog 12 #[.pointer (some a)] w fun e w' => e = .returned (.pointer (some ⟨w.heap.size + 1 + 1, 0, none⟩)) ∧
    ((w.alloc (.map #[] 0)).alloc (.map #[] 0)).alloc (.cells #[.pointer (some a), .map (some w.heap.size), .slice none 0 0, .map (some (w.heap.size + 1))] 90) = w' := by
  have hmm := @run_makeMap Tryz.prog
  go_enter Tryz.func12, Tryz.ntmps12
  go_wp2
  go_ret
  exact ⟨rfl, rfl⟩

set_option maxHeartbeats 400000 in
theorem f184_any (a : Addr) (r : Option Addr) (w : World) (h : w.cell? a = some (.pointer r)) : Calls Tryz.prog 100 #[.pointer (some a)] w fun e w' => e = .returned (.pointer r) ∧ w = w' := by
  go_enter Tryz.func100, Tryz.ntmps100
  go_wp2
  go_ret
  exact ⟨rfl, rfl⟩

theorem Kpt.up {S : Nat → Prop} {w w' : World} (h : Kpt Non w w') : Kpt S w w' := h.mono (fun _ e => e.elim)

theorem Kpt.setOne {a w : World} {b : Nat} (h : Kpt (One b) a w) (i : Nat) (v : Value) : Kpt (One b) a (w.setCell ⟨b, i, none⟩ v) := h.setCell (fun _ => rfl) v

theorem own_le {w : World} {base base' n size : Nat} {e : TypeId} {v : Value} {xs : List Value} (h : w.ownsRow base e size v n xs) (hb : base' ≤ base) : w.ownsRow base' e size v n xs := by
  refine ⟨h.1, ?_⟩
  rcases h.2 with hl | ⟨g, cap, cur, hv, hg, r⟩
  · exact .inl hl
  · exact .inr ⟨g, cap, cur, hv, by omega, r⟩

theorem Kpt.app {S : Nat → Prop} {a w w' : World} {v : Value} (h : Kpt S a w) (hg : w.grownBy w' v.ownBlock) (hv : ∀ k, v.ownBlock = some k → a.heap.size ≤ k) : Kpt S a w' :=
  h.grown hg (fun k hk hlt => absurd hlt (Nat.not_lt.2 (hv k hk)))
end Go.Proofs.YtkpmabknjdgkmaaGreatDoor
