/- Arguments opened: strings, slices of strings and of bools, as the walks take them. No condition. -/
import Derived.Test.YtkpmabknjdgkmaaGreatDoorDoor
import Derived.SliceStrings
import Derived.Deep.Grids
namespace Go.Proofs.YtkpmabknjdgkmaaGreatDoor
open Go.ChangeShapes Go.WideShapes Go.ChangeAt Go.WideMaps Go.WideElems Go.RowKit

theorem cells_string : Tryz.prog.cellsOf 9 = 1 := by kernel_rfl
theorem cells_bool : Tryz.prog.cellsOf 4 = 1 := by kernel_rfl

theorem weights_strs {H : Type} {P : Program} {e : TypeId} {B : Nat} : ∀ {l : List ByteArray}, (DataW.weightsAll P e (strs (H := H) l)).all (· ≤ B) = true → ∀ s ∈ l, s.size ≤ B
  | [], _, s, hs => by simp at hs
  | x :: l, h, s, hs => by
    simp only [strs, List.map_cons, DataW.weightsAll, DataW.weights, List.all_append, Bool.and_eq_true, List.all_cons, List.all_nil, decide_eq_true_eq, and_true] at h
    rcases List.mem_cons.1 hs with rfl | hs
    · have := h.1
      simpa using this
    · exact weights_strs (l := l) h.2 s hs

section
variable {H : Type} {enc : TypeId × Value → H} {W : World}
set_option maxRecDepth 100000 in
theorem open_texts {v : Value} {d : DataW H} {p : List MemPlace} {base : Nat} (hval : Value.okWide Tryz.prog W .any base 22 v) (h : DataW.Trod enc Tryz.prog W 0 (fun _ => true) true 22 v d p) (hw : (d.weights Tryz.prog 22).all (· ≤ reachBytes) = true) :
    ∃ (A : Option Addr) (n c : Nat) (l : List ByteArray), v = .slice A n c ∧ Rd W (fun i => i < W.heap.size) 1 A n (l.map Value.string) ∧ ∀ s ∈ l, s.size ≤ 140737488351232 := by
  obtain ⟨a0, len, cap, rfl⟩ := okWide_slice Tryz.underlying22 hval
  obtain ⟨fuel, hf⟩ := h
  rcases open_strings Tryz.underlying22 Tryz.underlying9 cells_string hf with ⟨hcs, hx⟩ | ⟨a, len', cap', ss, hcs, _, hl, hm, hz, hx, hcell, hsz⟩
  · simp only [Value.cells, List.cons.injEq, and_true] at hcs
    injection hcs with h1 h2 h3
    subst h1 h2 h3
    exact ⟨none, 0, 0, [], rfl, Rd.nil _ _ _ _, by simp⟩
  · simp only [Value.cells, List.cons.injEq, and_true] at hcs
    injection hcs with h1 h2 h3
    subst h1 h2 h3
    simp only [if_true] at hz
    simp only [Prod.mk.injEq] at hx
    obtain ⟨rfl, rfl⟩ := hx
    refine ⟨some a, len, cap, ss.take len, rfl, ⟨by simp; omega, fun hn => ⟨a, rfl, World.block_lt_of_cell? W _ (by have := hcell 0 (by omega); rw [show a.add 0 = a by simp [Addr.add]] at this; exact this), fun j u hu => ?_⟩⟩, ?_⟩
    · rw [List.getElem?_map, Option.map_eq_some_iff] at hu
      obtain ⟨s, hs, rfl⟩ := hu
      rw [List.getElem?_take] at hs
      split at hs
      · rename_i hj
        have hj' := (List.getElem?_eq_some_iff.1 hs).1
        rw [hcell j hj', List.getD_eq_getElem?_getD, hs]
        rfl
      · cases hs
    · have e22 := Tryz.underlying22
      simp only [DataW.weights, e22, List.all_cons, List.all_append, Bool.and_eq_true] at hw
      have hb : reachBytes = 140737488351232 := rfl
      rw [← hb]
      exact weights_strs hw.2.1
set_option maxRecDepth 100000 in
theorem open_flags {v : Value} {d : DataW H} {p : List MemPlace} {base : Nat} (hval : Value.okWide Tryz.prog W .any base 23 v) (h : DataW.Trod enc Tryz.prog W 0 (fun _ => true) true 23 v d p) :
    ∃ (A : Option Addr) (n c : Nat) (l : List Bool), v = .slice A n c ∧ Rd W (fun i => i < W.heap.size) 1 A n (l.map Value.bool) := by
  obtain ⟨a0, len, cap, rfl⟩ := okWide_slice Tryz.underlying23 hval
  obtain ⟨fuel, hf⟩ := h
  rcases Go.Deep.open_bools Tryz.underlying23 Tryz.underlying4 cells_bool hf with ⟨hcs, hx⟩ | ⟨a, len', cap', B, hcs, _, hl, hm, hx, hcell⟩
  · simp only [Value.cells, List.cons.injEq, and_true] at hcs
    injection hcs with h1 h2 h3
    subst h1 h2 h3
    exact ⟨none, 0, 0, [], rfl, Rd.nil _ _ _ _⟩
  · simp only [Value.cells, List.cons.injEq, and_true] at hcs
    injection hcs with h1 h2 h3
    subst h1 h2 h3
    refine ⟨some a, len, cap, (List.range len).map B, rfl, by simp, fun hn => ⟨a, rfl, World.block_lt_of_cell? W _ (by have := hcell 0 (by omega); rw [show a.add 0 = a by simp [Addr.add]] at this; exact this), fun j u hu => ?_⟩⟩
    rw [List.getElem?_map, List.getElem?_map, Option.map_map, Option.map_eq_some_iff] at hu
    obtain ⟨k, hk, rfl⟩ := hu
    have hj := (List.getElem?_eq_some_iff.1 hk).1
    simp at hj
    rw [List.getElem?_range hj] at hk
    injection hk with hk
    subst hk
    exact hcell j (by omega)
end
end Go.Proofs.YtkpmabknjdgkmaaGreatDoor
