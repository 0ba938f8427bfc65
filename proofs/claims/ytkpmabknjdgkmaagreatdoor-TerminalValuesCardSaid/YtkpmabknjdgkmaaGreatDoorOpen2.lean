/- A terminal of the reference among the arguments, opened. No condition. -/
import Derived.Test.YtkpmabknjdgkmaaGreatDoorOpen
import Derived.Test.YtkpmabknjdgkmaaGreatDoorTerm2
import Derived.Lib.SmallJoins
namespace Go.Proofs.YtkpmabknjdgkmaaGreatDoor
open Go.ChangeShapes Go.WideShapes Go.ChangeAt Go.WideMaps Go.WideElems Go.RowKit Go.Joins

theorem cells_ref : Tryz.prog.cellsOf 44 = 4 := by kernel_rfl
section
variable {H : Type} {enc : TypeId × Value → H} {W : World}
set_option maxRecDepth 100000 in
theorem open_ref {v : Value} {d : DataW H} {p : List MemPlace} {base : Nat} (hval : Value.okWide Tryz.prog W .any base 44 v) (h : DataW.Trod enc Tryz.prog W 0 (fun _ => true) true 44 v d p) (hw : (d.weights Tryz.prog 44).all (· ≤ reachBytes) = true) :
    ∃ (t : Tm) (A : Option Addr) (c : Nat), v = .agg #[.int .i64 t.epoch, .string t.session, .slice A t.typed.length c, .string t.screen] ∧ TmV W (fun i => i < W.heap.size) t (.agg #[.int .i64 t.epoch, .string t.session, .slice A t.typed.length c, .string t.screen]) ∧ ∀ s ∈ t.typed, s.size ≤ 140737488351232 := by
  obtain ⟨c0, c1, c2, c3, y0, y1, y2, y3, m, rfl, rfl, rfl, h0, h1, h2, h3⟩ := open_agg4 Tryz.underlying44 (by kernel_rfl) cells_ref hval h
  obtain ⟨ep, e0, rfl, _⟩ := DataW.trod_int Tryz.underlying3 h0
  obtain ⟨ss, e1, rfl, _⟩ := DataW.trod_string Tryz.underlying9 h1
  obtain ⟨sc, e3, rfl, _⟩ := DataW.trod_string Tryz.underlying9 h3
  simp only [List.cons.injEq, and_true] at e0 e1 e3
  subst e0 e1 e3
  rcases open_strings Tryz.underlying22 Tryz.underlying9 cells_string h2 with ⟨hcs, hx⟩ | ⟨a, len, cap, ls, hcs, _, hl, hm, hz, hx, hcell, hsz⟩
  · simp only [List.cons.injEq, and_true] at hcs
    subst hcs
    exact ⟨⟨ep, ss, [], sc⟩, none, 0, rfl, ⟨none, 0, rfl, by simp, by simp [maxLen], Rd.nil _ _ _ _⟩, by simp⟩
  · simp only [List.cons.injEq, and_true] at hcs
    subst hcs
    simp only [if_true] at hz
    subst hx
    have hlen : (ls.take len).length = len := by simp; omega
    refine ⟨⟨ep, ss, ls.take len, sc⟩, some a, cap, by simp only [hlen], ⟨some a, cap, rfl, by simp only [hlen]; exact hl, hm, by simp, fun hn => ⟨a, rfl, World.block_lt_of_cell? W _ (by have := hcell 0 (by simp only [hlen] at hn; omega); rw [show a.add 0 = a by simp [Addr.add]] at this; exact this), fun j u hu => ?_⟩⟩, ?_⟩
    · rw [List.getElem?_map, Option.map_eq_some_iff] at hu
      obtain ⟨s, hs, rfl⟩ := hu
      rw [List.getElem?_take] at hs
      split at hs
      · have hj' := (List.getElem?_eq_some_iff.1 hs).1
        rw [hcell j hj', List.getD_eq_getElem?_getD, hs]
        rfl
      · cases hs
    · have e44 := Tryz.underlying44
      have e22 := Tryz.underlying22
      simp only [DataW.weights, e44, e22, DataW.weightsEach, List.map_cons, List.map_nil, List.all_cons, List.all_append, Bool.and_eq_true] at hw
      have hb : reachBytes = 140737488351232 := rfl
      rw [← hb]
      have := hw.2.2.1.2.1
      exact weights_strs this
end
end Go.Proofs.YtkpmabknjdgkmaaGreatDoor
