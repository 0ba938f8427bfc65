/- Operations among the arguments, opened. No condition. -/
import Derived.Test.YtkpmabknjdgkmaaGreatDoorOpen
import Derived.Test.YtkpmabknjdgkmaaGreatDoorPlay4
import Derived.Deep.Slices
import Derived.Deep.Fields
import Derived.ChangeSame
import Derived.Lib.SmallJoins
import Derived.OpenShut
namespace Go.Proofs.YtkpmabknjdgkmaaGreatDoor
open Go.ChangeShapes Go.WideShapes Go.ChangeAt Go.WideMaps Go.WideElems Go.RowKit Go.Joins

theorem cells_opn : Tryz.prog.cellsOf 74 = 5 := by kernel_rfl
theorem weights_mem {H : Type} {P : Program} {e : TypeId} {B : Nat} : ∀ {l : List (DataW H)}, (DataW.weightsAll P e l).all (· ≤ B) = true → ∀ d ∈ l, (d.weights P e).all (· ≤ B) = true
  | [], _, d, hd => by simp at hd
  | x :: l, h, d, hd => by
    simp only [DataW.weightsAll, List.all_append, Bool.and_eq_true] at h
    rcases List.mem_cons.1 hd with rfl | hd
    · exact h.1
    · exact weights_mem (l := l) h.2 d hd
theorem flat_ops : ∀ (l : List Opn) (k : Nat) (o : Opn), l[k]? = some o → ∀ j, j < 5 → (l.flatMap Opn.cells)[k * 5 + j]? = o.cells[j]?
  | [], k, o, h, _, _ => by simp at h
  | a :: l, 0, o, h, j, hj => by
    simp at h
    subst h
    rw [List.flatMap_cons, List.getElem?_append_left (by simp [Opn.cells]; omega)]
    simp
  | a :: l, k + 1, o, h, j, hj => by
    simp at h
    rw [List.flatMap_cons, List.getElem?_append_right (by simp [Opn.cells]; omega), ← flat_ops l k o h j hj]
    congr 1
    simp [Opn.cells]
    omega
theorem flat_opn_len : ∀ l : List Opn, (l.flatMap Opn.cells).length = l.length * 5
  | [] => rfl
  | a :: l => by rw [List.flatMap_cons, List.length_append, flat_opn_len l, List.length_cons]; simp [Opn.cells]; omega
section
variable {H : Type} {enc : TypeId × Value → H} {W : World}
theorem list5 {α : Type _} {l : List α} (h : l.length = 5) : ∃ a b c d e, l = [a, b, c, d, e] := by
  match l, h with
  | [a, b, c, d, e], _ => exact ⟨_, _, _, _, _, rfl⟩
set_option maxRecDepth 100000 in
/-- One operation in memory. -/
theorem open_opn {fuel : Nat} {base : Nat} {a : Addr} {cs : List Value} {d : DataW H} {p : List MemPlace} (hc : W.cells? base a 5 = some cs) (h : DataW.trod enc Tryz.prog W base (fun _ => true) true fuel 74 cs = some (d, p)) :
    ∃ o : Opn, (∀ j u, o.cells[j]? = some u → W.cell? (a.add j) = some u) ∧ (0 ≤ o.kind ∧ o.kind ≤ 255) ∧ d = .agg [.lit (.int .u8 o.kind), .lit (.int .i64 o.number), .lit (.int .i64 o.epoch), .lit (.string o.who.data.toList), .lit (.string o.text.data.toList)] := by
  have hcl := World.cells?_some hc
  obtain ⟨xs, n, _, hx, _, hlen, hf⟩ := DataW.trod_struct Tryz.underlying74 h
  obtain ⟨c0, c1, c2, c3, c4, rfl⟩ := list5 hcl.2.1
  obtain ⟨y0, y1, y2, y3, y4, rfl⟩ := list5 hlen
  have k5 : Tryz.prog.cellsOf 5 = 1 := by kernel_rfl
  have k3 : Tryz.prog.cellsOf 3 = 1 := by kernel_rfl
  have k9 : Tryz.prog.cellsOf 9 = 1 := by kernel_rfl
  have g0 : DataW.trod enc Tryz.prog W base (fun _ => true) true n 5 (([c0, c1, c2, c3, c4].drop 0).take (Tryz.prog.cellsOf 5)) = [y0, y1, y2, y3, y4][0]? := hf 0 _ rfl
  have g1 : DataW.trod enc Tryz.prog W base (fun _ => true) true n 3 (([c0, c1, c2, c3, c4].drop 1).take (Tryz.prog.cellsOf 3)) = [y0, y1, y2, y3, y4][1]? := hf 1 _ rfl
  have g2 : DataW.trod enc Tryz.prog W base (fun _ => true) true n 3 (([c0, c1, c2, c3, c4].drop 2).take (Tryz.prog.cellsOf 3)) = [y0, y1, y2, y3, y4][2]? := hf 2 _ rfl
  have g3 : DataW.trod enc Tryz.prog W base (fun _ => true) true n 9 (([c0, c1, c2, c3, c4].drop 3).take (Tryz.prog.cellsOf 9)) = [y0, y1, y2, y3, y4][3]? := hf 3 _ rfl
  have g4 : DataW.trod enc Tryz.prog W base (fun _ => true) true n 9 (([c0, c1, c2, c3, c4].drop 4).take (Tryz.prog.cellsOf 9)) = [y0, y1, y2, y3, y4][4]? := hf 4 _ rfl
  rw [k5] at g0
  rw [k3] at g1 g2
  rw [k9] at g3 g4
  obtain ⟨v0, e0, rfl, w0⟩ := DataW.trod_int Tryz.underlying5 g0
  obtain ⟨v1, e1, rfl, _⟩ := DataW.trod_int Tryz.underlying3 g1
  obtain ⟨v2, e2, rfl, _⟩ := DataW.trod_int Tryz.underlying3 g2
  obtain ⟨v3, e3, rfl, _⟩ := DataW.trod_string Tryz.underlying9 g3
  obtain ⟨v4, e4, rfl, _⟩ := DataW.trod_string Tryz.underlying9 g4
  simp only [List.drop_zero, List.drop_succ_cons, List.take_succ_cons, List.take_zero, List.cons.injEq, and_true] at e0 e1 e2 e3 e4
  subst e0 e1 e2 e3 e4
  simp only [Prod.mk.injEq] at hx
  refine ⟨⟨v0, v1, v2, v3, v4⟩, fun j u hu => ?_, ?_, hx.1⟩
  · have hj : j < 5 := by have := (List.getElem?_eq_some_iff.1 hu).1; simpa [Opn.cells] using this
    rw [hcl.2.2 j hj]
    exact hu
  · have := bounds_u8 w0
    simpa using this

set_option maxRecDepth 100000 in
theorem open_ops {v : Value} {d : DataW H} {p : List MemPlace} {base : Nat} (hval : Value.okWide Tryz.prog W .any base 60 v) (h : DataW.Trod enc Tryz.prog W 0 (fun _ => true) true 60 v d p) (hw : (d.weights Tryz.prog 60).all (· ≤ reachBytes) = true) :
    ∃ (A : Option Addr) (n c : Nat) (ops : List Opn), v = .slice A n c ∧ Rd W (fun i => i < W.heap.size) 5 A n (ops.flatMap Opn.cells) ∧ ∀ o ∈ ops, OpnOk o := by
  obtain ⟨a0, len, cap, rfl⟩ := okWide_slice Tryz.underlying60 hval
  obtain ⟨fuel, hf⟩ := h
  rcases Go.Deep.open_slice Tryz.underlying60 hf with ⟨hcs, hx⟩ | ⟨a, len', cap', m, n, D, Pl, hcs, _, hl, hm, hmm, hx, hi⟩
  · simp only [Value.cells, List.cons.injEq, and_true] at hcs
    injection hcs with h1 h2 h3
    subst h1 h2 h3
    exact ⟨none, 0, 0, [], rfl, Rd.nil _ _ _ _, by simp⟩
  · simp only [Value.cells, List.cons.injEq, and_true] at hcs
    injection hcs with h1 h2 h3
    subst h1 h2 h3
    simp only [if_true] at hmm
    subst hmm
    rw [cells_opn] at hi
    simp only [Prod.mk.injEq] at hx
    obtain ⟨rfl, rfl⟩ := hx
    have hex : ∀ i, ∃ o : Opn, i < len → (∀ j u, o.cells[j]? = some u → W.cell? ((a.add (i * 5)).add j) = some u) ∧ OpnOk o := fun i => by
      by_cases hlt : i < len
      · obtain ⟨cs', hc', ht'⟩ := hi i (by omega)
        obtain ⟨o, h1, h2, h3⟩ := open_opn hc' ht'
        refine ⟨o, fun _ => ⟨h1, h2.1, h2.2, ?_, ?_⟩⟩
        all_goals
          have e60 := Tryz.underlying60
          have e132 := Tryz.underlying74
          simp only [DataW.weights, e60, List.all_cons, List.all_append, Bool.and_eq_true] at hw
          have hd := weights_mem hw.2.1 (D i) (List.mem_map.2 ⟨i, List.mem_range.2 hlt, rfl⟩)
          rw [h3] at hd
          have hb : reachBytes = 140737488351232 := rfl
          simp only [DataW.weights, e132, DataW.weightsEach, List.map_cons, List.map_nil, List.append_nil, List.nil_append, List.all_cons, List.all_nil, List.all_append, Bool.and_eq_true, decide_eq_true_eq] at hd
          simp at hd
          rw [hb] at hd
          first | exact hd.1 | exact hd.2
      · exact ⟨⟨0, 0, 0, es, es⟩, fun h => absurd h hlt⟩
    obtain ⟨f, hf'⟩ := Classical.axiomOfChoice hex
    have hlen : ((List.range len).map f).length = len := by simp
    have hget : ∀ i, i < len → ((List.range len).map f)[i]? = some (f i) := fun i hi => by rw [List.getElem?_map, List.getElem?_range hi]; rfl
    refine ⟨some a, len, m, (List.range len).map f, rfl, ⟨by rw [flat_opn_len, hlen], fun hn => ⟨a, rfl, ?_, fun j u hu => ?_⟩⟩, fun o ho => ?_⟩
    · have := (hf' 0 hn).1 0 _ rfl
      rw [show (a.add (0 * 5)).add 0 = a by simp [Addr.add]] at this
      exact World.block_lt_of_cell? W _ this
    · have hj := (List.getElem?_eq_some_iff.1 hu).1
      rw [flat_opn_len, hlen] at hj
      have h5 : j / 5 < len := by omega
      have := flat_ops _ (j / 5) _ (hget _ h5) (j % 5) (by omega)
      rw [show j / 5 * 5 + j % 5 = j by omega, hu] at this
      have hc := (hf' (j / 5) h5).1 (j % 5) u this.symm
      rw [add_add, show j / 5 * 5 + j % 5 = j by omega] at hc
      exact hc
    · obtain ⟨i, hi', rfl⟩ := List.mem_map.1 ho
      exact (hf' i (List.mem_range.1 hi')).2
end
end Go.Proofs.YtkpmabknjdgkmaaGreatDoor
