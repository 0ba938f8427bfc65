/- The walk of Name.Check at the names that the laws use. -/
import Derived.Test.YtkpmabknjdgkmaaGreatDoorObj1
import Derived.Test.YtkpmabknjdgkmaaGreatDoorObj2
import Derived.Deep.RegionHeld3
import Derived.BigQuiet
import Derived.Deep.QuietTactic
import Derived.Deep.DeepCutAuto
namespace Go.Proofs.YtkpmabknjdgkmaaGreatDoor
open Go.RowKit

theorem blk_new2 (w : World) (A B : Array Value) (t u : TypeId) (n : Nat) (fr : Nat × Nat) : Blk (((w.alloc (.cells A t fr)).alloc (.cells B u)).drewN n) (w.heap.size + 1) u B := by
  have := Blk.new (w.alloc (.cells A t fr)) u B
  rw [World.size_alloc] at this
  exact this.drewN n
theorem blk_new2' (w : World) (A B : Array Value) (t u : TypeId) : Blk ((w.alloc (.cells A t)).alloc (.cells B u)) (w.heap.size + 1) u B := by
  have := Blk.new (w.alloc (.cells A t)) u B
  rw [World.size_alloc] at this
  exact this
theorem idx13 (w : World) : (Instr.index 158 usesV (.int .i64 13)).run Tryz.prog w = .ok (.agg #[.string ⟨#[116, 101, 114, 109, 105, 110, 97, 108]⟩, .bool false, .bool true, .bool false, .int .i64 (-1)]) w := by kernel_rfl

theorem fin_alloc {w w1 : World} {A B : Array Value} {t u : TypeId} (k : Kpt Non (w.alloc (.cells A t)).drew w1) :
    ∃ p, Value.pointer (some { block := w1.heap.size, off := 0 }) = .pointer (some ⟨p, 0, none⟩) ∧ Kpt Non w (w1.alloc (.cells B u)) ∧ Blk (w1.alloc (.cells B u)) w.heap.size t A ∧ Blk (w1.alloc (.cells B u)) p u B :=
  ⟨_, rfl, Kpt.alloc (Kpt.trans (Kpt.drew (Kpt.alloc (Kpt.refl _ _) _)) k (fun _ e _ => e)) _, Blk.alloc (Blk.kpt (Blk.drew (Blk.new w _ _)) k (fun e => e)) _, Blk.new _ _ _⟩
theorem fin_set {w w1 : World} {A B : Array Value} {t u : TypeId} {v0 v1 v2 v3 v4 : Value} (k : Kpt Non ((w.alloc (.cells A t)).alloc (.cells B u)).drew w1) (hB : B.size = 5) :
    ∃ p, Value.pointer (some { block := w.heap.size + 1, off := 0 }) = .pointer (some ⟨p, 0, none⟩) ∧
      Kpt Non w (((((w1.setCell ⟨w.heap.size + 1, 0, none⟩ v0).setCell ⟨w.heap.size + 1, 1, none⟩ v1).setCell ⟨w.heap.size + 1, 2, none⟩ v2).setCell ⟨w.heap.size + 1, 3, none⟩ v3).setCell ⟨w.heap.size + 1, 4, none⟩ v4) ∧
      Blk (((((w1.setCell ⟨w.heap.size + 1, 0, none⟩ v0).setCell ⟨w.heap.size + 1, 1, none⟩ v1).setCell ⟨w.heap.size + 1, 2, none⟩ v2).setCell ⟨w.heap.size + 1, 3, none⟩ v3).setCell ⟨w.heap.size + 1, 4, none⟩ v4) w.heap.size t A ∧
      Blk (((((w1.setCell ⟨w.heap.size + 1, 0, none⟩ v0).setCell ⟨w.heap.size + 1, 1, none⟩ v1).setCell ⟨w.heap.size + 1, 2, none⟩ v2).setCell ⟨w.heap.size + 1, 3, none⟩ v3).setCell ⟨w.heap.size + 1, 4, none⟩ v4) p u #[v0, v1, v2, v3, v4] := by
  have hlt : ¬ w.heap.size + 1 < w.heap.size := by omega
  have hne : w.heap.size ≠ w.heap.size + 1 := by omega
  refine ⟨_, rfl, ?_, ?_, ?_⟩
  · refine Kpt.setCell (Kpt.setCell (Kpt.setCell (Kpt.setCell (Kpt.setCell ?_ (fun h => absurd h hlt) _) (fun h => absurd h hlt) _) (fun h => absurd h hlt) _) (fun h => absurd h hlt) _) (fun h => absurd h hlt) _
    exact Kpt.trans (Kpt.drew (Kpt.alloc (Kpt.alloc (Kpt.refl _ _) _) _)) k (fun _ e _ => e)
  · exact Blk.far (Blk.far (Blk.far (Blk.far (Blk.far (Blk.kpt (Blk.drew (Blk.alloc (Blk.new w _ _) _)) k (fun e => e)) hne _) hne _) hne _) hne _) hne _
  · have h := (((((Blk.kpt (Blk.drew (blk_new2' w A B t u)) k (fun e => e)).set_ 0 v0).set_ 1 v1).set_ 2 v2).set_ 3 v3).set_ 4 v4
    obtain ⟨l⟩ := B
    obtain _ | ⟨b0, _ | ⟨b1, _ | ⟨b2, _ | ⟨b3, _ | ⟨b4, _ | _⟩⟩⟩⟩⟩ := l <;> simp at hB
    exact h
set_option maxRecDepth 100000 in
set_option maxHeartbeats 1000000 in
theorem f121_terminal (n : Int) (h0 : 0 ≤ n) (h1 : n ≤ 1073741824) (w : World) : Calls Tryz.prog 72 #[(ofTerminal n).val] w fun e w' => e = .returned (.int .i64 0) ∧ Kpt Non w w' := by
  have i13 := idx13
  have hn : decide (0 ≤ n ∧ n ≤ 1073741824) = true := by simp [h0, h1]
  have e182 := f182_any n
  rw [hn] at e182
  have E182 := Lib.hid e182; clear e182 hn
  unfold ofTerminal Nm.val Nm.cells es
  go_enter Tryz.func72, Tryz.ntmps72
  go_upto_region 3 with fail
  go_cut [3] (fun s3 wx => ∃ p, s3 = .pointer (some ⟨p, 0, none⟩) ∧ Kpt Non w wx ∧ Blk wx w.heap.size 68 #[.int .i64 13, .string ⟨#[]⟩, .int .i64 n, .int .i64 0, .string ⟨#[]⟩] ∧ Blk wx p 157 #[.string ⟨#[116, 101, 114, 109, 105, 110, 97, 108]⟩, .bool false, .bool true, .bool false, .int .i64 (-1)])
  case first =>
    go_region_held3 (fun w' => w'.cell? ⟨w.heap.size, 0, none⟩ = some (.int .i64 13)) (first | go_keep | (exact cell_alloc_ (by assumption) _) | (exact Kpt.cellv (by assumption) (by assumption) (fun e => e)) | (refine Kpt.cellv (by assumption) ?_ (fun e => e); go_keep)) (first | (go_at_call 97; refine (f181_any _).mono ?_; rintro e w1 ⟨rfl, k1⟩; have hq : w1.cell? ⟨w.heap.size, 0, none⟩ = some (.int .i64 13) := Kpt.cellv k1 (by first | assumption | go_keep) (fun e => e); first | (have hb5 := (blk_new2 w _ _ _ _ _ _ : Blk _ (w.heap.size + 1) 157 _).kpt k1 (fun e => e); have c50 := hb5.cell 0; have c51 := hb5.cell 1; have c52 := hb5.cell 2; have c53 := hb5.cell 3; have c54 := hb5.cell 4; have f50 := hb5.frozen 0; have f51 := hb5.frozen 1; have f52 := hb5.frozen 2; have f53 := hb5.frozen 3; have f54 := hb5.frozen 4; clear hb5; simp only [List.getElem?_toArray, List.getElem?_cons_zero, List.getElem?_cons_succ] at c50 c51 c52 c53 c54) | skip))
    all_goals (go_wp2_with fail; go_meet)
    all_goals (first | exact fin_alloc k1 | exact fin_set k1 rfl)
  case rest =>
    obtain ⟨p, rfl, k1, hb1, hb2⟩ := hcut
    have a0 := hb1.cell 0
    have a1 := hb1.cell 1
    have a2 := hb1.cell 2
    have a3 := hb1.cell 3
    have a4 := hb1.cell 4
    have c0 := hb2.cell 0
    have c1 := hb2.cell 1
    have c2 := hb2.cell 2
    have c3 := hb2.cell 3
    have c4 := hb2.cell 4
    simp only [List.getElem?_toArray, List.getElem?_cons_zero, List.getElem?_cons_succ] at a0 a1 a2 a3 a4 c0 c1 c2 c3 c4
    clear hb1 hb2
    go_wp2_with (first | (go_at_call 98; refine (E182.out _).mono ?_; rintro e w2 ⟨rfl, rfl⟩))
    all_goals go_ret
    all_goals exact ⟨rfl, k1⟩
end Go.Proofs.YtkpmabknjdgkmaaGreatDoor
