/- The walks of package object that the laws on terminals, tables and signals reach. -/
import Derived.Test.YtkpmabknjdgkmaaGreatDoorProg
import Derived.Test.YtkpmabknjdgkmaaGreatDoorBase
namespace Go.Proofs.YtkpmabknjdgkmaaGreatDoor
open Go.RowKit

/-- What the kinds use. -/
def useRows : List (List UInt8 × Bool × Bool × Bool × Int) :=
  [([], false, false, false, 0), ([112, 114, 111, 99, 101, 115, 115], true, false, false, -1), ([114, 101, 103, 105, 115, 116, 101, 114, 115], true, false, false, -1), ([112, 97, 103, 101], true, false, false, 63),
   ([116, 97, 98, 108, 101], true, false, false, -1), ([99, 111, 117, 110, 116, 101, 114], true, false, false, -1), ([112, 101, 110, 100, 105, 110, 103], true, false, false, -1), ([110, 111, 100, 101], true, true, false, -1),
   ([98, 108, 111, 99, 107], true, true, false, 63), ([101, 110, 116, 114, 121], true, true, true, -1), ([108, 105, 115, 116, 105, 110, 103], true, true, false, -1), ([112, 105, 112, 101], true, true, false, -1),
   ([108, 111, 99, 107], true, true, false, -1), ([116, 101, 114, 109, 105, 110, 97, 108], false, true, false, -1), ([97, 99, 99, 111, 117, 110, 116], false, false, true, -1), ([99, 108, 111, 99, 107], false, false, false, -1),
   ([112, 111, 114, 116], false, true, false, -1), ([98, 111, 120], false, false, true, -1), ([111, 117, 116], true, true, false, 1073741824), ([115, 104, 101, 108, 108], true, false, false, -1), ([101, 112, 111, 99, 104], false, false, false, -1)]
def useCells (r : List UInt8 × Bool × Bool × Bool × Int) : List Value := [.string ⟨r.1.toArray⟩, .bool r.2.1, .bool r.2.2.1, .bool r.2.2.2.1, .int .i64 r.2.2.2.2]
def usesV : Value := .agg (useRows.flatMap useCells).toArray

set_option maxRecDepth 100000 in
set_option maxHeartbeats 2000000 in
theorem f181_any (w : World) :
    Calls Tryz.prog 97 #[] w fun e w' => e = .returned usesV ∧ Kpt Non w w' := by
  go_enter Tryz.func97, Tryz.ntmps97
  go_wp2_with (refine wpList_store_row rfl 158 (.tmp 0) (.tmp 22) rfl w.heap.size (useRows.flatMap useCells).toArray rfl (by kernel_rfl) 158 _ (heap_alloc_new w _) (by kernel_rfl) (by kernel_rfl) (by kernel_rfl) ?_)
  exact bodyPost_ret (v := usesV) (results_cell_row (p := 0) (ty := 158) rfl _ _ w.heap.size 158 _ (0, 0) _ rfl (setRow_heap _ _ _ _ _ _ (heap_alloc_new w _)) Tryz.underlying158 rfl (by kernel_rfl)) rfl ⟨rfl, ((Kpt.refl _ w).alloc _).setRow (fun h => absurd h (by simp)) _⟩
end Go.Proofs.YtkpmabknjdgkmaaGreatDoor
