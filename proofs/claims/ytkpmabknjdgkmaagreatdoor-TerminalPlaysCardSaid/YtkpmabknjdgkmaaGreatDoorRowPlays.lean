/- All results and errors of operations on terminals are those of the reference, and so are the terminals afterwards; an operation with an error writes nothing: the law TerminalPlays returns true for every list of operations, and it reads afterwards as before. No condition. -/
import Derived.Test.YtkpmabknjdgkmaaGreatDoorDoor
import Derived.Test.YtkpmabknjdgkmaaGreatDoorPlay4
import Derived.Test.YtkpmabknjdgkmaaGreatDoorOpen3
import Derived.Test.YtkpmabknjdgkmaaGreatDoorCards
import Derived.Test.YtkpmabknjdgkmaaGreatDoorTie
import Derived.Test.YtkpmabknjdgkmaaGreatDoorOpen
namespace Go.Proofs.YtkpmabknjdgkmaaGreatDoor
open Go.ChangeShapes Go.WideShapes Go.ChangeAt Go.WideMaps Go.WideElems Go.RowKit

set_option maxRecDepth 100000 in
theorem terminalPlays_walk {H : Type} {enc : TypeId × Value → H} (W : World) (base : Nat) (args : Array Value) (ds : List (DataW H)) (p : List MemPlace) (hval : ∀ (j : Nat) t v, Tryz.f7.params[j]? = some t → args[j]? = some v → Value.okWide Tryz.prog W .any base t v)
    (hA : DataW.TrodAll enc Tryz.prog W 0 (fun _ => true) true Tryz.f7.params.toList args.toList ds p) (hwt : (DataW.weightsEach Tryz.prog Tryz.f7.params.toList ds).all (· ≤ reachBytes) = true) : Calls Tryz.prog 7 args W fun e W' => e = .returned (.bool true) ∧ Kpt Non W W' := by
  rw [Tryz.params7] at hA hval hwt
  obtain ⟨v0, d0, rfl, rfl, h0⟩ := trodAll_one hA
  simp only [DataW.weightsEach, List.append_nil] at hwt
  obtain ⟨A, n, c, ops, rfl, hr, ok⟩ := open_ops (hval 0 60 v0 rfl rfl) h0 hwt
  exact f7_any A n c ops W hr ok

set_option maxRecDepth 100000 in
theorem terminalPlays_lifted (os : Os) (started : os.Started) (H : Type) (enc : TypeId × Value → H) :
    ReturnsInHanded {} Tryz.checked os 7 .any (fun w args => (Rows.terminalPlaysSpec.pre enc Tryz.prog Tryz.f7 [] false w args ∧ laidMetH Tryz.prog laid5 w) ∧ sizedMet enc Tryz.prog Tryz.f7 (OpenSpec.ofChange Rows.terminalPlaysSpec) false w args)
      (Rows.terminalPlaysSpec.post enc Tryz.prog Tryz.f7 false true false false) :=
  law_lifted (fn := Tryz.f7) Tryz.func7 (by kernel_rfl) rfl rfl (by kernel_rfl)
    (fun H ds hl => match ds, hl with
    | [d0], _ => rfl)
    (fun t ht => by
      rw [Tryz.params7] at ht
      have hm : t ∈ [60] := by simpa using ht
      have hall : ([60].all fun u => Tryz.prog.readableRec u && decide (u < Tryz.prog.types.size)) = true := by kernel_rfl
      have := List.all_eq_true.1 hall t hm
      simpa using this)
    os started H enc
    (ChangeSpec.witness_shaped (enc := enc) (C := Tryz.checked) (os := os) (X := fun w _ => laidMetH Tryz.prog laid5 w) false (World.doorLaid Tryz.prog 400 os) #[.slice none 0 0] 8 rfl (World.shaped_of_RefB (by kernel_rfl) (by kernel_rfl)) (by kernel_rfl) (by kernel_rfl) (by kernel_rfl) (door_met os _))
    terminalPlays_walk

theorem terminalPlays_row : Rows.TerminalPlaysSaid :=
  OpenClaim.holds_of_wide 7 Tryz.f7 rfl rfl rfl rfl rfl rfl rfl ⟨rfl, rfl, rfl, rfl, rfl⟩ rfl rfl rfl rfl rfl (by kernel_rfl) Tryz.func7 (by kernel_rfl)
    (of_decide_eq_true (by kernel_rfl)) (by unfold Func.isWrapper; first | (rw [if_pos (by decide +kernel)]; kernel_rfl) | (rw [if_neg (by decide +kernel)]; exact ⟨rfl, rfl⟩))
    (fun os started H enc _ => terminalPlays_lifted os started H enc)

theorem terminalPlays_card_holds : Rows.TerminalPlaysCardSaid :=
  Claim7.holds_tied_plain_at .later [] [.data, .data, .data, .sentinel, .sentinel] true (Rows.terminalPlaysCard.stood.harness.1, Rows.terminalPlaysCard.stood.harness.2) true
    terminalPlays_row (fun _ h => by cases h) (by kernel_rfl) (fun _ h => by cases h) terminalPlays_row_tie rfl ⟨rfl, rfl⟩ (by kernel_rfl) rfl
    (fun f fn hf hfn => by
      obtain rfl : f = 7 := Option.some.inj ((show Tryz.prog.funcNamed "replevin/replevinlaw36.TerminalPlays" = some 7 by kernel_rfl).symm.trans hf) |>.symm
      obtain rfl : fn = Tryz.f7 := (Option.some.inj (Tryz.func7.symm.trans hfn)).symm
      exact ⟨by kernel_rfl, fun j t ht => by
        rw [Tryz.params7] at ht
        have hm : t ∈ [60] := by simpa using Array.mem_of_getElem? ht
        have hall : ([60].all fun u => !Tryz.prog.wantsStandIn u) = true := by kernel_rfl
        exact (show Tryz.prog.wantsStandIn t = false by simpa using List.all_eq_true.1 hall t hm)⟩)
    (by kernel_rfl)
#print axioms terminalPlays_card_holds
end Go.Proofs.YtkpmabknjdgkmaaGreatDoor
