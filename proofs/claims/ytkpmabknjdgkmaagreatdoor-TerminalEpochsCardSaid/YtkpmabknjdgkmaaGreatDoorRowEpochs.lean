/- In another epoch a terminal has no session, no lines and an empty screen: the law TerminalEpochs returns true for every list of operations, every number and every epoch, and they read afterwards as before. No condition. -/
import Derived.Test.YtkpmabknjdgkmaaGreatDoorDoor
import Derived.Test.YtkpmabknjdgkmaaGreatDoorPlay4
import Derived.Test.YtkpmabknjdgkmaaGreatDoorOpen3
import Derived.Test.YtkpmabknjdgkmaaGreatDoorCards
import Derived.Test.YtkpmabknjdgkmaaGreatDoorTie
import Derived.Test.YtkpmabknjdgkmaaGreatDoorOpen
namespace Go.Proofs.YtkpmabknjdgkmaaGreatDoor
open Go.ChangeShapes Go.WideShapes Go.ChangeAt Go.WideMaps Go.WideElems Go.RowKit

set_option maxRecDepth 100000 in
theorem terminalEpochs_walk {H : Type} {enc : TypeId × Value → H} (W : World) (base : Nat) (args : Array Value) (ds : List (DataW H)) (p : List MemPlace) (hval : ∀ (j : Nat) t v, Tryz.f8.params[j]? = some t → args[j]? = some v → Value.okWide Tryz.prog W .any base t v)
    (hA : DataW.TrodAll enc Tryz.prog W 0 (fun _ => true) true Tryz.f8.params.toList args.toList ds p) (hwt : (DataW.weightsEach Tryz.prog Tryz.f8.params.toList ds).all (· ≤ reachBytes) = true) : Calls Tryz.prog 8 args W fun e W' => e = .returned (.bool true) ∧ Kpt Non W W' := by
  rw [Tryz.params8] at hA hval hwt
  obtain ⟨v0, v1, v2, d0, d1, d2, p0, p1, p2, rfl, rfl, rfl, h0, h1, h2⟩ := trodAll_three hA
  simp only [DataW.weightsEach, List.append_nil, List.all_append, Bool.and_eq_true] at hwt
  obtain ⟨A, n, c, ops, rfl, hr, ok⟩ := open_ops (hval 0 60 v0 rfl rfl) h0 hwt.1
  obtain ⟨number, rfl, -, -, -⟩ := open_int Tryz.underlying3 (hval 1 3 v1 rfl rfl) h1
  obtain ⟨epoch, rfl, -, -, -⟩ := open_int Tryz.underlying3 (hval 2 3 v2 rfl rfl) h2
  exact f13_any A n c ops number epoch W hr ok

set_option maxRecDepth 100000 in
theorem terminalEpochs_lifted (os : Os) (started : os.Started) (H : Type) (enc : TypeId × Value → H) :
    ReturnsInHanded {} Tryz.checked os 8 .any (fun w args => (Rows.terminalEpochsSpec.pre enc Tryz.prog Tryz.f8 [] false w args ∧ laidMetH Tryz.prog laid5 w) ∧ sizedMet enc Tryz.prog Tryz.f8 (OpenSpec.ofChange Rows.terminalEpochsSpec) false w args)
      (Rows.terminalEpochsSpec.post enc Tryz.prog Tryz.f8 false true false false) :=
  law_lifted (fn := Tryz.f8) Tryz.func8 (by kernel_rfl) rfl rfl (by kernel_rfl)
    (fun H ds hl => match ds, hl with
    | [d0, d1, d2], _ => rfl)
    (fun t ht => by
      rw [Tryz.params8] at ht
      have hm : t ∈ [60, 3, 3] := by simpa using ht
      have hall : ([60, 3, 3].all fun u => Tryz.prog.readableRec u && decide (u < Tryz.prog.types.size)) = true := by kernel_rfl
      have := List.all_eq_true.1 hall t hm
      simpa using this)
    os started H enc
    (ChangeSpec.witness_shaped (enc := enc) (C := Tryz.checked) (os := os) (X := fun w _ => laidMetH Tryz.prog laid5 w) false (World.doorLaid Tryz.prog 400 os) #[.slice none 0 0, .int .i64 0, .int .i64 0] 8 rfl (World.shaped_of_RefB (by kernel_rfl) (by kernel_rfl)) (by kernel_rfl) (by kernel_rfl) (by kernel_rfl) (door_met os _))
    terminalEpochs_walk

theorem terminalEpochs_row : Rows.TerminalEpochsSaid :=
  OpenClaim.holds_of_wide 8 Tryz.f8 rfl rfl rfl rfl rfl rfl rfl ⟨rfl, rfl, rfl, rfl, rfl⟩ rfl rfl rfl rfl rfl (by kernel_rfl) Tryz.func8 (by kernel_rfl)
    (of_decide_eq_true (by kernel_rfl)) (by unfold Func.isWrapper; first | (rw [if_pos (by decide +kernel)]; kernel_rfl) | (rw [if_neg (by decide +kernel)]; exact ⟨rfl, rfl⟩))
    (fun os started H enc _ => terminalEpochs_lifted os started H enc)

theorem terminalEpochs_card_holds : Rows.TerminalEpochsCardSaid :=
  Claim7.holds_tied_plain_at .later [] [.data, .data, .data, .sentinel, .sentinel] true (Rows.terminalEpochsCard.stood.harness.1, Rows.terminalEpochsCard.stood.harness.2) true
    terminalEpochs_row (fun _ h => by cases h) (by kernel_rfl) (fun _ h => by cases h) terminalEpochs_row_tie rfl ⟨rfl, rfl⟩ (by kernel_rfl) rfl
    (fun f fn hf hfn => by
      obtain rfl : f = 8 := Option.some.inj ((show Tryz.prog.funcNamed "replevin/replevinlaw36.TerminalEpochs" = some 8 by kernel_rfl).symm.trans hf) |>.symm
      obtain rfl : fn = Tryz.f8 := (Option.some.inj (Tryz.func8.symm.trans hfn)).symm
      exact ⟨by kernel_rfl, fun j t ht => by
        rw [Tryz.params8] at ht
        have hm : t ∈ [60, 3, 3] := by simpa using Array.mem_of_getElem? ht
        have hall : ([60, 3, 3].all fun u => !Tryz.prog.wantsStandIn u) = true := by kernel_rfl
        exact (show Tryz.prog.wantsStandIn t = false by simpa using List.all_eq_true.1 hall t hm)⟩)
    (by kernel_rfl)
#print axioms terminalEpochs_card_holds
end Go.Proofs.YtkpmabknjdgkmaaGreatDoor
