/- The screen shows the last 2048 bytes of what was typed and shown since the session began: the law TerminalScreen returns true for all texts and flags, and both slices read afterwards as before. No condition. -/
import Derived.Test.YtkpmabknjdgkmaaGreatDoorDoor
import Derived.Test.YtkpmabknjdgkmaaGreatDoorLaw7
import Derived.Test.YtkpmabknjdgkmaaGreatDoorCards
import Derived.Test.YtkpmabknjdgkmaaGreatDoorTie
import Derived.Test.YtkpmabknjdgkmaaGreatDoorOpen
namespace Go.Proofs.YtkpmabknjdgkmaaGreatDoor
open Go.ChangeShapes Go.WideShapes Go.ChangeAt Go.WideMaps Go.WideElems Go.RowKit

set_option maxRecDepth 100000 in
theorem terminalScreen_walk {H : Type} {enc : TypeId × Value → H} (W : World) (base : Nat) (args : Array Value) (ds : List (DataW H)) (p : List MemPlace) (hval : ∀ (j : Nat) t v, Tryz.f6.params[j]? = some t → args[j]? = some v → Value.okWide Tryz.prog W .any base t v)
    (hA : DataW.TrodAll enc Tryz.prog W 0 (fun _ => true) true Tryz.f6.params.toList args.toList ds p) (hwt : (DataW.weightsEach Tryz.prog Tryz.f6.params.toList ds).all (· ≤ reachBytes) = true) : Calls Tryz.prog 6 args W fun e W' => e = .returned (.bool true) ∧ Kpt Non W W' := by
  rw [Tryz.params6] at hA hval hwt
  obtain ⟨v0, v1, d0, d1, p0, p1, rfl, rfl, rfl, h0, h1⟩ := trodAll_two hA
  simp only [DataW.weightsEach, List.append_nil, List.all_append, Bool.and_eq_true] at hwt
  obtain ⟨A, n, c, l, rfl, hl, hs⟩ := open_texts (hval 0 22 v0 rfl rfl) h0 hwt.1
  obtain ⟨B, m, c', rs, rfl, hr⟩ := open_flags (hval 1 23 v1 rfl rfl) h1
  exact f6_any A B n c m c' l rs W hl hr hs

set_option maxRecDepth 100000 in
theorem terminalScreen_lifted (os : Os) (started : os.Started) (H : Type) (enc : TypeId × Value → H) :
    ReturnsInHanded {} Tryz.checked os 6 .any (fun w args => (Rows.terminalScreenSpec.pre enc Tryz.prog Tryz.f6 [] false w args ∧ laidMetH Tryz.prog laid5 w) ∧ sizedMet enc Tryz.prog Tryz.f6 (OpenSpec.ofChange Rows.terminalScreenSpec) false w args)
      (Rows.terminalScreenSpec.post enc Tryz.prog Tryz.f6 false true false false) :=
  law_lifted (fn := Tryz.f6) Tryz.func6 (by kernel_rfl) rfl rfl (by kernel_rfl)
    (fun H ds hl => match ds, hl with
    | [d0, d1], _ => rfl)
    (fun t ht => by
      rw [Tryz.params6] at ht
      have hm : t ∈ [22, 23] := by simpa using ht
      have hall : ([22, 23].all fun u => Tryz.prog.readableRec u && decide (u < Tryz.prog.types.size)) = true := by kernel_rfl
      have := List.all_eq_true.1 hall t hm
      simpa using this)
    os started H enc
    (ChangeSpec.witness_shaped (enc := enc) (C := Tryz.checked) (os := os) (X := fun w _ => laidMetH Tryz.prog laid5 w) false (World.doorLaid Tryz.prog 400 os) #[.slice none 0 0, .slice none 0 0] 8 rfl (World.shaped_of_RefB (by kernel_rfl) (by kernel_rfl)) (by kernel_rfl) (by kernel_rfl) (by kernel_rfl) (door_met os _))
    terminalScreen_walk

theorem terminalScreen_row : Rows.TerminalScreenSaid :=
  OpenClaim.holds_of_wide 6 Tryz.f6 rfl rfl rfl rfl rfl rfl rfl ⟨rfl, rfl, rfl, rfl, rfl⟩ rfl rfl rfl rfl rfl (by kernel_rfl) Tryz.func6 (by kernel_rfl)
    (of_decide_eq_true (by kernel_rfl)) (by unfold Func.isWrapper; first | (rw [if_pos (by decide +kernel)]; kernel_rfl) | (rw [if_neg (by decide +kernel)]; exact ⟨rfl, rfl⟩))
    (fun os started H enc _ => terminalScreen_lifted os started H enc)

theorem terminalScreen_card_holds : Rows.TerminalScreenCardSaid :=
  Claim7.holds_tied_plain_at .later [] [.data, .data, .data, .sentinel, .sentinel] true (Rows.terminalScreenCard.stood.harness.1, Rows.terminalScreenCard.stood.harness.2) true
    terminalScreen_row (fun _ h => by cases h) (by kernel_rfl) (fun _ h => by cases h) terminalScreen_row_tie rfl ⟨rfl, rfl⟩ (by kernel_rfl) rfl
    (fun f fn hf hfn => by
      obtain rfl : f = 6 := Option.some.inj ((show Tryz.prog.funcNamed "replevin/replevinlaw36.TerminalScreen" = some 6 by kernel_rfl).symm.trans hf) |>.symm
      obtain rfl : fn = Tryz.f6 := (Option.some.inj (Tryz.func6.symm.trans hfn)).symm
      exact ⟨by kernel_rfl, fun j t ht => by
        rw [Tryz.params6] at ht
        have hm : t ∈ [22, 23] := by simpa using Array.mem_of_getElem? ht
        have hall : ([22, 23].all fun u => !Tryz.prog.wantsStandIn u) = true := by kernel_rfl
        exact (show Tryz.prog.wantsStandIn t = false by simpa using List.all_eq_true.1 hall t hm)⟩)
    (by kernel_rfl)
#print axioms terminalScreen_card_holds
end Go.Proofs.YtkpmabknjdgkmaaGreatDoor
