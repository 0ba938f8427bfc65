/- Check, Encode, Decode, CheckLine and Equal of the terminals return what the reference returns, and Decode is the inverse of Encode: the law TerminalValues returns true for all two terminals and each text, and they read afterwards as before. No condition. -/
import Derived.Test.YtkpmabknjdgkmaaGreatDoorDoor
import Derived.Test.YtkpmabknjdgkmaaGreatDoorLaw8
import Derived.Test.YtkpmabknjdgkmaaGreatDoorOpen2
import Derived.Test.YtkpmabknjdgkmaaGreatDoorCards
import Derived.Test.YtkpmabknjdgkmaaGreatDoorTie
import Derived.Test.YtkpmabknjdgkmaaGreatDoorOpen
namespace Go.Proofs.YtkpmabknjdgkmaaGreatDoor
open Go.ChangeShapes Go.WideShapes Go.ChangeAt Go.WideMaps Go.WideElems Go.RowKit

set_option maxRecDepth 100000 in
theorem terminalValues_walk {H : Type} {enc : TypeId × Value → H} (W : World) (base : Nat) (args : Array Value) (ds : List (DataW H)) (p : List MemPlace) (hval : ∀ (j : Nat) t v, Tryz.f5.params[j]? = some t → args[j]? = some v → Value.okWide Tryz.prog W .any base t v)
    (hA : DataW.TrodAll enc Tryz.prog W 0 (fun _ => true) true Tryz.f5.params.toList args.toList ds p) (hwt : (DataW.weightsEach Tryz.prog Tryz.f5.params.toList ds).all (· ≤ reachBytes) = true) : Calls Tryz.prog 5 args W fun e W' => e = .returned (.bool true) ∧ Kpt Non W W' := by
  rw [Tryz.params5] at hA hval hwt
  obtain ⟨v0, v1, v2, d0, d1, d2, p0, p1, p2, rfl, rfl, rfl, h0, h1, h2⟩ := trodAll_three hA
  simp only [DataW.weightsEach, List.append_nil, List.all_append, Bool.and_eq_true] at hwt
  obtain ⟨t, A, c, rfl, ht, ok⟩ := open_ref (hval 0 44 v0 rfl rfl) h0 hwt.1
  obtain ⟨u, B, d, rfl, hu, -⟩ := open_ref (hval 1 44 v1 rfl rfl) h1 hwt.2.1
  obtain ⟨s, rfl, -, -, -⟩ := Go.ChangeMaps.open_string Tryz.underlying9 (hval 2 9 v2 rfl rfl) h2
  exact f5_any ht hu ok

set_option maxRecDepth 100000 in
theorem terminalValues_lifted (os : Os) (started : os.Started) (H : Type) (enc : TypeId × Value → H) :
    ReturnsInHanded {} Tryz.checked os 5 .any (fun w args => (Rows.terminalValuesSpec.pre enc Tryz.prog Tryz.f5 [] false w args ∧ laidMetH Tryz.prog laid5 w) ∧ sizedMet enc Tryz.prog Tryz.f5 (OpenSpec.ofChange Rows.terminalValuesSpec) false w args)
      (Rows.terminalValuesSpec.post enc Tryz.prog Tryz.f5 false true false false) :=
  law_lifted (fn := Tryz.f5) Tryz.func5 (by kernel_rfl) rfl rfl (by kernel_rfl)
    (fun H ds hl => match ds, hl with
    | [d0, d1, d2], _ => rfl)
    (fun t ht => by
      rw [Tryz.params5] at ht
      have hm : t ∈ [44, 44, 9] := by simpa using ht
      have hall : ([44, 44, 9].all fun u => Tryz.prog.readableRec u && decide (u < Tryz.prog.types.size)) = true := by kernel_rfl
      have := List.all_eq_true.1 hall t hm
      simpa using this)
    os started H enc
    (ChangeSpec.witness_shaped (enc := enc) (C := Tryz.checked) (os := os) (X := fun w _ => laidMetH Tryz.prog laid5 w) false (World.doorLaid Tryz.prog 400 os) #[.agg #[.int .i64 0, .string ⟨#[]⟩, .slice none 0 0, .string ⟨#[]⟩], .agg #[.int .i64 0, .string ⟨#[]⟩, .slice none 0 0, .string ⟨#[]⟩], .string ⟨#[]⟩] 8 rfl (World.shaped_of_RefB (by kernel_rfl) (by kernel_rfl)) (by kernel_rfl) (by kernel_rfl) (by kernel_rfl) (door_met os _))
    terminalValues_walk

theorem terminalValues_row : Rows.TerminalValuesSaid :=
  OpenClaim.holds_of_wide 5 Tryz.f5 rfl rfl rfl rfl rfl rfl rfl ⟨rfl, rfl, rfl, rfl, rfl⟩ rfl rfl rfl rfl rfl (by kernel_rfl) Tryz.func5 (by kernel_rfl)
    (of_decide_eq_true (by kernel_rfl)) (by unfold Func.isWrapper; first | (rw [if_pos (by decide +kernel)]; kernel_rfl) | (rw [if_neg (by decide +kernel)]; exact ⟨rfl, rfl⟩))
    (fun os started H enc _ => terminalValues_lifted os started H enc)

theorem terminalValues_card_holds : Rows.TerminalValuesCardSaid :=
  Claim7.holds_tied_plain_at .later [] [.data, .data, .data, .sentinel, .sentinel] true (Rows.terminalValuesCard.stood.harness.1, Rows.terminalValuesCard.stood.harness.2) true
    terminalValues_row (fun _ h => by cases h) (by kernel_rfl) (fun _ h => by cases h) terminalValues_row_tie rfl ⟨rfl, rfl⟩ (by kernel_rfl) rfl
    (fun f fn hf hfn => by
      obtain rfl : f = 5 := Option.some.inj ((show Tryz.prog.funcNamed "replevin/replevinlaw36.TerminalValues" = some 5 by kernel_rfl).symm.trans hf) |>.symm
      obtain rfl : fn = Tryz.f5 := (Option.some.inj (Tryz.func5.symm.trans hfn)).symm
      exact ⟨by kernel_rfl, fun j t ht => by
        rw [Tryz.params5] at ht
        have hm : t ∈ [44, 44, 9] := by simpa using Array.mem_of_getElem? ht
        have hall : ([44, 44, 9].all fun u => !Tryz.prog.wantsStandIn u) = true := by kernel_rfl
        exact (show Tryz.prog.wantsStandIn t = false by simpa using List.all_eq_true.1 hall t hm)⟩)
    (by kernel_rfl)
#print axioms terminalValues_card_holds
end Go.Proofs.YtkpmabknjdgkmaaGreatDoor
