/- What the rows of this seat share: the listed variables are met behind the door's own run; a law that answers true and changes nothing answers its row. No condition. -/
import Derived.Test.YtkpmabknjdgkmaaGreatDoorRows
import Derived.Test.YtkpmabknjdgkmaaGreatDoorBase
import Derived.ProofKit
import Derived.LaidMore
import Derived.OpenShut
import Derived.Stop.Joined
import Derived.ShutString
import Derived.Carry
import Derived.ReadAgain
namespace Go.Proofs.YtkpmabknjdgkmaaGreatDoor
open Go.ChangeShapes Go.WideShapes Go.ChangeAt Go.WideMaps Go.WideElems Go.RowKit

theorem own : ownKnob Tryz.prog.godebug = none := by kernel_rfl
def laid5 : List (String × DataW Unit) := [("math/bits.deBruijn32tab", Rows.laid_math_bits_deBruijn32tab), ("math/bits.deBruijn64tab", Rows.laid_math_bits_deBruijn64tab), ("internal/strconv.uint64pow10", Rows.laid_internal_strconv_uint64pow10), ("strconv.ErrRange", Rows.laid_strconv_ErrRange), ("strconv.ErrSyntax", Rows.laid_strconv_ErrSyntax)]

theorem door_met (os : Os) (args : Array Value) : laidMetH Tryz.prog laid5 ((World.doorLaid Tryz.prog 400 os).forCall (fun _ _ => 0) ⟨#[], args, []⟩).memory :=
  laidMetH_of_parts3 (fuel := 8) (laidMet_of_run' 8 (by kernel_rfl) (by kernel_rfl)) (by kernel_rfl) (by kernel_rfl)

theorem trodAll_len {H : Type} {enc : TypeId × Value → H} {P : Program} {w : World} {base : Nat} {sp : Nat → Bool} {held : Bool} : ∀ {ts : List TypeId} {vs : List Value} {ds : List (DataW H)} {ps : List MemPlace}, DataW.TrodAll enc P w base sp held ts vs ds ps → ds.length = ts.length
  | [], vs, ds, ps, h => by
    obtain ⟨_, rfl, _⟩ := trodAll_nil h
    rfl
  | t :: ts, vs, ds, ps, h => by
    obtain ⟨v, vs', d, ds', p, q, rfl, rfl, rfl, h1, h2⟩ := trodAll_cons h
    simp [trodAll_len h2]
/-- What lay below is read as it was. -/
theorem trodAll_kpt {H : Type} {enc : TypeId × Value → H} {P : Program} (hl : laidOutB P = true) {W W' : World} (k : Kpt Non W W') {sp' : Nat → Bool} : ∀ {ts : List TypeId} {vs : List Value} {ds : List (DataW H)} {ps : List MemPlace}, (∀ t ∈ ts, P.readableRec t = true ∧ t < P.types.size) →
    DataW.TrodAll enc P W 0 (fun _ => true) true ts vs ds ps → (∀ x ∈ ps, x.block < W.heap.size) → (∀ x ∈ ps, sp' x.block = true) → DataW.TrodAll enc P W' 0 sp' true ts vs ds ps
  | [], vs, ds, ps, _, h, _, _ => by
    obtain ⟨rfl, rfl, rfl⟩ := trodAll_nil h
    exact rfl
  | t :: ts, vs, ds, ps, hr, h, hlt, hsp => by
    obtain ⟨v, vs', d, ds', p, q, rfl, rfl, rfl, h1, h2⟩ := trodAll_cons h
    have ht := hr t (by simp)
    exact trodAll_cons_mk (WideElems.Trod_stays hl ht.1 ht.2 h1 (fun x hx => k.below_non.same (hlt x (by simp [hx]))) (fun x hx => hsp x (by simp [hx])))
      (trodAll_kpt hl k (fun t' ht' => hr t' (by simp [ht'])) h2 (fun x hx => hlt x (by simp [hx])) (fun x hx => hsp x (by simp [hx])))
theorem keptBut_kpt {W W' : World} (k : Kpt Non W W') (may : MemPlace → Prop) : W.keptBut W' may :=
  ⟨k.os, k.output, fun i hi => by
    rw [k.block i hi (fun e => e)]
    exact (World.keptBut_refl W may).2.2 i hi⟩
theorem laidOut : laidOutB Tryz.prog = true := by kernel_rfl

set_option maxRecDepth 100000 in
/-- A law that answers true, and changes nothing that was there, answers its row. -/
theorem law_lifted {f : FuncId} {fn : Func} {s : ChangeSpec} (hfn : Tryz.prog.funcs[f]? = some fn) (hinit : Tryz.prog.inits.idxOf? f = none) (hvars : s.vars = []) (hvt : s.plain.varTypes Tryz.prog = []) (hres : fn.resultTypes = #[4])
    (hspec : ∀ (H : Type) (ds : List (DataW H)), ds.length = fn.params.toList.length → s.fn H (ds ++ []) = { results := [.lit (.bool true)], args := ds })
    (hrec : ∀ t ∈ fn.params.toList, Tryz.prog.readableRec t = true ∧ t < Tryz.prog.types.size)
    (os : Os) (started : os.Started) (H : Type) (enc : TypeId × Value → H)
    (witness : ∃ (w : World) (tape : Tape) (i : Input), w.os = os ∧ (w.forCall tape i).Shaped Tryz.prog ∧ i.vars = [] ∧ Input.okWide Tryz.prog (w.forCall tape i) .any w.heap.size f i ∧
      ((s.pre enc Tryz.prog fn [] false (w.forCall tape i).memory i.args ∧ laidMetH Tryz.prog laid5 (w.forCall tape i).memory) ∧ sizedMet enc Tryz.prog fn (OpenSpec.ofChange s) false (w.forCall tape i).memory i.args) ∧ ({} : Assume).holds Tryz.prog (lone (Frame.enter Tryz.prog f i.args .normal) [] (w.forCall tape i)))
    (walk : ∀ (W : World) (base : Nat) (args : Array Value) (ds : List (DataW H)) (p : List MemPlace), (∀ (j : Nat) t v, fn.params[j]? = some t → args[j]? = some v → Value.okWide Tryz.prog W .any base t v) →
      DataW.TrodAll enc Tryz.prog W 0 (fun _ => true) true fn.params.toList args.toList ds p → (DataW.weightsEach Tryz.prog fn.params.toList ds).all (· ≤ reachBytes) = true → Calls Tryz.prog f args W fun e W' => e = .returned (.bool true) ∧ Kpt Non W W') :
    ReturnsInHanded {} Tryz.checked os f .any (fun w args => (s.pre enc Tryz.prog fn [] false w args ∧ laidMetH Tryz.prog laid5 w) ∧ sizedMet enc Tryz.prog fn (OpenSpec.ofChange s) false w args) (s.post enc Tryz.prog fn false true false false) := by
  refine returnsInHanded_of_change_and (C := Tryz.checked) (X := fun w _ => laidMetH Tryz.prog laid5 w) (fun _ _ _ hh h => h.of_heap hh) own started hinit hfn witness ?_
  intro W base args ds gs before hval hW _ hwt _ _
  have hlt : ∀ x ∈ before, x.block < W.heap.size := fun x hx => hW.lt x hx
  have hW' := hW
  obtain ⟨p, q, hA, hV, rfl, hfz, hnd⟩ := hW
  rw [hvars] at hV
  obtain ⟨rfl, rfl⟩ := trodVars_none hV
  rw [show DataSpec.varTypes Tryz.checked.prog s.plain = [] from hvt, List.append_nil, List.append_nil] at hwt
  refine (walk W base args ds p hval hA hwt).mono ?_
  rintro e W' ⟨rfl, k⟩
  simp only [List.append_nil] at hlt hW'
  have hsp := hspec H ds (trodAll_len hA)
  refine ⟨_, rfl, ds, [], p, [], p, [], hW', ?_, ?_, ?_, keptBut_kpt k _, fun h => by cases h⟩
  · rw [hsp, hres]
    exact trodAll_mk1 (shut_bool Tryz.underlying4 _)
  · rw [hsp]
    exact trodAll_kpt laidOut k hrec hA hlt (fun x hx => by simpa using hlt x hx)
  · rw [hsp, hvars]
    exact rfl
end Go.Proofs.YtkpmabknjdgkmaaGreatDoor
