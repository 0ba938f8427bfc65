/- The keys of a view's maps. -/
import Derived.Test.YtkpmabknjdgkmaaGreatDoorObj3
import Derived.Laws.StructEq
namespace Go.Proofs.YtkpmabknjdgkmaaGreatDoor
open Go.RowKit

theorem nm_eq (x y : Nm) : decide (x = y) = (x.kind == y.kind && (x.owner.toList == y.owner.toList && (x.number == y.number && (x.index == y.index && x.text.toList == y.text.toList)))) := by
  obtain ⟨a, b, c, d, e⟩ := x
  obtain ⟨a', b', c', d', e'⟩ := y
  rw [Bool.eq_iff_iff]
  simp [ByteArray.toList_eq, ByteArray.ext_iff]

set_option maxRecDepth 100000 in
theorem eq_nm (x y : Nm) (w : World) : (Op.equal 68 x.val y.val).run Tryz.prog w = .ok (decide (x = y)) w := by
  rw [nm_eq]
  obtain ⟨a, b, c, d, e⟩ := x
  obtain ⟨a', b', c', d', e'⟩ := y
  have hs : (Tryz.prog).stoodInHeld 68 = false := by kernel_rfl
  simp [Op.equal, Op.maxDepth, Nm.val, Nm.cells, Op.eqFields, Tryz.underlying68, hs, go_sem]
  split <;> try simp_all
  split <;> try simp_all
  split <;> try simp_all
  split <;> try simp_all
  split <;> simp_all

theorem check_nm (em : Bool) (x : Nm) (w : World) : (Instr.checkKey em 10000 68 x.val).run Tryz.prog w = .ok () w := by
  obtain ⟨a, b, c, d, e⟩ := x
  cases em <;> kernel_rfl

theorem asking_nm (x : Nm) : ∀ (l : List Nm) (es : List MapEntry) (i : Nat) (w : World), es.map (·.key) = l.map Nm.val →
    (Instr.findAsking 68 x.val es i).run Tryz.prog w = .ok ((l.findIdx? (fun y => decide (x = y))).bind fun j => (es[j]?).map fun e => (i + j, e.val)) w
  | [], es, i, w, h => by
    obtain rfl : es = [] := by simpa using h
    simp [Instr.findAsking]
  | y :: l, [], i, w, h => by simp at h
  | y :: l, e :: es, i, w, h => by
    simp only [List.map_cons, List.cons.injEq] at h
    have ih := asking_nm x l es (i + 1) w h.2
    by_cases hxy : x = y
    · simp [Instr.findAsking, h.1, eq_nm, Result.andThen, hxy, List.findIdx?_cons]
    · simp only [Instr.findAsking, h.1, eq_nm, Result.andThen, hxy, List.findIdx?_cons, decide_false, Sem.run_bind, Bool.false_eq_true, if_false, ih]
      cases l.findIdx? (fun y => decide (x = y)) with
      | none => simp
      | some j => simp [Nat.add_assoc, Nat.add_comm 1 j]

theorem keyOk_nm : KeyOk Tryz.prog 68 Nm.val where
  check := check_nm
  find := fun x l es w h => by
    have ha := asking_nm x l es 0 w h
    cases es with
    | nil =>
      obtain rfl : l = [] := by simpa using h.symm
      simp [Instr.findKey, run_underlying Tryz.underlying68, Instr.findNow, Result.andThen]
    | cons e es =>
      have : Instr.findNow (.struct (Tryz.prog.fieldsOf 68)) x.val (e :: es) 0 = none := by
        unfold Instr.findNow
        cases x
        simp [Instr.sameNow]
      simp only [Instr.findKey, Sem.run_bind, run_underlying Tryz.underlying68, Result.andThen_ok]
      simp only [Nat.zero_add] at ha
      first | (rw [this]; exact ha) | (simp [Instr.findNow, Instr.sameNow, Nm.val]; exact ha)
  stays := fun x w => by
    have : Instr.sameBits 10000 x.val x.val = true := by
      obtain ⟨a, b, c, d, e⟩ := x
      simp [Nm.val, Nm.cells, Instr.sameBits, beq_toListBytes]
    simp [Instr.keyThatStays, this]
end Go.Proofs.YtkpmabknjdgkmaaGreatDoor
