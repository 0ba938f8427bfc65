/- The operations of the laws on terminals: maps keyed by integers; the walk of short. No condition but that sizes fit the machine. -/
import Derived.Test.YtkpmabknjdgkmaaGreatDoorLaw4
namespace Go.Proofs.YtkpmabknjdgkmaaGreatDoor
open Go.RowKit

theorem findNow_int (x : Int) : ∀ (l : List Int) (es : List MapEntry) (i : Nat), es.map (·.key) = l.map (Value.int .i64) →
    Instr.findNow (.int .i64) (.int .i64 x) es i = some ((l.findIdx? (fun y => decide (x = y))).bind fun j => (es[j]?).map fun e => (i + j, e.val))
  | [], es, i, h => by
    obtain rfl : es = [] := by simpa using h
    simp [Instr.findNow]
  | y :: l, [], i, h => by simp at h
  | y :: l, e :: es, i, h => by
    simp only [List.map_cons, List.cons.injEq] at h
    have ih := findNow_int x l es (i + 1) h.2
    by_cases hxy : x = y
    · simp [Instr.findNow, h.1, Instr.sameNow, hxy, List.findIdx?_cons]
    · have hf : (x == y) = false := by rw [beq_eq_false_iff_ne]; exact hxy
      simp only [Instr.findNow, h.1, Instr.sameNow, hf, if_true, ih, hxy, List.findIdx?_cons, decide_false, Bool.false_eq_true, if_false]
      cases l.findIdx? (fun y => decide (x = y)) with
      | none => simp
      | some j => simp [Nat.add_assoc, Nat.add_comm 1 j]

theorem keyOk_int : KeyOk Tryz.prog 3 (Value.int .i64) where
  check := fun em x w => by cases em <;> kernel_rfl
  find := fun x l es w h => by
    have := findNow_int x l es 0 h
    simp only [Nat.zero_add] at this
    simp [Instr.findKey, run_underlying Tryz.underlying3, Result.andThen, this]
  stays := fun x w => by simp [Instr.keyThatStays, Instr.sameBits]

/-- An operation of the laws. -/
structure Opn where
  kind : Int
  number : Int
  epoch : Int
  who : ByteArray
  text : ByteArray
def Opn.cells (o : Opn) : List Value := [.int .u8 o.kind, .int .i64 o.number, .int .i64 o.epoch, .string o.who, .string o.text]
def Opn.val (o : Opn) : Value := .agg o.cells.toArray
def Opn.cut (o : Opn) : Opn := ⟨o.kind, o.number, o.epoch, o.who.extract 0 (min o.who.size 100), o.text.extract 0 (min o.text.size 3000)⟩

/-- Four cells of a block are stored anew. -/
theorem Blk.set4 {w : World} {g : Nat} {t : TypeId} {a0 a1 a2 a3 : Value} (h : Blk w g t #[a0, a1, a2, a3]) (v0 v1 v2 v3 : Value) :
    Blk ((((w.setCell ⟨g, 0, none⟩ v0).setCell ⟨g, 1, none⟩ v1).setCell ⟨g, 2, none⟩ v2).setCell ⟨g, 3, none⟩ v3) g t #[v0, v1, v2, v3] :=
  (((h.set_ 0 v0).set_ 1 v1).set_ 2 v2).set_ 3 v3
theorem Kpt.set4 {S : Nat → Prop} {a w : World} {g : Nat} (h : Kpt S a w) (hg : g < a.heap.size → S g) (v0 v1 v2 v3 : Value) :
    Kpt S a ((((w.setCell ⟨g, 0, none⟩ v0).setCell ⟨g, 1, none⟩ v1).setCell ⟨g, 2, none⟩ v2).setCell ⟨g, 3, none⟩ v3) :=
  (((h.setCell (p := ⟨g, 0, none⟩) hg v0).setCell (p := ⟨g, 1, none⟩) hg v1).setCell (p := ⟨g, 2, none⟩) hg v2).setCell (p := ⟨g, 3, none⟩) hg v3

/-- Five cells of a block are stored anew, as they were. -/
theorem Blk.same5 {w : World} {g : Nat} {t : TypeId} {v0 v1 v2 v3 v4 : Value} (h : Blk w g t #[v0, v1, v2, v3, v4]) :
    Blk (((((w.setCell ⟨g, 0, none⟩ v0).setCell ⟨g, 1, none⟩ v1).setCell ⟨g, 2, none⟩ v2).setCell ⟨g, 3, none⟩ v3).setCell ⟨g, 4, none⟩ v4) g t #[v0, v1, v2, v3, v4] :=
  ((((h.set_ 0 v0).set_ 1 v1).set_ 2 v2).set_ 3 v3).set_ 4 v4
theorem Kpt.set5 {S : Nat → Prop} {a w : World} {g : Nat} (h : Kpt S a w) (hg : g < a.heap.size → S g) (v0 v1 v2 v3 v4 : Value) :
    Kpt S a (((((w.setCell ⟨g, 0, none⟩ v0).setCell ⟨g, 1, none⟩ v1).setCell ⟨g, 2, none⟩ v2).setCell ⟨g, 3, none⟩ v3).setCell ⟨g, 4, none⟩ v4) :=
  ((((h.setCell (p := ⟨g, 0, none⟩) hg v0).setCell (p := ⟨g, 1, none⟩) hg v1).setCell (p := ⟨g, 2, none⟩) hg v2).setCell (p := ⟨g, 3, none⟩) hg v3).setCell (p := ⟨g, 4, none⟩) hg v4

theorem tmv_zero (w : World) (D : Nat → Prop) : TmV w D zeroT (.agg #[.int .i64 zeroT.epoch, .string zeroT.session, .slice none zeroT.typed.length 0, .string zeroT.screen]) := ⟨none, 0, rfl, by simp [zeroT], by simp [maxLen], Rd.nil _ _ _ _⟩
theorem TmV.parts {w : World} {D : Nat → Prop} {t : Tm} {A : Option Addr} {c : Nat} {e1 e2 e3 : Value} (h : TmV w D t (.agg #[e1, e2, .slice A t.typed.length c, e3])) : t.typed.length ≤ c ∧ c ≤ maxLen ∧ Rd w D 1 A t.typed.length (t.typed.map Value.string) := by
  obtain ⟨A', c', e, h1, h2, h3⟩ := h
  simp only [Value.agg.injEq, Array.mk.injEq, List.cons.injEq, Value.slice.injEq, and_true, true_and] at e
  obtain ⟨_, _, ⟨rfl, rfl⟩, _⟩ := e
  exact ⟨h1, h2, h3⟩
theorem cut_gt {s : ByteArray} {n : Nat} (h : n ≤ s.size) : s.extract 0 (min s.size n) = s.extract 0 n := by rw [Nat.min_eq_right h]
theorem cut_le {s : ByteArray} {n : Nat} (h : s.size ≤ n) : s.extract 0 (min s.size n) = s := by rw [Nat.min_eq_left h, ByteArray.extract_zero_size]

set_option maxRecDepth 100000 in
set_option maxHeartbeats 1000000 in
theorem f118_any (o : Opn) (w : World) (h1 : o.who.size ≤ 140737488351232) (h2 : o.text.size ≤ 140737488351232) :
    Calls Tryz.prog 69 #[o.val] w fun e w' => e = .returned o.cut.val ∧ Kpt Non w w' := by
  obtain ⟨k, n, ep, who, text⟩ := o
  unfold Opn.cut Opn.val Opn.cells
  simp only at h1 h2 ⊢
  by_cases ha : (100 : Int) < (who.size : Int) <;> by_cases hb : (3000 : Int) < (text.size : Int)
  · rw [cut_gt (n := 100) (by omega), cut_gt (n := 3000) (by omega)]
    go_enter Tryz.func69, Tryz.ntmps69
    go_wp2_with fail
    have hb2 := Blk.new (w.alloc (.cells #[.int .u8 k, .int .i64 n, .int .i64 ep, .string (who.extract 0 100), .string (text.extract 0 3000)] 74)) 74 #[.int .u8 k, .int .i64 n, .int .i64 ep, .string (who.extract 0 100), .string (text.extract 0 3000)]
    have y0 := hb2.cell 0
    have y1 := hb2.cell 1
    have y2 := hb2.cell 2
    have y3 := hb2.cell 3
    have y4 := hb2.cell 4
    simp only [World.size_alloc, List.getElem?_toArray, List.getElem?_cons_zero, List.getElem?_cons_succ] at y0 y1 y2 y3 y4
    refine bodyPost_ret (v := .agg #[.int .u8 k, .int .i64 n, .int .i64 ep, .string (who.extract 0 100), .string (text.extract 0 3000)]) ?_ rfl ⟨rfl, Kpt.alloc (Kpt.alloc (Kpt.refl _ _) _) _⟩
    generalize ((w.alloc (.cells #[.int .u8 k, .int .i64 n, .int .i64 ep, .string (who.extract 0 100), .string (text.extract 0 3000)] 74)).alloc (.cells #[.int .u8 k, .int .i64 n, .int .i64 ep, .string (who.extract 0 100), .string (text.extract 0 3000)] 74)) = wf at y0 y1 y2 y3 y4
    simp [results, Tryz.results69, go_sem, y0, y1, y2, y3, y4]
  · rw [cut_gt (n := 100) (by omega), cut_le (n := 3000) (by omega)]
    go_enter Tryz.func69, Tryz.ntmps69
    go_wp2_with fail
    have hb2 := Blk.new (w.alloc (.cells #[.int .u8 k, .int .i64 n, .int .i64 ep, .string (who.extract 0 100), .string (text)] 74)) 74 #[.int .u8 k, .int .i64 n, .int .i64 ep, .string (who.extract 0 100), .string (text)]
    have y0 := hb2.cell 0
    have y1 := hb2.cell 1
    have y2 := hb2.cell 2
    have y3 := hb2.cell 3
    have y4 := hb2.cell 4
    simp only [World.size_alloc, List.getElem?_toArray, List.getElem?_cons_zero, List.getElem?_cons_succ] at y0 y1 y2 y3 y4
    refine bodyPost_ret (v := .agg #[.int .u8 k, .int .i64 n, .int .i64 ep, .string (who.extract 0 100), .string (text)]) ?_ rfl ⟨rfl, Kpt.alloc (Kpt.alloc (Kpt.refl _ _) _) _⟩
    generalize ((w.alloc (.cells #[.int .u8 k, .int .i64 n, .int .i64 ep, .string (who.extract 0 100), .string (text)] 74)).alloc (.cells #[.int .u8 k, .int .i64 n, .int .i64 ep, .string (who.extract 0 100), .string (text)] 74)) = wf at y0 y1 y2 y3 y4
    simp [results, Tryz.results69, go_sem, y0, y1, y2, y3, y4]
  · rw [cut_le (n := 100) (by omega), cut_gt (n := 3000) (by omega)]
    go_enter Tryz.func69, Tryz.ntmps69
    go_wp2_with fail
    have hb2 := Blk.new (w.alloc (.cells #[.int .u8 k, .int .i64 n, .int .i64 ep, .string (who), .string (text.extract 0 3000)] 74)) 74 #[.int .u8 k, .int .i64 n, .int .i64 ep, .string (who), .string (text.extract 0 3000)]
    have y0 := hb2.cell 0
    have y1 := hb2.cell 1
    have y2 := hb2.cell 2
    have y3 := hb2.cell 3
    have y4 := hb2.cell 4
    simp only [World.size_alloc, List.getElem?_toArray, List.getElem?_cons_zero, List.getElem?_cons_succ] at y0 y1 y2 y3 y4
    refine bodyPost_ret (v := .agg #[.int .u8 k, .int .i64 n, .int .i64 ep, .string (who), .string (text.extract 0 3000)]) ?_ rfl ⟨rfl, Kpt.alloc (Kpt.alloc (Kpt.refl _ _) _) _⟩
    generalize ((w.alloc (.cells #[.int .u8 k, .int .i64 n, .int .i64 ep, .string (who), .string (text.extract 0 3000)] 74)).alloc (.cells #[.int .u8 k, .int .i64 n, .int .i64 ep, .string (who), .string (text.extract 0 3000)] 74)) = wf at y0 y1 y2 y3 y4
    simp [results, Tryz.results69, go_sem, y0, y1, y2, y3, y4]
  · rw [cut_le (n := 100) (by omega), cut_le (n := 3000) (by omega)]
    go_enter Tryz.func69, Tryz.ntmps69
    go_wp2_with fail
    have hb2 := Blk.new (w.alloc (.cells #[.int .u8 k, .int .i64 n, .int .i64 ep, .string (who), .string (text)] 74)) 74 #[.int .u8 k, .int .i64 n, .int .i64 ep, .string (who), .string (text)]
    have y0 := hb2.cell 0
    have y1 := hb2.cell 1
    have y2 := hb2.cell 2
    have y3 := hb2.cell 3
    have y4 := hb2.cell 4
    simp only [World.size_alloc, List.getElem?_toArray, List.getElem?_cons_zero, List.getElem?_cons_succ] at y0 y1 y2 y3 y4
    refine bodyPost_ret (v := .agg #[.int .u8 k, .int .i64 n, .int .i64 ep, .string (who), .string (text)]) ?_ rfl ⟨rfl, Kpt.alloc (Kpt.alloc (Kpt.refl _ _) _) _⟩
    generalize ((w.alloc (.cells #[.int .u8 k, .int .i64 n, .int .i64 ep, .string (who), .string (text)] 74)).alloc (.cells #[.int .u8 k, .int .i64 n, .int .i64 ep, .string (who), .string (text)] 74)) = wf at y0 y1 y2 y3 y4
    simp [results, Tryz.results69, go_sem, y0, y1, y2, y3, y4]
end Go.Proofs.YtkpmabknjdgkmaaGreatDoor
