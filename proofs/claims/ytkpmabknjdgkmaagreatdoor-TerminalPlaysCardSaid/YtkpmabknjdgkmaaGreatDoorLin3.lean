import Derived.Test.YtkpmabknjdgkmaaGreatDoorLin2
import Derived.Maps.AppendAt
namespace Go.Proofs.YtkpmabknjdgkmaaGreatDoor
open Go.RowKit Go.Shelf
attribute [local go_sem] Oper.semAt_some

theorem f214_stops (n : Nat) (hn : 3 ≤ n) (n₀ Bn : Nat) (s : ByteArray) (hs : s.size ≤ 140737488351232) (w : World) (hBk : Blk w Bn 9 #[.string s]) :
    SeqStopsK Fence.wide n Tryz.prog 110 #[.pointer (some ⟨Bn, 0, none⟩)] LPart.val (KpP n₀) (fun ys => ys = partsOf s.data.toList) (fun pre => pre <+: partsOf s.data.toList) 10 w := fun l J Jx W hW hJ _ hY h0 =>
  f214_in n l Bn n₀ hn s hs J Jx W hJ hY (by have := hW.block Bn hBk.lt; exact this.trans hBk) h0

set_option maxHeartbeats 400000 in
theorem f165_any (s : ByteArray) (w : World) :
    Calls Tryz.prog 81 #[.string s] w fun e w' => e = .returned (.func (.func 110) #[] #[.pointer (some ⟨w.heap.size, 0, none⟩)]) ∧ w.alloc (.cells #[.string s] 9) = w' := by
  go_enter Tryz.func81, Tryz.ntmps81
  go_wp2
  go_ret
  exact ⟨rfl, rfl⟩

theorem info3 : (Tryz.prog.info? 3).map (fun i => (i.zero, i.size, i.bytes)) = some (some (.int .i64 0), 1, 8) := by kernel_rfl

theorem own_base_mono {w : World} {base base' : Nat} {e : TypeId} {size n : Nat} {v : Value} {xs : List Value} (h : w.ownsRow base e size v n xs) (hb : base' ≤ base) : w.ownsRow base' e size v n xs := by
  refine ⟨h.1, ?_⟩
  rcases h.2 with h | ⟨g, cap, cur, hv, hg, r⟩
  · exact .inl h
  · exact .inr ⟨g, cap, cur, hv, Nat.le_trans hb hg, r⟩

theorem keep_row {W w1 : World} {base B : Nat} {e t : TypeId} {size k i : Nat} {v v' : Value} {xs : List Value} {tmp : Obj} {cs : Array Value} {fr : Nat × Nat} (hrow : W.ownsRow base e size v k xs) (hgrow : (W.alloc tmp).grownBy w1 v.ownBlock)
    (hi : W.heap[i]? = some (Obj.cells cs t fr)) (ht : t ≠ e ∨ i < base) (hne : i ≠ B) : (w1.setCell ⟨B, 0, none⟩ v').heap[i]? = some (Obj.cells cs t fr) := by
  have hlt := (Array.getElem?_eq_some_iff.1 hi).1
  refine (Below.heap_setCell _ _ _ _ hne).trans ((hgrow.block i (by simp; omega) (fun e' => ?_)).trans ((Below.heap_alloc W _ i hlt).trans hi))
  rcases hrow.2 with ⟨rfl, _⟩ | ⟨g, cap, cur, rfl, hg, hgb, _⟩
  · simp [Value.ownBlock] at e'
  · have : i = g := by simpa [Value.ownBlock] using e'
    subst this
    rw [hi] at hgb
    cases hgb
    rcases ht with ht | ht
    · exact ht rfl
    · omega

theorem lparse_ok {l : List UInt8} (h : ∀ p ∈ partsOf l, p.err = 0) : lparse l = ((partsOf l).map (·.ord), 0, 0) := by
  have : (partsOf l).find? (fun p => decide (p.err ≠ 0)) = none := by
    rw [List.find?_eq_none]
    intro p hp
    simp [h p hp]
  unfold lparse
  rw [this]
theorem lparse_err {l : List UInt8} {pre : List LPart} {x : LPart} (h : ∀ p ∈ pre, p.err = 0) (hx : x.err ≠ 0) (hp : pre ++ [x] <+: partsOf l) : lparse l = ([], x.pos, x.err) := by
  have : (partsOf l).find? (fun p => decide (p.err ≠ 0)) = some x := by
    obtain ⟨t, ht⟩ := hp
    rw [← ht, List.append_assoc, List.find?_append, List.find?_eq_none.2 (fun p hp => by simp [h p hp])]
    simp [hx]
  unfold lparse
  rw [this]

theorem boxed_putObj {W : World} {B l : Nat} {t : TypeId} {v : Value} {d : Option (List Deferred)} (h : Boxed W B t v) (o : Obj) (hl : W.heap[l]? = some (.deferred d)) : Boxed (W.putObj l o) B t v :=
  (World.putObj_heap_other (by rintro rfl; rw [show W.heap[B]? = _ from h] at hl; cases hl)).trans h

/-- The box of a part. -/
def Boxed' (W : World) (B : Nat) (x : LPart) : Prop := Blk W B 138 #[.int .i64 x.ord, .int .i64 x.pos, .int .i64 x.err]

/-- What has come, no error among it. -/
def okPre (pre : List LPart) : Prop := ∀ p ∈ pre, p.err = 0

set_option maxRecDepth 100000 in
set_option maxHeartbeats 2000000 in
theorem f98_any (s : ByteArray) (hs : s.size ≤ 140737488351232) (w : World) :
    Calls Tryz.prog 49 #[.string s] w fun e w' => ∃ v, e = .returned (.tuple #[v, .int .i64 (lparse s.data.toList).2.1, .int .i64 (lparse s.data.toList).2.2]) ∧
      w'.ownsRow w.heap.size 3 1 v (lparse s.data.toList).1.length ((lparse s.data.toList).1.map (Value.int .i64)) ∧ Kpt Non w w' := by
  refine (callsIn_wide (n := 6)).1 ?_
  refine callsIn_of_wp_marks Tryz.func49 rfl trivial ?_ rfl
  simp only [Tryz.ntmps49, List.size_toArray, List.length_cons, List.length_nil, Nat.reduceAdd, Nat.reduceSub, Array.replicate_succ, Array.replicate_zero, List.push_toArray, List.append_toArray, List.nil_append, List.cons_append]
  gi_wp2_with (refine ⟨trivial, ?_⟩; gi_at_call 81; refine (callsIn_wide.2 (f165_any s _)).mono ?_; rintro e w' ⟨rfl, rfl⟩)
  obtain ⟨W0, hW0⟩ : ∃ W0, ((((w.alloc (Obj.cells #[Value.slice none 0 0] 100)).alloc (Obj.cells #[Value.int IntKind.i64 0] 3)).alloc (Obj.cells #[Value.int IntKind.i64 0] 29)).alloc (Obj.cells #[Value.slice none 0 0] 100)).alloc (Obj.cells #[.string s] 9) = W0 := ⟨_, rfl⟩
  have hsz : W0.heap.size = w.heap.size + 5 := by rw [← hW0]; simp
  have b0 : Boxed W0 w.heap.size 100 (.slice none 0 0) := by rw [← hW0]; exact ((((Boxed.new w 100 _).alloc _).alloc _).alloc _).alloc _
  have b1 : Boxed W0 (w.heap.size + 1) 3 (.int .i64 0) := by
    rw [← hW0]; have := Boxed.new (w.alloc (Obj.cells #[Value.slice none 0 0] 100)) 3 (.int .i64 0); rw [World.size_alloc] at this; exact ((this.alloc _).alloc _).alloc _
  have b2 : Boxed W0 (w.heap.size + 1 + 1) 29 (.int .i64 0) := by
    rw [← hW0]; have := Boxed.new ((w.alloc (Obj.cells #[Value.slice none 0 0] 100)).alloc (Obj.cells #[Value.int IntKind.i64 0] 3)) 29 (.int .i64 0); rw [World.size_alloc, World.size_alloc] at this; exact (this.alloc _).alloc _
  have b3 : Boxed W0 (w.heap.size + 1 + 1 + 1) 100 (.slice none 0 0) := by
    rw [← hW0]; have := Boxed.new (((w.alloc (Obj.cells #[Value.slice none 0 0] 100)).alloc (Obj.cells #[Value.int IntKind.i64 0] 3)).alloc (Obj.cells #[Value.int IntKind.i64 0] 29)) 100 (.slice none 0 0); rw [World.size_alloc, World.size_alloc, World.size_alloc] at this; exact this.alloc _
  have b4 : Blk W0 (w.heap.size + 1 + 1 + 1 + 1) 9 #[.string s] := by
    rw [← hW0]; have := Blk.new ((((w.alloc (Obj.cells #[Value.slice none 0 0] 100)).alloc (Obj.cells #[Value.int IntKind.i64 0] 3)).alloc (Obj.cells #[Value.int IntKind.i64 0] 29)).alloc (Obj.cells #[Value.slice none 0 0] 100)) 9 #[.string s]; rw [World.size_alloc, World.size_alloc, World.size_alloc, World.size_alloc] at this; exact this
  have hB0 : Below w.heap.size w W0 := by rw [← hW0]; exact (((((Below.refl _ w).alloc (Nat.le_refl _) _).alloc (by simp) _).alloc (by simp; omega) _).alloc (by simp; omega) _).alloc (by simp; omega) _
  rw [hW0]
  clear hW0
  refine wpIn_rangeFunc_ownH rfl (by omega) (gf := 110) (lb := #[.pointer (some ⟨w.heap.size + 1 + 1 + 1 + 1, 0, none⟩)]) rfl trivial (enters_of Tryz.func110 (by kernel_rfl) rfl)
    (f214_stops 5 (by omega) w.heap.size (w.heap.size + 1 + 1 + 1 + 1) s hs W0 b4) KpP.t (KpP.b (by omega)) (Below.refl _ _) (fun _ => rfl)
    (fun pre W => (okPre pre ∧ Boxed W w.heap.size 100 (.slice none 0 0) ∧ Boxed W (w.heap.size + 1) 3 (.int .i64 0) ∧ Boxed W (w.heap.size + 1 + 1) 29 (.int .i64 0) ∧
      (∃ v, Boxed W (w.heap.size + 1 + 1 + 1) 100 v ∧ W.ownsRow W0.heap.size 3 1 v pre.length (pre.map fun p => Value.int .i64 p.ord) ∧ True)) ∧ (W0.heap.size ≤ W.heap.size ∧ Below w.heap.size w W))
    (fun c pre W => (c = .ret ∧ ∃ pre0 x, pre = pre0 ++ [x] ∧ okPre pre0 ∧ x.err ≠ 0 ∧ Boxed W w.heap.size 100 (.slice none 0 0) ∧ Boxed W (w.heap.size + 1) 3 (.int .i64 x.pos) ∧ Boxed W (w.heap.size + 1 + 1) 29 (.int .i64 x.err)) ∧ Below w.heap.size w W)
    ?hI ?hIx ?h0
    (fun x a' W => ∃ Bx, Boxed' W Bx x ∧ a' = { tmps := #[Value.string s, undef, Value.pointer (some { block := w.heap.size, off := 0 }), Value.pointer (some { block := w.heap.size + 1, off := 0 }), Value.pointer (some { block := w.heap.size + 1 + 1, off := 0 }),
              Value.pointer (some { block := w.heap.size + 1 + 1 + 1, off := 0 }), .pointer (some ⟨Bx, 0, none⟩), Value.string s, .func (.func 110) #[] #[.pointer (some ⟨w.heap.size + 1 + 1 + 1 + 1, 0, none⟩)], .agg #[.int .i64 x.ord, .int .i64 x.pos, .int .i64 x.err],
              undef, undef, undef, undef, undef, undef, undef, undef, undef, undef, undef, undef, undef], defers := [] })
    ?hAx ?assign ?body ?done ?stop
  case hI =>
    refine OwnFrom.and ?_ (OwnFrom.and (fun _ A B row hs hg _ => Nat.le_trans hs hg.size) (ownFrom_below (Nat.le_refl _) (by omega)))
    rintro pre A B row ⟨h1, h2, h3, h4, h5⟩ hg hr
    have hr' := fun r e => (hr r e).2
    exact ⟨h1, (boxed_own _ _ (fun _ : Unit => _)) () A B row h2 hg hr', (boxed_own _ _ (fun _ : Unit => _)) () A B row h3 hg hr', (boxed_own _ _ (fun _ : Unit => _)) () A B row h4 hg hr',
      holdsRow_own W0.heap.size _ 100 3 1 (fun pre : List LPart => pre.length) (fun pre : List LPart => pre.map fun p => Value.int .i64 p.ord) (fun _ _ => True) pre A B row h5 hg hr'⟩
  case hIx =>
    intro c
    refine OwnFrom.and ?_ (ownFrom_below (Nat.le_refl _) (by omega))
    rintro pre A B row ⟨h0, pre0, x, h1, h2, h2', h3, h4, h5⟩ hg hr
    have hr' := fun r e => (hr r e).2
    exact ⟨h0, pre0, x, h1, h2, h2', (boxed_own _ _ (fun _ : Unit => _)) () A B row h3 hg hr', (boxed_own _ _ (fun _ : Unit => _)) () A B row h4 hg hr', (boxed_own _ _ (fun _ : Unit => _)) () A B row h5 hg hr'⟩
  case h0 => exact ⟨⟨fun p hp => by simp at hp, b0, b1, b2, _, b3, World.ownsRow_nil _ _ _ _, trivial⟩, Nat.le_refl _, hB0⟩
  case hAx =>
    rintro x a' _ A B row ⟨Bx, h2, h3⟩ hg hr
    refine ⟨Bx, ?_, h3⟩
    exact (hg.block Bx (Blk.lt h2) (fun e => by obtain ⟨_, o, ho, hc⟩ := hr Bx e.symm; rw [show A.heap[Bx]? = _ from h2] at ho; cases ho; cases hc)).trans h2
  case assign =>
    rintro l pre x W K ⟨⟨hok, c0, c1, c2, v, c3, hrow, _⟩, hW, hB⟩ hK
    dsimp only [LPart.val]
    gi_wp2
    exact hK _ _ ((KeepsOthers.alloc _ _).from _) ⟨(Below.refl _ W).alloc hB.size _, fun i cs t fr _ hi => (Below.heap_alloc W _ i (Array.getElem?_eq_some_iff.1 hi).1).trans hi⟩ ⟨⟨hok, c0.alloc _, c1.alloc _, c2.alloc _, v, c3.alloc _, hrow.alloc _, trivial⟩, by simp; omega, hB.alloc hB.size _⟩
      ⟨W.heap.size, Blk.new W 138 _, rfl⟩
  case body =>
    rintro l pre x a' W hl ⟨r, hr⟩ ⟨⟨hok, c0, c1, c2, v, c3, hrow, _⟩, hW, hB⟩ ⟨Bx, bX, rfl⟩ hlt
    have x0 : W.cell? ⟨Bx, 0, none⟩ = some (.int .i64 x.ord) := Blk.cell bX 0
    have x1 : W.cell? ⟨Bx, 1, none⟩ = some (.int .i64 x.pos) := Blk.cell bX 1
    have x2 : W.cell? ⟨Bx, 2, none⟩ = some (.int .i64 x.err) := Blk.cell bX 2
    have cc0 := c0.cell
    have cc1 := c1.cell
    have cc2 := c2.cell
    have cc3 := c3.cell
    have cf0 := c0.frozen
    have cf1 := c1.frozen
    have cf2 := c2.frozen
    have cf3 := c3.frozen
    by_cases he : x.err = 0
    · have he' : (x.err != 0) = false := by rw [bne_eq_false_iff_eq]; exact he
      have HE := Lib.hid he; clear he
      obtain ⟨i0, hi, hz0, hz1, hz2⟩ := info_parts info3
      gi_wp2_with (gi_at_builtin; refine wpListIn_append_own _ rfl _ _ 100 rfl W0.heap.size 3 i0 (.int .i64 0) 1 8 Tryz.underlying100 hi hz0 hz1 hz2 rfl (by decide) _ _ _ rfl (hrow.alloc _) ⟨W.heap.size, 0, none⟩ 1 1 [.int .i64 x.ord] rfl rfl (cell_one_new _ _ _) (by simp [Value.oneCell']) (by simp only [maxLen]; omega) (by omega) (by simp; omega) ?_; intro v' w1 hown' hgrow _; obtain ⟨g', cap', rfl⟩ := ownsRow_succ hown'; obtain ⟨hv1, hv2, hr2, hk2, _⟩ := c3.appended (by decide) (own_base_mono hrow (Nat.zero_le _)) (Nat.zero_le _) (Nat.zero_le _) (own_base_mono hown' (Nat.zero_le _)) hgrow; have hc1 := hv1.cell; have hf1 := hv1.frozen)
      have kk := fun (i : Nat) (cs : Array Value) (t : TypeId) (fr : Nat × Nat) (hi : W.heap[i]? = some (Obj.cells cs t fr)) (ht : t ≠ 3 ∨ i < W0.heap.size) (hne : i ≠ w.heap.size + 1 + 1 + 1) => keep_row hrow hgrow (v' := Value.slice (some { block := g', off := 0 }) (pre.length + 1) cap') hi ht hne
      have hb2 : Below w.heap.size W (w1.setCell { block := w.heap.size + 1 + 1 + 1, off := 0 } (Value.slice (some { block := g', off := 0 }) (pre.length + 1) cap')) :=
        (((Below.refl w.heap.size W).alloc hB.size _).grown hgrow (by have := hB.size; simp; omega) (fun j ej => by have := (hrow.lt j ej).1; omega)).setCell (p := ⟨w.heap.size + 1 + 1 + 1, 0, none⟩) (by simp; omega) _
      have hr3 := hown'.kept (grownBy_setCell' w1 (w.heap.size + 1 + 1 + 1) (Value.slice (some { block := g', off := 0 }) (pre.length + 1) cap')) (.inr (hv1.not_row (by decide) hown').symm)
      refine ⟨hk2.from _, ⟨hb2, fun i cs t fr ht hi => kk i cs t fr hi (.inl (by rintro rfl; simp at ht)) (by rintro rfl; rw [show W.heap[w.heap.size + 1 + 1 + 1]? = _ from c3] at hi; cases hi; simp at ht)⟩,
        ⟨?_, kk _ _ _ _ c0 (.inl (by decide)) (by omega), kk _ _ _ _ c1 (.inr (by omega)) (by omega), kk _ _ _ _ c2 (.inl (by decide)) (by omega), _, hv2, by simpa using hr3, trivial⟩, by have := hgrow.size; simp at this; simp [World.setCell]; omega, hB.trans hb2⟩
      intro p hp
      rcases List.mem_append.1 hp with hp | hp
      · exact hok p hp
      · rw [List.mem_singleton.1 hp]; exact HE.out
    · have he' : (x.err != 0) = true := by rw [bne_iff_ne]; exact he
      have HE := Lib.hid he; clear he
      have hmix : Tryz.prog.follows .mixedOrders = true := by kernel_rfl
      gi_wp2
      gi_region_with_o (fail)
      all_goals gi_wp2
      all_goals
        refine ⟨?_, ⟨rfl, pre, x, rfl, hok, HE.out, ?_, ?_, ?_⟩, ?_⟩
        · exact (((KeepsOthers.setCell _ _ _).trans ((KeepsOthers.setCell _ _ _).trans ((KeepsOthers.setCell _ _ _).trans (KeepsOthers.drew _))))).from _
        · exact ((c0.set _).other (by omega) _).other (by omega) _
        · exact ((c1.other (by omega) _).set _).other (by omega) _
        · exact ((c2.other (by omega) _).other (by omega) _).set _
        · exact (((hB.setCell (p := ⟨w.heap.size, 0, none⟩) (Nat.le_refl _) _).setCell (p := ⟨w.heap.size + 1, 0, none⟩) (by simp) _).setCell (p := ⟨w.heap.size + 1 + 1, 0, none⟩) (by simp; omega) _).drew
  case done =>
    rintro D ys W hD rfl ⟨⟨hok, c0, c1, c2, v, c3, hrow, _⟩, hW, hB⟩ hK
    have cc0 := c0.cell
    have cc1 := c1.cell
    have cc2 := c2.cell
    have cc3 := c3.cell
    have cf0 := c0.frozen
    have cf1 := c1.frozen
    have cf2 := c2.frozen
    have cf3 := c3.frozen
    obtain ⟨A, c, rfl, _⟩ := own_slice hrow
    gi_wp2
    have HR := lparse_ok hok
    refine ⟨by simp, .inl ⟨_, _, rfl, run_takeDeferred (((KeepsOthers.setCell W _ _).trans ((KeepsOthers.setCell _ _ _).trans (KeepsOthers.setCell _ _ _))).same D _ hK rfl), ?_⟩⟩
    have d0 : Boxed (((W.setCell { block := w.heap.size, off := 0 } (Value.slice A (partsOf s.data.toList).length c)).setCell { block := w.heap.size + 1, off := 0 } (Value.int IntKind.i64 0)).setCell { block := w.heap.size + 1 + 1, off := 0 } (Value.int IntKind.i64 0)) w.heap.size 100 (Value.slice A (partsOf s.data.toList).length c) := ((c0.set _).other (by omega) _).other (by omega) _
    have d1 : Boxed (((W.setCell { block := w.heap.size, off := 0 } (Value.slice A (partsOf s.data.toList).length c)).setCell { block := w.heap.size + 1, off := 0 } (Value.int IntKind.i64 0)).setCell { block := w.heap.size + 1 + 1, off := 0 } (Value.int IntKind.i64 0)) (w.heap.size + 1) 3 (.int .i64 0) := ((c1.other (by omega) _).set _).other (by omega) _
    have d2 : Boxed (((W.setCell { block := w.heap.size, off := 0 } (Value.slice A (partsOf s.data.toList).length c)).setCell { block := w.heap.size + 1, off := 0 } (Value.int IntKind.i64 0)).setCell { block := w.heap.size + 1 + 1, off := 0 } (Value.int IntKind.i64 0)) (w.heap.size + 1 + 1) 29 (.int .i64 0) := ((c2.other (by omega) _).other (by omega) _).set _
    have hK' := ((KeepsOthers.setCell W { block := w.heap.size, off := 0 } (Value.slice A (partsOf s.data.toList).length c)).trans ((KeepsOthers.setCell _ { block := w.heap.size + 1, off := 0 } (Value.int IntKind.i64 0)).trans (KeepsOthers.setCell _ { block := w.heap.size + 1 + 1, off := 0 } (Value.int IntKind.i64 0)))).same D _ hK rfl
    have hr' : (((W.setCell { block := w.heap.size, off := 0 } (Value.slice A (partsOf s.data.toList).length c)).setCell { block := w.heap.size + 1, off := 0 } (Value.int IntKind.i64 0)).setCell { block := w.heap.size + 1 + 1, off := 0 } (Value.int IntKind.i64 0)).ownsRow W0.heap.size 3 1 (Value.slice A (partsOf s.data.toList).length c) (partsOf s.data.toList).length ((partsOf s.data.toList).map fun p => Value.int .i64 p.ord) :=
      ownsRow_setCell_below (ownsRow_setCell_below (ownsRow_setCell_below hrow (a := ⟨w.heap.size, 0, none⟩) (by simp; omega) _) (a := ⟨w.heap.size + 1, 0, none⟩) (by simp; omega) _) (a := ⟨w.heap.size + 1 + 1, 0, none⟩) (by simp; omega) _
    have hB' : Below w.heap.size w (((W.setCell { block := w.heap.size, off := 0 } (Value.slice A (partsOf s.data.toList).length c)).setCell { block := w.heap.size + 1, off := 0 } (Value.int IntKind.i64 0)).setCell { block := w.heap.size + 1 + 1, off := 0 } (Value.int IntKind.i64 0)) :=
      ((hB.setCell (p := ⟨w.heap.size, 0, none⟩) (Nat.le_refl _) _).setCell (p := ⟨w.heap.size + 1, 0, none⟩) (by simp) _).setCell (p := ⟨w.heap.size + 1 + 1, 0, none⟩) (by simp; omega) _
    generalize (((W.setCell { block := w.heap.size, off := 0 } (Value.slice A (partsOf s.data.toList).length c)).setCell { block := w.heap.size + 1, off := 0 } (Value.int IntKind.i64 0)).setCell { block := w.heap.size + 1 + 1, off := 0 } (Value.int IntKind.i64 0)) = W3 at *
    have g0 := (boxed_putObj d0 (.deferred none) hK').cell
    have g1 := (boxed_putObj d1 (.deferred none) hK').cell
    have g2 := (boxed_putObj d2 (.deferred none) hK').cell
    refine ⟨.tuple #[Value.slice A (partsOf s.data.toList).length c, .int .i64 0, .int .i64 0], by simp [results, Tryz.results49, go_sem, g0, g1, g2], Value.slice A (partsOf s.data.toList).length c, by rw [HR], ?_, ?_⟩
    · rw [HR]
      have := ownsRow_putObj (own_base_mono hr' (show w.heap.size ≤ W0.heap.size by omega)) (.deferred none) hK' rfl
      simpa [List.map_map, Function.comp_def] using this
    · exact Kpt.of_below (hB'.trans (belowK_b (w := w) (Nat.le_refl _) _ D _ _ (by omega) hK' rfl rfl))
  case stop =>
    rintro D c pre W hD hpre ⟨⟨rfl, pre0, x, rfl, hok, hx, c0, c1, c2⟩, hB⟩ hK
    have cc0 := c0.cell
    have cc1 := c1.cell
    have cc2 := c2.cell
    gi_wp2
    have HR := lparse_err hok hx hpre
    refine ⟨by simp, .inl ⟨_, _, rfl, run_takeDeferred hK, ?_⟩⟩
    have g0 := (boxed_putObj c0 (.deferred none) hK).cell
    have g1 := (boxed_putObj c1 (.deferred none) hK).cell
    have g2 := (boxed_putObj c2 (.deferred none) hK).cell
    refine ⟨.tuple #[Value.slice none 0 0, .int .i64 x.pos, .int .i64 x.err], by simp [results, Tryz.results49, go_sem, g0, g1, g2], Value.slice none 0 0, by rw [HR], ?_, ?_⟩
    · rw [HR]; exact World.ownsRow_nil _ _ _ _
    · exact Kpt.of_below (hB.trans (belowK_b (w := w) (Nat.le_refl _) _ D _ _ (by omega) hK rfl rfl))
end Go.Proofs.YtkpmabknjdgkmaaGreatDoor
