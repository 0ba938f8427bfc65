/- The walks of package view: Get, call, Set, Mark; state's Get at the empty state. -/
import Derived.Test.YtkpmabknjdgkmaaGreatDoorView
namespace Go.Proofs.YtkpmabknjdgkmaaGreatDoor
open Go.RowKit


set_option maxHeartbeats 400000 in
theorem f122_empty (a : Addr) (nm : Nm) (w : World) (h : w.cell? a = some (.pointer none)) :
    Calls Tryz.prog 73 #[.pointer (some a), nm.val] w fun e w' => e = .returned (.tuple #[.string es, .bool false]) ∧ Kpt Non w w' := by
  have e184 := f184_any a none
  obtain ⟨n1, n2, n3, n4, n5⟩ := nm
  unfold Nm.val Nm.cells
  go_enter Tryz.func73, Tryz.ntmps73
  go_wp2_with fail
  refine (e184 _ (cell_alloc_ h _)).mono ?_
  rintro e w1 ⟨rfl, rfl⟩
  go_wp2_with fail
  refine wp_loop_once ?_
  go_wp2_with fail
  go_ret2
  exact ⟨rfl, (Kpt.refl _ _).alloc _⟩

/-- Name.Check answers OK. -/
def OkNm (nm : Nm) : Prop := ∀ w, Calls Tryz.prog 72 #[nm.val] w fun e w' => e = .returned (.int .i64 0) ∧ Kpt Non w w'

/-- The state at sa answers g, in every world that has the blocks below bs as they are. -/
def StOk (K : Nm → Prop) (bs : Nat) (w : World) (sa : Addr) (g : Nm → Option ByteArray) : Prop :=
  bs ≤ w.heap.size ∧ ∀ nm w', K nm → (∀ k, k < bs → w'.heap[k]? = w.heap[k]?) → bs ≤ w'.heap.size →
    Calls Tryz.prog 73 #[.pointer (some sa), nm.val] w' fun e w'' => e = .returned (.tuple #[.string ((g nm).getD es), .bool (g nm).isSome]) ∧ Kpt Non w' w''

theorem StOk.keep {K : Nm → Prop} {bs : Nat} {w w' : World} {sa : Addr} {g : Nm → Option ByteArray} (h : StOk K bs w sa g) (hk : ∀ k, k < bs → w'.heap[k]? = w.heap[k]?) (hs : bs ≤ w'.heap.size) : StOk K bs w' sa g :=
  ⟨hs, fun nm w'' hK hk' hs' => h.2 nm w'' hK (fun k hlt => (hk' k hlt).trans (hk k hlt)) hs'⟩
theorem StOk.kpt {K : Nm → Prop} {bs : Nat} {w w' : World} {sa : Addr} {g : Nm → Option ByteArray} {S : Nat → Prop} (h : StOk K bs w sa g) (k : Kpt S w w') (hS : ∀ i, S i → bs ≤ i) : StOk K bs w' sa g :=
  h.keep (fun i hi => k.block i (Nat.lt_of_lt_of_le hi h.1) (fun e => by have := hS i e; omega)) (Nat.le_trans h.1 k.size)

theorem StOk.empty (K : Nm → Prop) (w : World) (s : Nat) (h : w.cell? ⟨s, 0, none⟩ = some (.pointer none)) : StOk K w.heap.size w ⟨s, 0, none⟩ (fun _ => none) :=
  ⟨Nat.le_refl _, fun nm w' _ hk _ => f122_empty _ nm w' ((World.cell?_of_block (w := w) (hk s (World.block_lt_of_cell? w _ h))).trans h)⟩

/-- What a view holds. -/
structure VwM where
  g : Nm → Option ByteArray
  reads : List (Nm × Ch)
  now : List (Nm × Ch)
  calls : List Ch
/-- What View.Get answers, and what the view is then. -/
def VwM.get (m : VwM) (nm : Nm) : ByteArray × Bool := match aget nm m.now with
  | some c => (c.value, !c.absent)
  | none => ((m.g nm).getD es, (m.g nm).isSome)
def VwM.got (m : VwM) (nm : Nm) : VwM := match aget nm m.now with
  | some _ => m
  | none => { m with reads := aset nm ⟨nm, (m.g nm).getD es, !(m.g nm).isSome⟩ m.reads }
def VwM.call (m : VwM) (c : Ch) : VwM := { m with calls := m.calls ++ [c], now := aset c.name c m.now }

structure IsView (K : Nm → Prop) (bs : Nat) (w : World) (sa : Addr) (b r n : Nat) (m : VwM) : Prop where
  st : StOk K bs w sa m.g
  blk : ∃ cv, Blk w b 90 #[.pointer (some sa), .map (some r), cv, .map (some n)] ∧ w.ownsRow bs 86 7 cv m.calls.length (m.calls.flatMap Ch.cells)
  rd : MapIs Nm.val Ch.val w r m.reads
  nw : MapIs Nm.val Ch.val w n m.now
  hb : bs ≤ b
  hr : bs ≤ r
  hn : bs ≤ n
  rn : r ≠ n

theorem own_lt {w : World} {base n size : Nat} {e : TypeId} {v : Value} {xs : List Value} (h : w.ownsRow base e size v n xs) {g : Nat} (hg : v.ownBlock = some g) : g < w.heap.size ∧ base ≤ g := by
  rcases h.2 with ⟨rfl, _⟩ | ⟨g', cap, cur, rfl, hb, hh, _⟩
  · simp [Value.ownBlock] at hg
  · have : g' = g := by simpa [Value.ownBlock] using hg
    subst this
    exact ⟨(Array.getElem?_eq_some_iff.1 hh).1, hb⟩

section
variable {K : Nm → Prop} {bs : Nat} {w w' : World} {sa : Addr} {b r n : Nat} {m : VwM}
theorem IsView.br (h : IsView K bs w sa b r n m) : b ≠ r := by
  obtain ⟨cv, hb, _⟩ := h.blk
  obtain ⟨es', c, hr, _⟩ := h.rd
  rintro rfl
  unfold Blk at hb
  rw [hb] at hr
  cases hr
theorem IsView.bn (h : IsView K bs w sa b r n m) : b ≠ n := by
  obtain ⟨cv, hb, _⟩ := h.blk
  obtain ⟨es', c, hr, _⟩ := h.nw
  rintro rfl
  unfold Blk at hb
  rw [hb] at hr
  cases hr
theorem IsView.size (h : IsView K bs w sa b r n m) : bs ≤ w.heap.size := h.st.1
/-- A view that a call does not touch: what may change is not its own. -/
theorem IsView.kpt {S : Nat → Prop} (h : IsView K bs w sa b r n m) (k : Kpt S w w') (hS : ∀ i, S i → bs ≤ i) (hb : ¬ S b) (hr : ¬ S r) (hn : ¬ S n)
    (hc : ∀ cv g, Blk w b 90 #[.pointer (some sa), .map (some r), cv, .map (some n)] → w.ownsRow bs 86 7 cv m.calls.length (m.calls.flatMap Ch.cells) → cv.ownBlock = some g → ¬ S g) : IsView K bs w' sa b r n m := by
  obtain ⟨cv, h1, h2⟩ := h.blk
  exact ⟨h.st.kpt k hS, ⟨cv, h1.kpt k hb, own_kpt h2 k (fun g hg => hc cv g h1 h2 hg)⟩, h.rd.kpt k hr, h.nw.kpt k hn, h.hb, h.hr, h.hn, h.rn⟩
theorem IsView.non (h : IsView K bs w sa b r n m) (k : Kpt Non w w') : IsView K bs w' sa b r n m :=
  h.kpt k (fun _ e => e.elim) (fun e => e) (fun e => e) (fun e => e) (fun _ _ _ _ _ e => e)
/-- What may change is one block of another type. -/
theorem IsView.one {p : Nat} {t : TypeId} {cs : Array Value} (h : IsView K bs w sa b r n m) (hp : Blk w p t cs) (hbs : bs ≤ p) (h1 : t ≠ 90) (h2 : t ≠ 86) (k : Kpt (One p) w w') : IsView K bs w' sa b r n m := by
  obtain ⟨es', c, hr, _⟩ := h.rd
  obtain ⟨es'', c', hn, _⟩ := h.nw
  refine h.kpt k (by rintro i rfl; exact hbs) ?_ ?_ ?_ ?_
  · obtain ⟨cv, hb, _⟩ := h.blk
    rintro rfl
    exact Blk.ne_ hp hb h1 rfl
  · rintro rfl
    unfold Blk at hp
    rw [hp] at hr
    cases hr
  · rintro rfl
    unfold Blk at hp
    rw [hp] at hn
    cases hn
  · rintro cv g hb hc hg rfl
    exact Blk.own_ne hp hc (fun e => h2 e.symm) hg
theorem IsView.put_reads {o : Obj} {l : List (Nm × Ch)} (h : IsView K bs w sa b r n m) (hM : MapIs Nm.val Ch.val (w.putObj r o) r l) : IsView K bs (w.putObj r o) sa b r n { m with reads := l } := by
  obtain ⟨es', c, hr', _⟩ := h.rd
  have k : Kpt (One r) w (w.putObj r o) := (Kpt.refl (One r) w).put (fun _ => rfl) o
  obtain ⟨cv, h1, h2⟩ := h.blk
  refine ⟨h.st.kpt k (by rintro i rfl; exact h.hr), ⟨cv, h1.kpt k h.br, own_kpt h2 k ?_⟩, hM, h.nw.kpt k (fun e => h.rn e.symm), h.hb, h.hr, h.hn, h.rn⟩
  intro g hg e
  have e' : g = r := e
  subst e'
  rcases h2.2 with ⟨rfl, _⟩ | ⟨g', cap, cur, rfl, _, hh, _⟩
  · simp [Value.ownBlock] at hg
  · have : g' = g := by simpa [Value.ownBlock] using hg
    subst this
    rw [hh] at hr'
    cases hr'
theorem IsView.put_now {o : Obj} {l : List (Nm × Ch)} (h : IsView K bs w sa b r n m) (hM : MapIs Nm.val Ch.val (w.putObj n o) n l) : IsView K bs (w.putObj n o) sa b r n { m with now := l } := by
  obtain ⟨es', c, hr', _⟩ := h.nw
  have k : Kpt (One n) w (w.putObj n o) := (Kpt.refl (One n) w).put (fun _ => rfl) o
  obtain ⟨cv, h1, h2⟩ := h.blk
  refine ⟨h.st.kpt k (by rintro i rfl; exact h.hn), ⟨cv, h1.kpt k h.bn, own_kpt h2 k ?_⟩, h.rd.kpt k h.rn, hM, h.hb, h.hr, h.hn, h.rn⟩
  intro g hg e
  have e' : g = n := e
  subst e'
  rcases h2.2 with ⟨rfl, _⟩ | ⟨g', cap, cur, rfl, _, hh, _⟩
  · simp [Value.ownBlock] at hg
  · have : g' = g := by simpa [Value.ownBlock] using hg
    subst this
    rw [hh] at hr'
    cases hr'
end
set_option maxHeartbeats 1000000 in
theorem f48_any (K : Nm → Prop) (bs : Nat) (w : World) (sa : Addr) (b r n : Nat) (m : VwM) (hv : IsView K bs w sa b r n m) (nm : Nm) (hK : K nm) (ok : OkNm nm) :
    Calls Tryz.prog 35 #[.pointer (some ⟨b, 0, none⟩), nm.val] w fun e w' => e = .returned (.tuple #[.string (m.get nm).1, .bool (m.get nm).2]) ∧ Kpt (One r) w w' ∧ IsView K bs w' sa b r n (m.got nm) := by
  unfold OkNm at ok
  have HV := Lib.hid hv; clear hv
  have OK := Lib.hid ok; clear ok
  have HK := Lib.hid hK; clear hK
  obtain ⟨n1, n2, n3, n4, n5⟩ := nm
  unfold Nm.val Nm.cells at *
  go_enter Tryz.func35, Tryz.ntmps35
  go_wp2_with fail
  refine (OK.out _).mono ?_
  rintro e w1 ⟨rfl, k1⟩
  go_wp2_with fail
  have hv := HV.out.non (Kpt.trans (Kpt.alloc (Kpt.refl _ _) _) k1 (fun _ e _ => e))
  have hp := (Blk.new w 68 #[.int .i64 n1, .string n2, .int .i64 n3, .int .i64 n4, .string n5]).kpt k1 (fun e => e)
  have K1 := Lib.hid k1; clear k1
  obtain ⟨cv, hb, hcv⟩ := hv.blk
  have b0 := hb.cell 0
  have b1 := hb.cell 1
  have b3 := hb.cell 3
  have p0 := hp.cell 0
  have p1 := hp.cell 1
  have p2 := hp.cell 2
  have p3 := hp.cell 3
  have p4 := hp.cell 4
  simp only [List.getElem?_toArray, List.getElem?_cons_zero, List.getElem?_cons_succ] at b0 b1 b3 p0 p1 p2 p3 p4
  have hz : ∀ w' : World, (zeroValue 86).run Tryz.prog w' = .ok (.agg #[.int .i64 0, .string ⟨#[]⟩, .int .i64 0, .int .i64 0, .string ⟨#[]⟩, .string ⟨#[]⟩, .bool false]) w' := fun w' => by kernel_rfl
  have hs : (∀ w', Kpt Non w1 w' → (w'.cell? ⟨w.heap.size, 0, none⟩ = some (.int .i64 n1) ∧ w'.cell? ⟨w.heap.size, 1, none⟩ = some (.string n2) ∧ w'.cell? ⟨w.heap.size, 2, none⟩ = some (.int .i64 n3) ∧ w'.cell? ⟨w.heap.size, 3, none⟩ = some (.int .i64 n4) ∧ w'.cell? ⟨w.heap.size, 4, none⟩ = some (.string n5) ∧ w'.cell? ⟨b, 3, none⟩ = some (.map (some n)) ∧
      (Instr.lookup 88 (.map (some n)) (.agg #[.int .i64 n1, .string n2, .int .i64 n3, .int .i64 n4, .string n5]) true).run Tryz.prog w' = .ok (.tuple #[((aget ⟨n1, n2, n3, n4, n5⟩ m.now).map Ch.val).getD (.agg #[.int .i64 0, .string ⟨#[]⟩, .int .i64 0, .int .i64 0, .string ⟨#[]⟩, .string ⟨#[]⟩, .bool false]), .bool (aget ⟨n1, n2, n3, n4, n5⟩ m.now).isSome]) w')) :=
    fun w' k => ⟨k.cellv p0 (fun e => e), k.cellv p1 (fun e => e), k.cellv p2 (fun e => e), k.cellv p3 (fun e => e), k.cellv p4 (fun e => e), k.cellv b3 (fun e => e), ((hv.nw.kpt k (fun e => e)).lookup keyOk_nm Tryz.underlying88 (hz w') ⟨n1, n2, n3, n4, n5⟩).1⟩
  have HS := Lib.hid hs; clear hs
  clear hz hp
  have ht : ∀ w', Kpt Non w1 w' → Calls Tryz.prog 73 #[.pointer (some sa), .agg #[.int .i64 n1, .string n2, .int .i64 n3, .int .i64 n4, .string n5]] w' fun e w'' => e = .returned (.tuple #[.string ((m.g ⟨n1, n2, n3, n4, n5⟩).getD es), .bool (m.g ⟨n1, n2, n3, n4, n5⟩).isSome]) ∧ Kpt Non w' w'' :=
    fun w' k => (hv.st.kpt k (fun _ e => e.elim)).2 _ w' HK.out (fun _ _ => rfl) (Nat.le_trans hv.size k.size)
  have HT := Lib.hid ht; clear ht
  have hs6 : (∀ w', Kpt Non w1 w' → (w'.cell? ⟨w.heap.size, 0, none⟩ = some (.int .i64 n1) ∧ w'.cell? ⟨w.heap.size, 1, none⟩ = some (.string n2) ∧ w'.cell? ⟨w.heap.size, 2, none⟩ = some (.int .i64 n3) ∧ w'.cell? ⟨w.heap.size, 3, none⟩ = some (.int .i64 n4) ∧ w'.cell? ⟨w.heap.size, 4, none⟩ = some (.string n5) ∧ w'.cell? ⟨b, 0, none⟩ = some (.pointer (some sa)))) :=
    fun w' k => ⟨k.cellv p0 (fun e => e), k.cellv p1 (fun e => e), k.cellv p2 (fun e => e), k.cellv p3 (fun e => e), k.cellv p4 (fun e => e), k.cellv b0 (fun e => e)⟩
  have HS6 := Lib.hid hs6; clear hs6
  have hs7 : (∀ w', Kpt Non w1 w' → (w'.cell? ⟨w.heap.size, 0, none⟩ = some (.int .i64 n1) ∧ w'.cell? ⟨w.heap.size, 1, none⟩ = some (.string n2) ∧ w'.cell? ⟨w.heap.size, 2, none⟩ = some (.int .i64 n3) ∧ w'.cell? ⟨w.heap.size, 3, none⟩ = some (.int .i64 n4) ∧ w'.cell? ⟨w.heap.size, 4, none⟩ = some (.string n5) ∧ w'.cell? ⟨b, 1, none⟩ = some (.map (some r)))) :=
    fun w' k => ⟨k.cellv p0 (fun e => e), k.cellv p1 (fun e => e), k.cellv p2 (fun e => e), k.cellv p3 (fun e => e), k.cellv p4 (fun e => e), k.cellv b1 (fun e => e)⟩
  have HS7 := Lib.hid hs7; clear hs7
  have HV1 := Lib.hid hv; clear hv hcv
  have HB := Lib.hid hb; clear hb
  cases hg : aget ⟨n1, n2, n3, n4, n5⟩ m.now with
  | some c =>
    simp only [hg, Option.map_some, Option.getD_some, Option.isSome_some] at HS
    have HG := Lib.hid hg; clear hg
    obtain ⟨⟨c1, c2, c3, c4, c5⟩, c6, c7⟩ := c
    simp only [Ch.val, Ch.cells, Nm.cells, List.cons_append, List.nil_append] at HS
    go_region_held3 (fun w' => w'.cell? ⟨w.heap.size, 0, none⟩ = some (.int .i64 n1) ∧ w'.cell? ⟨w.heap.size, 1, none⟩ = some (.string n2) ∧ w'.cell? ⟨w.heap.size, 2, none⟩ = some (.int .i64 n3) ∧ w'.cell? ⟨w.heap.size, 3, none⟩ = some (.int .i64 n4) ∧ w'.cell? ⟨w.heap.size, 4, none⟩ = some (.string n5) ∧ w'.cell? ⟨b, 3, none⟩ = some (.map (some n)) ∧
      (Instr.lookup 88 (.map (some n)) (.agg #[.int .i64 n1, .string n2, .int .i64 n3, .int .i64 n4, .string n5]) true).run Tryz.prog w' = .ok (.tuple #[.agg #[.int .i64 c1, .string c2, .int .i64 c3, .int .i64 c4, .string c5, .string c6, .bool c7], .bool true]) w')
      (first | (exact HS.out _ (by (repeat (first | exact Kpt.refl _ _ | apply Kpt.alloc | apply Kpt.drew | apply Kpt.drewN))))) (first | fail)
    all_goals go_wp2_with fail
    all_goals go_quiet (fail)
    all_goals go_wp2_with fail
    all_goals go_ret2
    all_goals exact ⟨by simp [VwM.get, HG.out], Kpt.drewN (Kpt.drew (Kpt.alloc (Kpt.trans (Kpt.alloc (Kpt.refl _ _) _) K1.out (fun _ e _ => e.elim)) _)) _, by rw [show m.got ⟨n1, n2, n3, n4, n5⟩ = m by simp [VwM.got, HG.out]]; exact HV1.out.non (Kpt.drewN (Kpt.drew (Kpt.alloc (Kpt.refl Non w1) _)) _)⟩
  | none =>
    simp only [hg, Option.map_none, Option.getD_none, Option.isSome_none] at HS
    have HG := Lib.hid hg; clear hg
    go_region_held3 (fun w' => w'.cell? ⟨w.heap.size, 0, none⟩ = some (.int .i64 n1) ∧ w'.cell? ⟨w.heap.size, 1, none⟩ = some (.string n2) ∧ w'.cell? ⟨w.heap.size, 2, none⟩ = some (.int .i64 n3) ∧ w'.cell? ⟨w.heap.size, 3, none⟩ = some (.int .i64 n4) ∧ w'.cell? ⟨w.heap.size, 4, none⟩ = some (.string n5) ∧ w'.cell? ⟨b, 3, none⟩ = some (.map (some n)) ∧
      (Instr.lookup 88 (.map (some n)) (.agg #[.int .i64 n1, .string n2, .int .i64 n3, .int .i64 n4, .string n5]) true).run Tryz.prog w' = .ok (.tuple #[.agg #[.int .i64 0, .string ⟨#[]⟩, .int .i64 0, .int .i64 0, .string ⟨#[]⟩, .string ⟨#[]⟩, .bool false], .bool false]) w')
      (first | (exact HS.out _ (by (repeat (first | exact Kpt.refl _ _ | apply Kpt.alloc | apply Kpt.drew | apply Kpt.drewN))))) (first | fail)
    all_goals go_wp2_with fail
    all_goals generalize hval : (m.g ⟨n1, n2, n3, n4, n5⟩).getD es = val at HT
    all_goals generalize his : (m.g ⟨n1, n2, n3, n4, n5⟩).isSome = is at HT
    all_goals have HVal := Lib.hid hval
    all_goals have HIs := Lib.hid his
    all_goals clear hval his
    all_goals go_region_held3 (fun w' => w'.cell? ⟨w.heap.size, 0, none⟩ = some (.int .i64 n1) ∧ w'.cell? ⟨w.heap.size, 1, none⟩ = some (.string n2) ∧ w'.cell? ⟨w.heap.size, 2, none⟩ = some (.int .i64 n3) ∧ w'.cell? ⟨w.heap.size, 3, none⟩ = some (.int .i64 n4) ∧ w'.cell? ⟨w.heap.size, 4, none⟩ = some (.string n5) ∧ w'.cell? ⟨b, 0, none⟩ = some (.pointer (some sa)))
      (first | (refine HS6.out _ ?_; ((repeat (first | with_reducible exact Kpt.refl _ _ | with_reducible apply Kpt.alloc | with_reducible apply Kpt.drew | with_reducible apply Kpt.drewN | (refine Kpt.trans (S' := Non) ?_ (by first | assumption | (apply Lib.Hid.out; assumption)) (fun _ e _ => e)))); done))) (first | (go_at_call 73; refine (HT.out _ (by ((repeat (first | with_reducible exact Kpt.refl _ _ | with_reducible apply Kpt.alloc | with_reducible apply Kpt.drew | with_reducible apply Kpt.drewN | (refine Kpt.trans (S' := Non) ?_ (by first | assumption | (apply Lib.Hid.out; assumption)) (fun _ e _ => e)))); done))).mono ?_; rintro e w2 ⟨rfl, k2⟩))
    all_goals go_wp2_with fail
    all_goals have hk : Kpt Non w1 w2 := by ((repeat (first | with_reducible exact Kpt.refl _ _ | with_reducible apply Kpt.alloc | with_reducible apply Kpt.drew | with_reducible apply Kpt.drewN | (refine Kpt.trans (S' := Non) ?_ (by first | assumption | (apply Lib.Hid.out; assumption)) (fun _ e _ => e)))); done)
    all_goals clear k2
    all_goals obtain ⟨o, hu, hM⟩ := (((HV1.out.rd.kpt hk (fun e => e)).drew).update keyOk_nm Tryz.underlying88 ⟨n1, n2, n3, n4, n5⟩ ⟨⟨n1, n2, n3, n4, n5⟩, val, !is⟩ : _)
    all_goals have s7 := HS7.out w2.drew hk.drew
    all_goals have kr : Kpt (One r) w2.drew (w2.drew.putObj r o) := (Kpt.refl (One r) w2.drew).put (fun _ => rfl) o
    all_goals have n1r : ¬ One r w.heap.size := fun e => by have := HV.out.rd.lt; have e' : w.heap.size = r := e; omega
    all_goals have n2r : ¬ One r b := HV.out.br
    all_goals have s7' : (w2.drew.putObj r o).cell? ⟨w.heap.size, 0, none⟩ = some (.int .i64 n1) ∧ (w2.drew.putObj r o).cell? ⟨w.heap.size, 1, none⟩ = some (.string n2) ∧ (w2.drew.putObj r o).cell? ⟨w.heap.size, 2, none⟩ = some (.int .i64 n3) ∧ (w2.drew.putObj r o).cell? ⟨w.heap.size, 3, none⟩ = some (.int .i64 n4) ∧ (w2.drew.putObj r o).cell? ⟨w.heap.size, 4, none⟩ = some (.string n5) ∧ (w2.drew.putObj r o).cell? ⟨b, 1, none⟩ = some (.map (some r)) :=
      ⟨kr.cellv s7.1 n1r, kr.cellv s7.2.1 n1r, kr.cellv s7.2.2.1 n1r, kr.cellv s7.2.2.2.1 n1r, kr.cellv s7.2.2.2.2.1 n1r, kr.cellv s7.2.2.2.2.2 n2r⟩
    all_goals have HK2 := Lib.hid hk
    all_goals have HM := Lib.hid hM
    all_goals clear hk hM
    all_goals simp only [Ch.val, Ch.cells, Nm.val, Nm.cells, List.cons_append, List.nil_append] at hu
    all_goals go_region_held3 (fun w' => w'.cell? ⟨w.heap.size, 0, none⟩ = some (.int .i64 n1) ∧ w'.cell? ⟨w.heap.size, 1, none⟩ = some (.string n2) ∧ w'.cell? ⟨w.heap.size, 2, none⟩ = some (.int .i64 n3) ∧ w'.cell? ⟨w.heap.size, 3, none⟩ = some (.int .i64 n4) ∧ w'.cell? ⟨w.heap.size, 4, none⟩ = some (.string n5) ∧ w'.cell? ⟨b, 1, none⟩ = some (.map (some r)))
      (first | exact s7 | exact s7') (first | fail)
    all_goals go_wp2_with fail
    all_goals go_ret2
    all_goals refine ⟨by simp [VwM.get, HG.out, HVal.out, HIs.out], Kpt.trans (Kpt.drew (Kpt.trans (Kpt.trans (Kpt.alloc (Kpt.refl (One r) _) _) K1.out.up (fun i h _ => h)) HK2.out.up (fun i h _ => h))) kr (fun i h _ => h), ?_⟩
    all_goals (rw [show m.got ⟨n1, n2, n3, n4, n5⟩ = { m with reads := aset ⟨n1, n2, n3, n4, n5⟩ ⟨⟨n1, n2, n3, n4, n5⟩, val, !is⟩ m.reads } by simp [VwM.got, HG.out, HVal.out, HIs.out]]; exact (HV1.out.non (Kpt.drew HK2.out)).put_reads HM.out)
end Go.Proofs.YtkpmabknjdgkmaaGreatDoor
