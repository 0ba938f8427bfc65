/- The operations of the laws on terminals, told as one function each; what a view answers is what the reference answers. No condition. The walk of play: operations on a view and on the terminals of the reference. No condition but that sizes fit the machine. The law TerminalPlays: its walk. No condition but that sizes fit the machine. The law TerminalEpochs: its walk. No condition but that sizes fit the machine. -/
import Derived.Test.YtkpmabknjdgkmaaGreatDoorPlay2
import Derived.Test.YtkpmabknjdgkmaaGreatDoorPlay3
import Derived.Test.YtkpmabknjdgkmaaGreatDoorRef9
import Derived.Deep.QuietTactic
import Derived.BigQuiet
import Derived.Test.YtkpmabknjdgkmaaGreatDoorRef4
namespace Go.Proofs.YtkpmabknjdgkmaaGreatDoor
open Go.RowKit

/-- What an operation makes of the terminals of a view: the terminals, the error, how many calls come to it, the line, the terminal. -/
def playR (X : Ts) (o : Opn) : Ts × Int × Nat × ByteArray × Tm :=
  let f := fun (g : Tm → Tm × Int) => ((opR X o.number o.epoch g).1, (opR X o.number o.epoch g).2, (if (opR X o.number o.epoch g).2 = 0 then 1 else 0), es, zeroT)
  if o.kind % 8 = 0 then f (beginT o.who)
  else if o.kind % 8 = 1 then f (endT o.who)
  else if o.kind % 8 = 2 ∨ o.kind % 8 = 3 then f (typedT o.text)
  else if o.kind % 8 = 4 ∨ o.kind % 8 = 5 then ((f (readT o.who)).1, (f (readT o.who)).2.1, (f (readT o.who)).2.2.1, lineR X o.number o.epoch o.who, zeroT)
  else if o.kind % 8 = 6 then ((shwR X o.number o.epoch o.text).1, (shwR X o.number o.epoch o.text).2.1, (shwR X o.number o.epoch o.text).2.2, es, zeroT)
  else (X, (getR X o.number o.epoch).2, 0, es, (getR X o.number o.epoch).1)

/-- What it makes of a terminal of the reference: the next one, the error, the line, the terminal. -/
def sameR (t : Tm) (o : Opn) : Tm × Int × ByteArray × Tm :=
  let u := inRef t o.epoch
  if o.kind % 8 = 0 then ((beginT o.who u).1, (beginT o.who u).2, es, zeroT)
  else if o.kind % 8 = 1 then ((endT o.who u).1, (endT o.who u).2, es, zeroT)
  else if o.kind % 8 = 2 ∨ o.kind % 8 = 3 then ((typedT o.text u).1, (typedT o.text u).2, es, zeroT)
  else if o.kind % 8 = 4 ∨ o.kind % 8 = 5 then ((readT o.who u).1, (readT o.who u).2, readL o.who u, zeroT)
  else if o.kind % 8 = 6 then ((showRef o.text u).1, (showRef o.text u).2, es, zeroT)
  else (u, 0, es, u)

theorem kind_cases (k : Int) : k % 8 = 0 ∨ k % 8 = 1 ∨ k % 8 = 2 ∨ k % 8 = 3 ∨ k % 8 = 4 ∨ k % 8 = 5 ∨ k % 8 = 6 ∨ k % 8 = 7 := by omega

theorem do_any {w w1 : World} {top b c : Nat} {X : Ts} {o : Opn} (h : V w top w1 b c X) (htop : top ≤ w1.heap.size) (hk0 : 0 ≤ o.kind) (hk1 : o.kind ≤ 255) (hcut : o.cut = o) (hw : o.who.size ≤ 100) (ht : o.text.size ≤ 3000) (hc : c ≤ 1000000) :
    Calls Tryz.prog 39 #[.pointer (some ⟨b, 0, none⟩), .agg #[.int .u8 o.kind, .int .i64 o.number, .int .i64 o.epoch, .string o.who, .string o.text]] w1
      (DoPost w top w1 b (c + (playR X o).2.2.1) (playR X o).1 (playR X o).2.1 (playR X o).2.2.2.1 (playR X o).2.2.2.2) := by
  have hcc : ∀ e : Int, (if e = 0 then c + 1 else c) = c + (if e = 0 then 1 else 0) := fun e => by split <;> rfl
  rcases kind_cases o.kind with hk | hk | hk | hk | hk | hk | hk | hk
  · have := f83_begin (X' := (opR X o.number o.epoch (beginT o.who)).1) (err := (opR X o.number o.epoch (beginT o.who)).2) h htop hk hk0 hk1 hcut hw ht hc rfl (hcc _)
    simpa [playR, hk] using this
  · have := f83_end (X' := (opR X o.number o.epoch (endT o.who)).1) (err := (opR X o.number o.epoch (endT o.who)).2) h htop hk hk0 hk1 hcut hw ht hc rfl (hcc _)
    simpa [playR, hk] using this
  · have := f83_type2 (X' := (opR X o.number o.epoch (typedT o.text)).1) (err := (opR X o.number o.epoch (typedT o.text)).2) h htop hk hk0 hk1 hcut hw ht hc rfl (hcc _)
    simpa [playR, hk] using this
  · have := f83_type3 (X' := (opR X o.number o.epoch (typedT o.text)).1) (err := (opR X o.number o.epoch (typedT o.text)).2) h htop hk hk0 hk1 hcut hw ht hc rfl (hcc _)
    simpa [playR, hk] using this
  · have := f83_read4 (X' := (opR X o.number o.epoch (readT o.who)).1) (err := (opR X o.number o.epoch (readT o.who)).2) (line := lineR X o.number o.epoch o.who) h htop hk hk0 hk1 hcut hw ht hc rfl rfl (hcc _)
    simpa [playR, hk] using this
  · have := f83_read5 (X' := (opR X o.number o.epoch (readT o.who)).1) (err := (opR X o.number o.epoch (readT o.who)).2) (line := lineR X o.number o.epoch o.who) h htop hk hk0 hk1 hcut hw ht hc rfl rfl (hcc _)
    simpa [playR, hk] using this
  · have := f83_show (X' := (shwR X o.number o.epoch o.text).1) (err := (shwR X o.number o.epoch o.text).2.1) (i := (shwR X o.number o.epoch o.text).2.2) h htop hk hk0 hk1 hcut hw ht hc rfl rfl
    simpa [playR, hk] using this
  · have := f83_get (t := (getR X o.number o.epoch).1) (err := (getR X o.number o.epoch).2) h htop hk hk0 hk1 hcut hw ht rfl
    simpa [playR, hk] using this

theorem same_any {w1 : World} {D : Nat → Prop} {o : Opn} {t : Tm} {A : Option Addr} {c : Nat} (hv : TmV w1 D t (.agg #[.int .i64 t.epoch, .string t.session, .slice A t.typed.length c, .string t.screen])) (hD : ∀ i, D i → i < w1.heap.size) (hk0 : 0 ≤ o.kind) (hk1 : o.kind ≤ 255) (hcut : o.cut = o) (hw : o.who.size ≤ 100) (ht : o.text.size ≤ 3000)
    (hs1 : (inRef t o.epoch).screen.size ≤ 1099511627776) (hs2 : (inRef t o.epoch).typed.length ≤ 1048576) (hs3 : (inRef t o.epoch).session.size ≤ 140737488351232) :
    Calls Tryz.prog 71 #[.agg #[.int .i64 t.epoch, .string t.session, .slice A t.typed.length c, .string t.screen], .agg #[.int .u8 o.kind, .int .i64 o.number, .int .i64 o.epoch, .string o.who, .string o.text]] w1
      (SamePost w1 D (sameR t o).1 (sameR t o).2.1 (sameR t o).2.2.1 (sameR t o).2.2.2) := by
  rcases kind_cases o.kind with hk | hk | hk | hk | hk | hk | hk | hk
  · have := f120_begin hv hD hk hk0 hk1 hcut hw ht hs1 hs2 hs3
    simpa [sameR, hk] using this
  · have := f120_end hv hD hk hk0 hk1 hcut hw ht hs1 hs2 hs3
    simpa [sameR, hk] using this
  · have := f120_type2 hv hD hk hk0 hk1 hcut hw ht hs1 hs2 hs3
    simpa [sameR, hk] using this
  · have := f120_type3 hv hD hk hk0 hk1 hcut hw ht hs1 hs2 hs3
    simpa [sameR, hk] using this
  · have := f120_read4 hv hD hk hk0 hk1 hcut hw ht hs1 hs2 hs3
    simpa [sameR, hk] using this
  · have := f120_read5 hv hD hk hk0 hk1 hcut hw ht hs1 hs2 hs3
    simpa [sameR, hk] using this
  · have := f120_show hv hD hk hk0 hk1 hcut hw ht hs1 hs2 hs3
    simpa [sameR, hk] using this
  · have := f120_get hv hD hk hk0 hk1 hcut hw ht hs1 hs2 hs3
    simpa [sameR, hk] using this

theorem inT_ref (x : Option Tm) (epoch : Int) : inT x epoch = inRef (x.getD zeroT) epoch := by
  unfold inT inRef
  cases x with
  | none =>
    by_cases h : zeroT.epoch = epoch
    · have h' : (0 : Int) = epoch := h
      show emptyT epoch = if zeroT.epoch = epoch then zeroT else ⟨epoch, es, [], es⟩
      rw [if_pos h, ← h']
      rfl
    · show emptyT epoch = if zeroT.epoch = epoch then zeroT else ⟨epoch, es, [], es⟩
      rw [if_neg h]
      rfl
  | some t => rfl

/-- Does an operation without an error write? -/
def writes (o : Opn) : Prop := o.kind % 8 < 7 ∧ ¬ (o.kind % 8 = 6 ∧ o.text.size = 0)

/-- At a number and an epoch in their bounds the view answers as the reference, and its terminals are what the reference makes of them. -/
theorem agree {X : Ts} {o : Opn} (ht : o.text.size ≤ 3000) (hn : (1 ≤ o.number ∧ o.number ≤ 99) ∧ (0 ≤ o.epoch ∧ o.epoch ≤ 1073741824)) :
    (playR X o).2.1 = (sameR ((X o.number).getD zeroT) o).2.1 ∧ (playR X o).2.2.2.1 = (sameR ((X o.number).getD zeroT) o).2.2.1 ∧ (playR X o).2.2.2.2 = (sameR ((X o.number).getD zeroT) o).2.2.2 ∧
      ((playR X o).2.1 ≠ 0 → (playR X o).1 = X ∧ (playR X o).2.2.1 = 0) ∧ (playR X o).2.2.1 ≤ 1 ∧
      ((playR X o).2.1 = 0 → writes o → (playR X o).1 = X.put o.number (sameR ((X o.number).getD zeroT) o).1) ∧ ((playR X o).2.1 = 0 → ¬ writes o → (playR X o).1 = X) := by
  have hu := inT_ref (X o.number) o.epoch
  have hop : ∀ g : Tm → Tm × Int, opR X o.number o.epoch g = if (g (inT (X o.number) o.epoch)).2 = 0 then (X.put o.number (g (inT (X o.number) o.epoch)).1, 0) else (X, (g (inT (X o.number) o.epoch)).2) := fun g => by unfold opR; rw [if_pos hn]
  have hln : lineR X o.number o.epoch o.who = readL o.who (inT (X o.number) o.epoch) := by unfold lineR; rw [if_pos hn]
  have hgt : getR X o.number o.epoch = (inT (X o.number) o.epoch, 0) := by unfold getR; rw [if_pos hn]
  have hsh : shwR X o.number o.epoch o.text = if o.text.size = 0 then (X, 0, 0) else (X.put o.number (shownT o.text (inT (X o.number) o.epoch)), 0, 1) := by unfold shwR; rw [if_pos hn, if_neg (by omega)]
  have hsr : ∀ u, showRef o.text u = (shownT o.text u, 0) := fun u => by unfold showRef; rw [if_neg (by omega)]
  unfold playR sameR writes
  rw [← hu]
  simp only [hop, hln, hgt, hsh, hsr]
  generalize inT (X o.number) o.epoch = u
  rcases kind_cases o.kind with hk | hk | hk | hk | hk | hk | hk | hk
  · simp only [hk]; by_cases h : (beginT o.who u).2 = 0 <;> simp [h]
  · simp only [hk]; by_cases h : (endT o.who u).2 = 0 <;> simp [h]
  · simp only [hk]; by_cases h : (typedT o.text u).2 = 0 <;> simp [h]
  · simp only [hk]; by_cases h : (typedT o.text u).2 = 0 <;> simp [h]
  · simp only [hk]; by_cases h : (readT o.who u).2 = 0 <;> simp [h]
  · simp only [hk]; by_cases h : (readT o.who u).2 = 0 <;> simp [h]
  · simp only [hk]; by_cases h : o.text.size = 0 <;> simp [h]
  · simp [hk]

/-- Elsewhere it answers that the range is left. -/
theorem agree_bad {X : Ts} {o : Opn} (hn : ¬ ((1 ≤ o.number ∧ o.number ≤ 99) ∧ (0 ≤ o.epoch ∧ o.epoch ≤ 1073741824))) : (playR X o).2.1 = 2 ∧ (playR X o).1 = X ∧ (playR X o).2.2.1 = 0 ∧ (playR X o).2.2.2.2 = zeroT := by
  have hop : ∀ g : Tm → Tm × Int, opR X o.number o.epoch g = (X, 2) := fun g => by unfold opR; rw [if_neg hn]
  have hgt : getR X o.number o.epoch = (zeroT, 2) := by unfold getR; rw [if_neg hn]
  have hsh : shwR X o.number o.epoch o.text = (X, 2, 0) := by unfold shwR; rw [if_neg hn]
  unfold playR
  simp only [hop, hgt, hsh]
  rcases kind_cases o.kind with hk | hk | hk | hk | hk | hk | hk | hk <;> simp [hk]
end Go.Proofs.YtkpmabknjdgkmaaGreatDoor

namespace Go.Proofs.YtkpmabknjdgkmaaGreatDoor
open Go.RowKit

theorem V.mark {w w1 : World} {top b c : Nat} {X : Ts} (h : V w top w1 b c X) : Calls Tryz.prog 70 #[.pointer (some ⟨b, 0, none⟩)] w1 fun e w2 => e = .returned (.int .i64 (c : Int)) ∧ w1 = w2 := by
  obtain ⟨bs, sa, r, n, ⟨m, hv, hs, rfl⟩, h1, h2, h3, k0⟩ := h
  exact f119_any _ bs w1 sa b r n m hv

/-- The map of the reference's terminals, by their numbers: it holds what the view holds. -/
def RelM (w : World) (mb lo : Nat) (X : Ts) : Prop :=
  ∃ l : List (Int × Value), MapIs (Value.int .i64) id w mb l ∧ ∀ k, 1 ≤ k ∧ k ≤ 99 → (aget k l = none ∧ X k = none) ∨
    ∃ t A c, X k = some t ∧ aget k l = some (.agg #[.int .i64 t.epoch, .string t.session, .slice A t.typed.length c, .string t.screen]) ∧ TmV w (fun i => lo ≤ i ∧ i ≠ mb) t (.agg #[.int .i64 t.epoch, .string t.session, .slice A t.typed.length c, .string t.screen])

theorem RelM.kpt {w w' : World} {mb lo : Nat} {X : Ts} {S : Nat → Prop} (h : RelM w mb lo X) (k : Kpt S w w') (hS : ∀ i, S i → i < lo) (hm : lo ≤ mb) : RelM w' mb lo X := by
  obtain ⟨l, hl, hr⟩ := h
  refine ⟨l, hl.kpt k (fun e => by have := hS _ e; omega), fun j hj => ?_⟩
  rcases hr j hj with h | ⟨t, A, c, h1, h2, h3⟩
  · exact .inl h
  · exact .inr ⟨t, A, c, h1, h2, h3.kpt k (fun i hi e => by have := hS _ e; have := hi.1; omega)⟩

theorem add_pos (a : Addr) (j : Nat) (h : 0 < j) : (⟨a.block, a.off + j, none⟩ : Addr) = a.add j := by
  unfold Addr.add
  rw [if_neg (by omega)]
theorem V.chk {w w1 : World} {top b c : Nat} {X : Ts} {k : Int} {t : Tm} (h : V w top w1 b c X) (hk : 1 ≤ k ∧ k ≤ 99) (ht : X k = some t) : chkT t = 0 := by
  obtain ⟨bs, sa, r, n, ⟨m, hv, hs, hc⟩, h1, h2, h3, k0⟩ := h
  exact (hs k hk).chk t ht
/-- A view is left as it is by what happens to a map of the law's own. -/
theorem V.put_map {w w1 : World} {top b c p : Nat} {X : Ts} {es' : Array MapEntry} {cl : Nat} (h : V w top w1 b c X) (hp : w1.heap[p]? = some (.map es' cl)) (ht : top ≤ p) (o : Obj) : V w top (w1.putObj p o) b c X := by
  obtain ⟨bs, sa, r, n, ⟨m, hv, hs, hc⟩, h1, h2, h3, k0⟩ := h
  have hbs := hv.hb
  have k : Kpt (One p) w1 (w1.putObj p o) := (Kpt.refl (One p) w1).put (fun _ => rfl) o
  refine ⟨bs, sa, r, n, ⟨m, hv.kpt k (fun i e => by have e' : i = p := e; omega) (fun e => by have e' : b = p := e; omega) (fun e => by have e' : r = p := e; omega) (fun e => by have e' : n = p := e; omega) (fun cv g _ ho hg e => ?_), hs, hc⟩, h1, h2, h3, Kpt.trans k0 k (fun i e hlt => by have e' : i = p := e; omega)⟩
  have e' : g = p := e
  subst e'
  rcases ho.2 with ⟨rfl, _⟩ | ⟨g', cap, cur, rfl, _, hh, _⟩
  · simp [Value.ownBlock] at hg
  · have : g' = g := by simpa [Value.ownBlock] using hg
    subst this
    rw [hh] at hp
    cases hp
theorem Rd.below {w : World} {D : Nat → Prop} {A : Option Addr} {n : Nat} {xs : List Value} (h : Rd w D 1 A n xs) : Rd w (fun i => D i ∧ i < w.heap.size) 1 A n xs := by
  refine ⟨h.1, fun hn => ?_⟩
  obtain ⟨ad, rfl, hb, hc⟩ := h.2 hn
  have hl : 0 < xs.length := by have := h.1; omega
  have hc0 := hc 0 _ (List.getElem?_eq_getElem hl)
  rw [show ad.add 0 = ad by simp [Addr.add]] at hc0
  exact ⟨ad, rfl, ⟨hb, World.block_lt_of_cell? w _ hc0⟩, hc⟩
theorem TmV.lt {w : World} {D : Nat → Prop} {t : Tm} {v : Value} (h : TmV w D t v) : TmV w (fun i => D i ∧ i < w.heap.size) t v := by
  obtain ⟨A, c, h1, h2, h3, h4⟩ := h
  exact ⟨A, c, h1, h2, h3, h4.below⟩

/-- Five cells an operation. -/
theorem ops_at {w : World} {D : Nat → Prop} {A : Option Addr} {n : Nat} {ops : List Opn} {k : Nat} (h : Rd w D 5 A n (ops.flatMap Opn.cells)) (hk : k < n) :
    ∃ ad o, A = some ad ∧ D ad.block ∧ ops[k]? = some o ∧ w.cell? (ad.add (k * 5)) = some (.int .u8 o.kind) ∧ w.cell? ⟨(ad.add (k * 5)).block, (ad.add (k * 5)).off + 1, none⟩ = some (.int .i64 o.number) ∧ w.cell? ⟨(ad.add (k * 5)).block, (ad.add (k * 5)).off + 2, none⟩ = some (.int .i64 o.epoch) ∧ w.cell? ⟨(ad.add (k * 5)).block, (ad.add (k * 5)).off + 3, none⟩ = some (.string o.who) ∧ w.cell? ⟨(ad.add (k * 5)).block, (ad.add (k * 5)).off + 4, none⟩ = some (.string o.text) := by
  have flat : ∀ (l : List Opn) (k : Nat) (o : Opn), l[k]? = some o → ∀ j, j < 5 → (l.flatMap Opn.cells)[k * 5 + j]? = o.cells[j]? := by
    intro l
    induction l with
    | nil => intro k o h; simp at h
    | cons a l ih =>
      intro k o h j hj
      rw [List.flatMap_cons]
      cases k with
      | zero =>
        simp at h
        subst h
        rw [List.getElem?_append_left (by simp [Opn.cells]; omega)]
        simp
      | succ k =>
        simp at h
        rw [List.getElem?_append_right (by simp [Opn.cells]; omega)]
        have := ih k o h j hj
        rw [← this]
        congr 1
        simp [Opn.cells]
        omega
  have hlen : ops.length = n := by
    have h1 := h.1
    have hl5 : ∀ l : List Opn, (l.flatMap Opn.cells).length = l.length * 5 := fun l => by
      induction l with
      | nil => rfl
      | cons a l ih => rw [List.flatMap_cons, List.length_append, ih, List.length_cons]; simp [Opn.cells]; omega
    have := hl5 ops
    omega
  obtain ⟨ad, e, hb, hc⟩ := h.2 (by omega)
  have hlt : k < ops.length := by omega
  have ho : ops[k]? = some ops[k] := List.getElem?_eq_getElem hlt
  have sp : ∀ j, 0 < j → (⟨(ad.add (k * 5)).block, (ad.add (k * 5)).off + j, none⟩ : Addr) = ad.add (k * 5 + j) := fun j hj => by
    rw [← add_add]
    exact add_pos _ _ hj
  refine ⟨ad, ops[k], e, hb, ho, ?_, ?_, ?_, ?_, ?_⟩
  · exact hc _ _ ((flat ops k _ ho 0 (by omega)).trans rfl)
  · rw [sp 1 (by omega)]; exact hc _ _ ((flat ops k _ ho 1 (by omega)).trans rfl)
  · rw [sp 2 (by omega)]; exact hc _ _ ((flat ops k _ ho 2 (by omega)).trans rfl)
  · rw [sp 3 (by omega)]; exact hc _ _ ((flat ops k _ ho 3 (by omega)).trans rfl)
  · rw [sp 4 (by omega)]; exact hc _ _ ((flat ops k _ ho 4 (by omega)).trans rfl)

/-- Operations as an argument brings them. -/
structure OpnOk (o : Opn) : Prop where
  k0 : 0 ≤ o.kind
  k1 : o.kind ≤ 255
  who : o.who.size ≤ 140737488351232
  text : o.text.size ≤ 140737488351232

theorem extract_extract_zero (s : ByteArray) (n : Nat) : (s.extract 0 (min s.size n)).extract 0 (min (s.extract 0 (min s.size n)).size n) = s.extract 0 (min s.size n) := by
  have : (s.extract 0 (min s.size n)).size ≤ n := by simp; omega
  exact cut_le this
theorem Opn.cut_cut (o : Opn) : o.cut.cut = o.cut := by
  unfold Opn.cut
  simp only [extract_extract_zero]
theorem Opn.cut_who (o : Opn) : o.cut.who.size ≤ 100 := by unfold Opn.cut; simp; omega
theorem Opn.cut_text (o : Opn) : o.cut.text.size ≤ 3000 := by unfold Opn.cut; simp; omega

/-- What the map answers: the reference's terminal of a number. -/
theorem RelM.look {w : World} {mb lo : Nat} {X : Ts} {k : Int} (h : RelM w mb lo X) (hk : 1 ≤ k ∧ k ≤ 99) : ∃ A c, (∀ ok, (Instr.lookup 61 (.map (some mb)) (.int .i64 k) ok).run Tryz.prog w = .ok (if ok then .tuple #[.agg #[.int .i64 ((X k).getD zeroT).epoch, .string ((X k).getD zeroT).session, .slice A ((X k).getD zeroT).typed.length c, .string ((X k).getD zeroT).screen], .bool (X k).isSome] else
      .agg #[.int .i64 ((X k).getD zeroT).epoch, .string ((X k).getD zeroT).session, .slice A ((X k).getD zeroT).typed.length c, .string ((X k).getD zeroT).screen]) w) ∧
    TmV w (fun i => (lo ≤ i ∧ i ≠ mb) ∧ i < w.heap.size) ((X k).getD zeroT) (.agg #[.int .i64 ((X k).getD zeroT).epoch, .string ((X k).getD zeroT).session, .slice A ((X k).getD zeroT).typed.length c, .string ((X k).getD zeroT).screen]) := by
  obtain ⟨l, hl, hr⟩ := h
  have hz : (zeroValue 44).run Tryz.prog w = .ok (.agg #[.int .i64 0, .string ⟨#[]⟩, .slice none 0 0, .string ⟨#[]⟩]) w := by kernel_rfl
  have hlk := hl.lookup keyOk_int Tryz.underlying61 hz k
  rcases hr k hk with ⟨h1, h2⟩ | ⟨t, A, c, h1, h2, h3⟩
  · rw [h1] at hlk
    rw [h2]
    exact ⟨none, 0, fun ok => by cases ok; exact hlk.2; exact hlk.1, tmv_zero _ _⟩
  · rw [h2] at hlk
    rw [h1]
    exact ⟨A, c, fun ok => by cases ok; exact hlk.2; exact hlk.1, h3.lt⟩

/-- A terminal is put into the map. -/
theorem RelM.put {w : World} {mb lo : Nat} {X : Ts} {k : Int} {t : Tm} {A : Option Addr} {c : Nat} (h : RelM w mb lo X) (hv : TmV w (fun i => lo ≤ i ∧ i ≠ mb) t (.agg #[.int .i64 t.epoch, .string t.session, .slice A t.typed.length c, .string t.screen])) :
    ∃ o, (Instr.mapUpdate 61 (.map (some mb)) (.int .i64 k) (.agg #[.int .i64 t.epoch, .string t.session, .slice A t.typed.length c, .string t.screen])).run Tryz.prog w = .ok () (w.putObj mb o) ∧ RelM (w.putObj mb o) mb lo (X.put k t) ∧ ∃ es' cl, w.heap[mb]? = some (.map es' cl) := by
  obtain ⟨l, hl, hr⟩ := h
  obtain ⟨o, hu, hM⟩ := hl.update keyOk_int Tryz.underlying61 k (.agg #[.int .i64 t.epoch, .string t.session, .slice A t.typed.length c, .string t.screen])
  have kk : Kpt (One mb) w (w.putObj mb o) := (Kpt.refl (One mb) w).put (fun _ => rfl) o
  have hmap : ∃ es' cl, w.heap[mb]? = some (.map es' cl) := by
    obtain ⟨es', cl, hb, _⟩ := hl
    exact ⟨es', cl, hb⟩
  refine ⟨o, hu, ⟨_, hM, fun j hj => ?_⟩, hmap⟩
  rw [aget_aset]
  unfold Ts.put
  by_cases e : j = k
  · subst e
    rw [if_pos rfl, if_pos rfl]
    exact .inr ⟨t, A, c, rfl, rfl, hv.kpt kk (fun i hi e => hi.2 e)⟩
  · rw [if_neg e, if_neg e]
    rcases hr j hj with h | ⟨t', A', c', h1, h2, h3⟩
    · exact .inl h
    · exact .inr ⟨t', A', c', h1, h2, h3.kpt kk (fun i hi e => hi.2 e)⟩

theorem inRef_sizes {x : Tm} {epoch : Int} (h : chkT x = 0) : (inRef x epoch).screen.size ≤ 2048 ∧ (inRef x epoch).typed.length ≤ 16 ∧ (inRef x epoch).session.size ≤ 56 := by
  unfold inRef
  split
  · have := chkT_ok h
    exact ⟨this.2.2.2.2.2, this.2.2.1, valid_size this.2.1⟩
  · simp [size_es]
theorem same_got {x : Tm} {o : Opn} (h : chkT x = 0) : (sameR x o).2.2.2.typed.length ≤ 16 := by
  have := (inRef_sizes (epoch := o.epoch) h).2.1
  unfold sameR
  rcases kind_cases o.kind with hk | hk | hk | hk | hk | hk | hk | hk <;> simp [hk, zeroT, this]
theorem f43_self (a : Tm) (va vb : Value) (D E : Nat → Prop) (w : World) (ha : TmV w D a va) (hb : TmV w E a vb) (hl : a.typed.length ≤ 1048576) :
    Calls Tryz.prog 30 #[va, vb] w fun e w' => e = .returned (.bool true) ∧ Kpt Non w w' := by
  have := f43_any a a va vb D E w ha hb hl
  simpa using this

/-- What play answers. -/
def PlayPost (w : World) (top : Nat) (w1 : World) (b : Nat) (e : Ending) (w2 : World) : Prop :=
  ∃ mb X c, e = .returned (.tuple #[.map (some mb), .bool true]) ∧ V w top w2 b c X ∧ c ≤ 30 ∧ w1.heap.size ≤ mb ∧ RelM w2 mb w1.heap.size X ∧ Kpt (Btw w top) w1 w2

set_option maxRecDepth 100000 in
set_option maxHeartbeats 4000000 in
theorem f47_any {w w1 : World} {top b : Nat} (h : V w top w1 b 0 X0L) (htop : top ≤ w1.heap.size) (A : Option Addr) (n cn : Nat) (ops : List Opn) (hr : Rd w1 (fun i => i < w.heap.size) 5 A n (ops.flatMap Opn.cells)) (hok : ∀ o ∈ ops, OpnOk o) :
    Calls Tryz.prog 34 #[.pointer (some ⟨b, 0, none⟩), .slice A n cn] w1 (PlayPost w top w1 b) := by
  have HV0 := Lib.hid h; have HR := Lib.hid hr; have HOk := Lib.hid hok; clear h hr hok
  have hmm := @run_makeMap Tryz.prog
  go_enter Tryz.func34, Tryz.ntmps34
  go_wp2_with fail
  clear hmm
  go_loopw [4, 5, 6] (fun x4 x5 xi wr => ∃ (k c : Nat) (X : Ts), x4 = .map (some w1.heap.size) ∧ x5 = .bool false ∧ xi = .int .i64 k ∧ k ≤ n ∧ k ≤ 30 ∧ c ≤ k ∧ Hid (V w top wr b c X) ∧ Hid (RelM wr w1.heap.size w1.heap.size X) ∧ Hid (Kpt (Btw w top) w1 wr)) (fun _ _ xi _ => n - (intOf xi).toNat)
  case atStart =>
    refine ⟨0, 0, X0L, rfl, rfl, rfl, Nat.zero_le _, Nat.zero_le _, Nat.zero_le _, Lib.hid (HV0.out.non (Kpt.alloc (Kpt.refl _ _) _)), Lib.hid ⟨[], MapIs.made w1, fun j _ => .inl ⟨rfl, rfl⟩⟩, Lib.hid (Kpt.alloc (Kpt.refl _ _) _)⟩
  case round =>
    obtain ⟨k, c, X, rfl, rfl, rfl, hkn, hk30, hck, HV, HM, HK⟩ := hrel
    by_cases hlt : k < n ∧ k < 30
    · obtain ⟨h1, h2⟩ := hlt
      have h1' : (k : Int) < (n : Int) := by omega
      have h2' : (k : Int) < 30 := by omega
      obtain ⟨ad, o, rfl, had, ho, q0, q1, q2, q3, q4⟩ := ops_at (HR.out.kpt HK.out (fun i h e => by have := e.1; omega)) h1
      have hoo := HOk.out o (List.mem_of_getElem? ho)
      have e118 := fun w => f118_any o w hoo.who hoo.text
      have hp0 : 0 ≤ o.cut.kind := hoo.k0
      have hp1 : o.cut.kind ≤ 255 := hoo.k1
      have hpc := o.cut_cut
      have hpw := o.cut_who
      have hpt := o.cut_text
      unfold Opn.val Opn.cells at e118
      generalize o.cut = p at e118 hp0 hp1 hpc hpw hpt
      have E118 := Lib.hid e118; have HPc := Lib.hid hpc; clear e118 ho hoo hpc
      go_wp2_with fail
      refine (E118.out _).mono ?_
      rintro e w2 ⟨rfl, k2⟩
      have hv2 := HV.out.non (Kpt.alloc k2 (.cells #[.int .u8 p.kind, .int .i64 p.number, .int .i64 p.epoch, .string p.who, .string p.text] 74))
      have hb7 := Blk.new w2 74 #[.int .u8 p.kind, .int .i64 p.number, .int .i64 p.epoch, .string p.who, .string p.text]
      have hm2 := HM.out.kpt (Kpt.alloc k2 (.cells #[.int .u8 p.kind, .int .i64 p.number, .int .i64 p.epoch, .string p.who, .string p.text] 74)) (fun _ e => e.elim) (Nat.le_refl _)
      have hk2 := Kpt.trans HK.out (Kpt.alloc k2.up (.cells #[.int .u8 p.kind, .int .i64 p.number, .int .i64 p.epoch, .string p.who, .string p.text] 74)) (fun _ e _ => e)
      have hs2 : w1.heap.size < (w2.alloc (.cells #[.int .u8 p.kind, .int .i64 p.number, .int .i64 p.epoch, .string p.who, .string p.text] 74)).heap.size := by
        have := k2.size; have := HK.out.size; simp; omega
      have hs2' : w1.heap.size ≤ w2.heap.size := by have := k2.size; have := HK.out.size; omega
      clear q0 q1 q2 q3 q4 k2 E118
      have E119 := Lib.hid hv2.mark
      have e83 := do_any hv2 (by omega) hp0 hp1 HPc.out hpw hpt (by omega)
      obtain ⟨R, hR⟩ : ∃ R, playR X p = R := ⟨_, rfl⟩
      rw [hR] at e83
      obtain ⟨X', err, i, line, g⟩ := R
      simp only at e83
      have HPr := Lib.hid hR
      have E83 := Lib.hid e83
      clear e83 hR
      have HB7 := Lib.hid hb7; have HM2 := Lib.hid hm2; have HK2 := Lib.hid hk2; have HV2 := Lib.hid hv2; clear hb7 hm2 hk2 hv2
      go_wp2_with fail
      refine E119.out.mono ?_
      rintro e w3 ⟨rfl, rfl⟩
      go_wp2_with fail
      clear E119
      obtain ⟨wA, hwA⟩ : ∃ wA, w2.alloc (.cells #[.int .u8 p.kind, .int .i64 p.number, .int .i64 p.epoch, .string p.who, .string p.text] 74) = wA := ⟨_, rfl⟩
      rw [hwA] at E83 HB7 HM2 HK2 HV2 hs2 ⊢
      clear hwA
      have hu2 : w2.heap.size < wA.heap.size := HB7.out.lt
      refine E83.out.mono ?_
      rintro e w4 ⟨A4, c4, rfl, htm4, hv4, k4⟩
      have HXc := Lib.hid (fun (k : Int) (t : Tm) (hk : 1 ≤ k ∧ k ≤ 99) (ht : X k = some t) => HV.out.chk hk ht)
      have hb74 := HB7.out.kpt k4 (fun e => by have := e.2; omega)
      have hm4 := HM2.out.kpt k4 (fun i e => by have := e.2; omega) (Nat.le_refl _)
      have hk4 := Kpt.trans HK2.out k4 (fun _ e _ => e)
      have hs4 := k4.size
      have q0 : ∀ o, (w4.alloc o).cell? ⟨w2.heap.size, 0, none⟩ = some (.int .u8 p.kind) := fun o => cell_alloc_ (hb74.cell 0) o
      have q1 : ∀ o, (w4.alloc o).cell? ⟨w2.heap.size, 1, none⟩ = some (.int .i64 p.number) := fun o => cell_alloc_ (hb74.cell 1) o
      have q2 : ∀ o, (w4.alloc o).cell? ⟨w2.heap.size, 2, none⟩ = some (.int .i64 p.epoch) := fun o => cell_alloc_ (hb74.cell 2) o
      have q3 : ∀ o, (w4.alloc o).cell? ⟨w2.heap.size, 3, none⟩ = some (.string p.who) := fun o => cell_alloc_ (hb74.cell 3) o
      have q4 : ∀ o, (w4.alloc o).cell? ⟨w2.heap.size, 4, none⟩ = some (.string p.text) := fun o => cell_alloc_ (hb74.cell 4) o
      have HB74 := Lib.hid hb74; have HM4 := Lib.hid hm4; have HK4 := Lib.hid hk4; have HV4 := Lib.hid hv4; have HTm := Lib.hid htm4; clear hb74 hm4 hk4 hv4 htm4 k4 E83 HV HM HK HB7 HM2 HK2 HV2
      by_cases hn : (1 ≤ p.number ∧ p.number ≤ 99) ∧ (0 ≤ p.epoch ∧ p.epoch ≤ 1073741824)
      · obtain ⟨⟨n1, n2⟩, n3, n4⟩ := hn
        have n1' : ¬ p.number < 1 := by omega
        have n2' : ¬ 99 < p.number := by omega
        have n3' : ¬ p.epoch < 0 := by omega
        have n4' : ¬ 1073741824 < p.epoch := by omega
        obtain ⟨a1, a2, a3, a4, a5, a6, a7⟩ := agree (X := X) hpt ⟨⟨n1, n2⟩, n3, n4⟩
        rw [HPr.out] at a1 a2 a3 a4 a5 a6 a7
        simp only at a1 a2 a3 a4 a5 a6 a7
        have hmB := HM4.out.kpt (Kpt.alloc (Kpt.refl Non w4) (.cells #[.int .i64 g.epoch, .string g.session, .slice A4 g.typed.length c4, .string g.screen] 36)) (fun _ e => e.elim) (Nat.le_refl _)
        obtain ⟨Ax, cx, hlk, hxv⟩ := hmB.look ⟨n1, n2⟩
        have hchk : chkT ((X p.number).getD zeroT) = 0 := by
          cases hX : X p.number with
          | none => exact chk_zero
          | some t => exact HXc.out _ _ ⟨n1, n2⟩ hX
        generalize (X p.number).getD zeroT = x at a1 a2 a3 a6 hlk hxv hchk
        have hsz := inRef_sizes (epoch := p.epoch) hchk
        have hgl := same_got (o := p) hchk
        have e120 := same_any hxv (fun i h => h.2) hp0 hp1 HPc.out hpw hpt (by omega) (by omega) (by omega)
        generalize sameR x p = SR at a1 a2 a3 a6 hgl e120
        obtain ⟨nx, er, ln, gt⟩ := SR
        simp only at a1 a2 a3 a6 hgl e120
        subst a1 a2 a3
        have hlk0 := hlk false
        simp only [Bool.false_eq_true, if_false] at hlk0
        have E120 := Lib.hid e120; have HXv := Lib.hid hxv
        have A4' := Lib.hid a4; have A6' := Lib.hid a6; have A7' := Lib.hid a7
        clear e120 hlk hxv a4 a6 a7 hmB HPr hchk
        go_wp2_with fail
        refine E120.out.mono ?_
        rintro e w5 ⟨A5, c5, B5, d5, rfl, htn, htg, k5⟩
        clear hlk0 q0 q1 q2 q3 q4
        have HS := Lib.hid (fun w' (kk : Kpt Non ((w5.alloc (.cells #[.int .i64 nx.epoch, .string nx.session, .slice A5 nx.typed.length c5, .string nx.screen] 44)).alloc (.cells #[.int .i64 g.epoch, .string g.session, .slice B5 g.typed.length d5, .string g.screen] 44)) w') => by
          have k05 : Kpt Non w4 w' := Kpt.trans (Kpt.trans (Kpt.alloc (Kpt.refl _ _) _) k5 (fun _ e _ => e)) (Kpt.trans (Kpt.alloc (Kpt.alloc (Kpt.refl Non w5) _) _) kk (fun _ e _ => e)) (fun _ e _ => e)
          have k55 : Kpt Non w5 w' := Kpt.trans (Kpt.alloc (Kpt.alloc (Kpt.refl Non w5) _) _) kk (fun _ e _ => e)
          have b11 := ((Blk.new w4 36 #[.int .i64 g.epoch, .string g.session, .slice A4 g.typed.length c4, .string g.screen]).kpt k5 (fun e => e)).kpt k55 (fun e => e)
          have b12 := ((Blk.new w5 44 #[.int .i64 nx.epoch, .string nx.session, .slice A5 nx.typed.length c5, .string nx.screen]).alloc (.cells #[.int .i64 g.epoch, .string g.session, .slice B5 g.typed.length d5, .string g.screen] 44)).kpt kk (fun e => e)
          have b15 := (Blk.new (w5.alloc (.cells #[.int .i64 nx.epoch, .string nx.session, .slice A5 nx.typed.length c5, .string nx.screen] 44)) 44 #[.int .i64 g.epoch, .string g.session, .slice B5 g.typed.length d5, .string g.screen]).kpt kk (fun e => e)
          simp only [World.size_alloc] at b15
          have b7 := HB74.out.kpt k05 (fun e => e)
          exact (show (w'.cell? ⟨w4.heap.size, 0, none⟩ = some (.int .i64 g.epoch) ∧ w'.cell? ⟨w4.heap.size, 1, none⟩ = some (.string g.session) ∧ w'.cell? ⟨w4.heap.size, 2, none⟩ = some (.slice A4 g.typed.length c4) ∧ w'.cell? ⟨w4.heap.size, 3, none⟩ = some (.string g.screen) ∧ w'.cell? ⟨w5.heap.size + 1, 0, none⟩ = some (.int .i64 g.epoch) ∧ w'.cell? ⟨w5.heap.size + 1, 1, none⟩ = some (.string g.session) ∧ w'.cell? ⟨w5.heap.size + 1, 2, none⟩ = some (.slice B5 g.typed.length d5) ∧ w'.cell? ⟨w5.heap.size + 1, 3, none⟩ = some (.string g.screen)) ∧ (w'.cell? ⟨w5.heap.size, 0, none⟩ = some (.int .i64 nx.epoch) ∧ w'.cell? ⟨w5.heap.size, 1, none⟩ = some (.string nx.session) ∧ w'.cell? ⟨w5.heap.size, 2, none⟩ = some (.slice A5 nx.typed.length c5) ∧ w'.cell? ⟨w5.heap.size, 3, none⟩ = some (.string nx.screen)) ∧ (w'.cell? ⟨w2.heap.size, 0, none⟩ = some (.int .u8 p.kind) ∧ w'.cell? ⟨w2.heap.size, 1, none⟩ = some (.int .i64 p.number) ∧ w'.cell? ⟨w2.heap.size, 2, none⟩ = some (.int .i64 p.epoch) ∧ w'.cell? ⟨w2.heap.size, 3, none⟩ = some (.string p.who) ∧ w'.cell? ⟨w2.heap.size, 4, none⟩ = some (.string p.text)) ∧ V w top w' b (c + i) X' ∧ RelM w' w1.heap.size w1.heap.size X ∧ Kpt (Btw w top) w1 w' ∧
              TmV w' (fun i => wA.heap.size ≤ i) g (.agg #[.int .i64 g.epoch, .string g.session, .slice A4 g.typed.length c4, .string g.screen]) ∧ TmV w' (fun i => ((w1.heap.size ≤ i ∧ i ≠ w1.heap.size) ∧ i < (w4.alloc (.cells #[.int .i64 g.epoch, .string g.session, .slice A4 g.typed.length c4, .string g.screen] 36)).heap.size) ∨ (w4.alloc (.cells #[.int .i64 g.epoch, .string g.session, .slice A4 g.typed.length c4, .string g.screen] 36)).heap.size ≤ i) g (.agg #[.int .i64 g.epoch, .string g.session, .slice B5 g.typed.length d5, .string g.screen]) ∧ TmV w' (fun i => w1.heap.size ≤ i ∧ i ≠ w1.heap.size) nx (.agg #[.int .i64 nx.epoch, .string nx.session, .slice A5 nx.typed.length c5, .string nx.screen]) from
            ⟨⟨b11.cell 0, b11.cell 1, b11.cell 2, b11.cell 3, b15.cell 0, b15.cell 1, b15.cell 2, b15.cell 3⟩, ⟨b12.cell 0, b12.cell 1, b12.cell 2, b12.cell 3⟩, ⟨b7.cell 0, b7.cell 1, b7.cell 2, b7.cell 3, b7.cell 4⟩, HV4.out.non k05, HM4.out.kpt k05 (fun _ e => e.elim) (Nat.le_refl _), Kpt.trans HK4.out k05 (fun _ e _ => e.elim),
              HTm.out.kpt k05 (fun _ _ e => e), htg.kpt k55 (fun _ _ e => e), (htn.kpt k55 (fun _ _ e => e)).more (fun i h => by
                rcases h with h | h
                · exact h.1
                · have h' : ((w4.alloc (.cells #[.int .i64 g.epoch, .string g.session, .slice A4 g.typed.length c4, .string g.screen] 36))).heap.size ≤ i := h
                  simp at h'
                  omega)⟩))
        have E44 := Lib.hid (fun v D w' (ha : TmV w' D g v) => f44_any g v D w' ha (by omega))
        have E43 := Lib.hid (fun va vb D E w' (ha : TmV w' D g va) (hb : TmV w' E g vb) => f43_self g va vb D E w' ha hb (by omega))
        clear htn htg k5
        by_cases h0 : err = 0
        · subst h0
          go_upto_region 12 with fail
          go_cut [103] (fun x wc => x = .bool false ∧ Hid (Kpt Non ((w5.alloc (.cells #[.int .i64 nx.epoch, .string nx.session, .slice A5 nx.typed.length c5, .string nx.screen] 44)).alloc (.cells #[.int .i64 g.epoch, .string g.session, .slice B5 g.typed.length d5, .string g.screen] 44)) wc))
          case first =>
            refine wp_region_noPanic ?_
            refine wp_region_held_drew (S := (fun w' => w'.cell? ⟨w4.heap.size, 0, none⟩ = some (.int .i64 g.epoch) ∧ w'.cell? ⟨w4.heap.size, 1, none⟩ = some (.string g.session) ∧ w'.cell? ⟨w4.heap.size, 2, none⟩ = some (.slice A4 g.typed.length c4) ∧ w'.cell? ⟨w4.heap.size, 3, none⟩ = some (.string g.screen) ∧ w'.cell? ⟨w5.heap.size + 1, 0, none⟩ = some (.int .i64 g.epoch) ∧ w'.cell? ⟨w5.heap.size + 1, 1, none⟩ = some (.string g.session) ∧ w'.cell? ⟨w5.heap.size + 1, 2, none⟩ = some (.slice B5 g.typed.length d5) ∧ w'.cell? ⟨w5.heap.size + 1, 3, none⟩ = some (.string g.screen))) (by kernel_rfl) ?_ (fun hHeld => ?_)
            · (try dsimp only); (refine (HS.out _ ?_).1; ((repeat (first | with_reducible exact Kpt.refl _ _ | with_reducible apply Kpt.alloc | with_reducible apply Kpt.drew | with_reducible apply Kpt.drewN | (refine Kpt.trans (S' := Non) ?_ (by first | assumption | (apply Lib.Hid.out; assumption)) (fun _ e _ => e)))); done))
            refine wpAnyH_take (i := 0) (v := ?v0) (by first | (simp only [List.getElem?_toArray, List.getElem?_cons_zero]; done) | (simp only [List.getElem?_toArray, List.getElem?_cons_zero]; rfl)) (by kernel_rfl) (by kernel_rfl) (by kernel_rfl) (fun _ _ _ h => h) (Or.inl ⟨by rfl, ?y0⟩) (by assumption) ?r0
            case y0 => (intro w hSw; (try dsimp only at hSw); go_simp; try (with_reducible rfl))
            (try simp only [Act.put, List.setIfInBounds_toArray, List.set_cons_zero, List.set_cons_succ])
            refine wpAnyH_take (i := 1) (v := ?v1) (by first | (simp only [List.getElem?_toArray, List.getElem?_cons_succ, List.getElem?_cons_zero]; done) | (simp only [List.getElem?_toArray, List.getElem?_cons_succ, List.getElem?_cons_zero]; rfl)) (by kernel_rfl) (by kernel_rfl) (by kernel_rfl) (fun _ _ _ h => h) (Or.inl ⟨by rfl, ?y1⟩) (by assumption) ?r1
            case y1 => (intro w hSw; (try dsimp only at hSw); go_simp; try (with_reducible rfl))
            (try simp only [Act.put, List.setIfInBounds_toArray, List.set_cons_zero, List.set_cons_succ])
            refine wpAnyH_take (i := 2) (v := ?v2) (by first | (simp only [List.getElem?_toArray, List.getElem?_cons_succ, List.getElem?_cons_zero]; done) | (simp only [List.getElem?_toArray, List.getElem?_cons_succ, List.getElem?_cons_zero]; rfl)) (by kernel_rfl) (by kernel_rfl) (by kernel_rfl) (fun _ _ _ h => h) (Or.inl ⟨by rfl, ?y2⟩) (by assumption) ?r2
            case y2 => (intro w hSw; (try dsimp only at hSw); go_simp; try (with_reducible rfl))
            (try simp only [Act.put, List.setIfInBounds_toArray, List.set_cons_zero, List.set_cons_succ])
            refine wpAnyH_take (i := 3) (v := ?v3) (by first | (simp only [List.getElem?_toArray, List.getElem?_cons_succ, List.getElem?_cons_zero]; done) | (simp only [List.getElem?_toArray, List.getElem?_cons_succ, List.getElem?_cons_zero]; rfl)) (by kernel_rfl) (by kernel_rfl) (by kernel_rfl) (fun _ _ _ h => h) (Or.inl ⟨by rfl, ?y3⟩) (by assumption) ?r3
            case y3 => (intro w hSw; (try dsimp only at hSw); go_simp; try (with_reducible rfl))
            (try simp only [Act.put, List.setIfInBounds_toArray, List.set_cons_zero, List.set_cons_succ])
            refine wpAnyH_take (i := 4) (v := ?v4) (by first | (simp only [List.getElem?_toArray, List.getElem?_cons_succ, List.getElem?_cons_zero]; done) | (simp only [List.getElem?_toArray, List.getElem?_cons_succ, List.getElem?_cons_zero]; rfl)) (by kernel_rfl) (by kernel_rfl) (by kernel_rfl) (fun _ _ _ h => h) (Or.inl ⟨by rfl, ?y4⟩) (by assumption) ?r4
            case y4 => (intro w hSw; (try dsimp only at hSw); go_simp; try (with_reducible rfl))
            (try simp only [Act.put, List.setIfInBounds_toArray, List.set_cons_zero, List.set_cons_succ])
            refine wpAnyH_take (i := 5) (v := ?v5) (by first | (simp only [List.getElem?_toArray, List.getElem?_cons_succ, List.getElem?_cons_zero]; done) | (simp only [List.getElem?_toArray, List.getElem?_cons_succ, List.getElem?_cons_zero]; rfl)) (by kernel_rfl) (by kernel_rfl) (by kernel_rfl) (fun _ _ _ h => h) (Or.inl ⟨by rfl, ?y5⟩) (by assumption) ?r5
            case y5 => (intro w hSw; (try dsimp only at hSw); go_simp; try (with_reducible rfl))
            (try simp only [Act.put, List.setIfInBounds_toArray, List.set_cons_zero, List.set_cons_succ])
            refine wpAnyH_take (i := 6) (v := ?v6) (by first | (simp only [List.getElem?_toArray, List.getElem?_cons_succ, List.getElem?_cons_zero]; done) | (simp only [List.getElem?_toArray, List.getElem?_cons_succ, List.getElem?_cons_zero]; rfl)) (by kernel_rfl) (by kernel_rfl) (by kernel_rfl) (fun _ _ _ h => h) (Or.inl ⟨by rfl, ?y6⟩) (by assumption) ?r6
            case y6 => (intro w hSw; (try dsimp only at hSw); go_simp; try (with_reducible rfl))
            (try simp only [Act.put, List.setIfInBounds_toArray, List.set_cons_zero, List.set_cons_succ])
            refine wpAnyH_take (i := 7) (v := ?v7) (by first | (simp only [List.getElem?_toArray, List.getElem?_cons_succ, List.getElem?_cons_zero]; done) | (simp only [List.getElem?_toArray, List.getElem?_cons_succ, List.getElem?_cons_zero]; rfl)) (by kernel_rfl) (by kernel_rfl) (by kernel_rfl) (fun _ _ _ h => h) (Or.inl ⟨by rfl, ?y7⟩) (by assumption) ?r7
            case y7 => (intro w hSw; (try dsimp only at hSw); go_simp; try (with_reducible rfl))
            (try simp only [Act.put, List.setIfInBounds_toArray, List.set_cons_zero, List.set_cons_succ])
            refine wpAnyH_take (i := 8) (v := ?v8) (by first | (simp only [List.getElem?_toArray, List.getElem?_cons_succ, List.getElem?_cons_zero]; done) | (simp only [List.getElem?_toArray, List.getElem?_cons_succ, List.getElem?_cons_zero]; rfl)) (by kernel_rfl) (by kernel_rfl) (by kernel_rfl) (fun _ _ _ h => h) (Or.inl ⟨by rfl, ?y8⟩) (by assumption) ?r8
            case y8 => (intro w hSw; (try dsimp only at hSw); go_simp; try (with_reducible rfl))
            (try simp only [Act.put, List.setIfInBounds_toArray, List.set_cons_zero, List.set_cons_succ])
            refine wpAnyH_take (i := 9) (v := ?v9) (by first | (simp only [List.getElem?_toArray, List.getElem?_cons_succ, List.getElem?_cons_zero]; done) | (simp only [List.getElem?_toArray, List.getElem?_cons_succ, List.getElem?_cons_zero]; rfl)) (by kernel_rfl) (by kernel_rfl) (by kernel_rfl) (fun _ _ _ h => h) (Or.inl ⟨by rfl, ?y9⟩) (by assumption) ?r9
            case y9 => (intro w hSw; (try dsimp only at hSw); go_simp; try (with_reducible rfl))
            (try simp only [Act.put, List.setIfInBounds_toArray, List.set_cons_zero, List.set_cons_succ])
            refine wpAnyH_take (i := 11) (v := ?v11) (by first | (simp only [List.getElem?_toArray, List.getElem?_cons_succ, List.getElem?_cons_zero]; done) | (simp only [List.getElem?_toArray, List.getElem?_cons_succ, List.getElem?_cons_zero]; rfl)) (by kernel_rfl) (by kernel_rfl) (by kernel_rfl) (fun _ _ _ h => h) (Or.inl ⟨by rfl, ?y11⟩) (by assumption) ?r11
            case y11 => (intro w hSw; (try dsimp only at hSw); go_simp; try (with_reducible rfl))
            (try simp only [Act.put, List.setIfInBounds_toArray, List.set_cons_zero, List.set_cons_succ])
            refine wpAnyH_ready (rs := [10]) (by kernel_rfl) (by simp) ?_
            refine AllReadyH.cons (i := 10) (by first | (simp only [List.getElem?_toArray, List.getElem?_cons_succ, List.getElem?_cons_zero]; done) | (simp only [List.getElem?_toArray, List.getElem?_cons_succ, List.getElem?_cons_zero]; rfl)) (fun K hK => ?_) AllReadyH.nil
            go_simp
            (go_at_call 31; ((with_reducible refine (E44.out _ _ _ (HS.out _ (by ((repeat (first | with_reducible exact Kpt.refl _ _ | with_reducible apply Kpt.alloc | with_reducible apply Kpt.drew | with_reducible apply Kpt.drewN | (refine Kpt.trans (S' := Non) ?_ (by first | assumption | (apply Lib.Hid.out; assumption)) (fun _ e _ => e)))); done))).2.2.2.2.2.2.1).mono ?_); rintro e wq ⟨v44, rfl, h44, k44⟩))
            refine hK.out _ _ ?_ (fun hHeld => ?_)
            · (try dsimp only); (refine (HS.out _ ?_).1; ((repeat (first | with_reducible exact Kpt.refl _ _ | with_reducible apply Kpt.alloc | with_reducible apply Kpt.drew | with_reducible apply Kpt.drewN | (refine Kpt.trans (S' := Non) ?_ (by first | assumption | (apply Lib.Hid.out; assumption)) (fun _ e _ => e)))); done))
            clear hK K
            (try simp only [Act.put, List.setIfInBounds_toArray, List.set_cons_zero, List.set_cons_succ])
            refine wpAnyH_ready (rs := [12]) (by kernel_rfl) (by simp) ?_
            refine AllReadyH.cons (i := 12) (by first | (simp only [List.getElem?_toArray, List.getElem?_cons_succ, List.getElem?_cons_zero]; done) | (simp only [List.getElem?_toArray, List.getElem?_cons_succ, List.getElem?_cons_zero]; rfl)) (fun K hK => ?_) AllReadyH.nil
            go_simp
            (go_at_call 30; ((with_reducible refine (E43.out _ _ _ _ _ (by assumption) (HS.out _ (by ((repeat (first | with_reducible exact Kpt.refl _ _ | with_reducible apply Kpt.alloc | with_reducible apply Kpt.drew | with_reducible apply Kpt.drewN | (refine Kpt.trans (S' := Non) ?_ (by first | assumption | (apply Lib.Hid.out; assumption)) (fun _ e _ => e)))); done))).2.2.2.2.2.2.2.1).mono ?_); rintro e wq ⟨rfl, k43⟩))
            refine hK.out _ _ ?_ (fun hHeld => ?_)
            · (try dsimp only); (refine (HS.out _ ?_).1; ((repeat (first | with_reducible exact Kpt.refl _ _ | with_reducible apply Kpt.alloc | with_reducible apply Kpt.drew | with_reducible apply Kpt.drewN | (refine Kpt.trans (S' := Non) ?_ (by first | assumption | (apply Lib.Hid.out; assumption)) (fun _ e _ => e)))); done))
            clear hK K
            (try simp only [Act.put, List.setIfInBounds_toArray, List.set_cons_zero, List.set_cons_succ])
            refine wpAnyH_take (i := 13) (v := ?v13) (by first | (simp only [List.getElem?_toArray, List.getElem?_cons_succ, List.getElem?_cons_zero]; done) | (simp only [List.getElem?_toArray, List.getElem?_cons_succ, List.getElem?_cons_zero]; rfl)) (by kernel_rfl) (by kernel_rfl) (by kernel_rfl) (fun _ _ _ h => h) (Or.inl ⟨by rfl, ?y13⟩) (by assumption) ?r13
            case y13 => (intro w hSw; (try dsimp only at hSw); go_simp; try (with_reducible rfl))
            (try simp only [Act.put, List.setIfInBounds_toArray, List.set_cons_zero, List.set_cons_succ])
            refine wpAnyH_take (i := 14) (v := ?v14) (by first | (simp only [List.getElem?_toArray, List.getElem?_cons_succ, List.getElem?_cons_zero]; done) | (simp only [List.getElem?_toArray, List.getElem?_cons_succ, List.getElem?_cons_zero]; rfl)) (by kernel_rfl) (by kernel_rfl) (by kernel_rfl) (fun _ _ _ h => h) (Or.inl ⟨by rfl, ?y14⟩) (by assumption) ?r14
            case y14 => (intro w hSw; (try dsimp only at hSw); go_simp; try (with_reducible rfl))
            (try simp only [Act.put, List.setIfInBounds_toArray, List.set_cons_zero, List.set_cons_succ])
            refine wpAnyH_take (i := 15) (v := ?v15) (by first | (simp only [List.getElem?_toArray, List.getElem?_cons_succ, List.getElem?_cons_zero]; done) | (simp only [List.getElem?_toArray, List.getElem?_cons_succ, List.getElem?_cons_zero]; rfl)) (by kernel_rfl) (by kernel_rfl) (by kernel_rfl) (fun _ _ _ h => h) (Or.inl ⟨by rfl, ?y15⟩) (by assumption) ?r15
            case y15 => (intro w hSw; (try dsimp only at hSw); go_simp; try (with_reducible rfl))
            (try simp only [Act.put, List.setIfInBounds_toArray, List.set_cons_zero, List.set_cons_succ])
            refine wpAnyH_take (i := 16) (v := ?v16) (by first | (simp only [List.getElem?_toArray, List.getElem?_cons_succ, List.getElem?_cons_zero]; done) | (simp only [List.getElem?_toArray, List.getElem?_cons_succ, List.getElem?_cons_zero]; rfl)) (by kernel_rfl) (by kernel_rfl) (by kernel_rfl) (fun _ _ _ h => h) (Or.inl ⟨by rfl, ?y16⟩) (by assumption) ?r16
            case y16 => (intro w hSw; (try dsimp only at hSw); go_simp; try (with_reducible rfl))
            (try simp only [Act.put, List.setIfInBounds_toArray, List.set_cons_zero, List.set_cons_succ])
            refine wpAnyH_take (i := 17) (v := ?v17) (by first | (simp only [List.getElem?_toArray, List.getElem?_cons_succ, List.getElem?_cons_zero]; done) | (simp only [List.getElem?_toArray, List.getElem?_cons_succ, List.getElem?_cons_zero]; rfl)) (by kernel_rfl) (by kernel_rfl) (by kernel_rfl) (fun _ _ _ h => h) (Or.inl ⟨by rfl, ?y17⟩) (by assumption) ?r17
            case y17 => (intro w hSw; (try dsimp only at hSw); go_simp; try (with_reducible rfl))
            (try simp only [Act.put, List.setIfInBounds_toArray, List.set_cons_zero, List.set_cons_succ])
            refine wpAnyH_take (i := 18) (v := ?v18) (by first | (simp only [List.getElem?_toArray, List.getElem?_cons_succ, List.getElem?_cons_zero]; done) | (simp only [List.getElem?_toArray, List.getElem?_cons_succ, List.getElem?_cons_zero]; rfl)) (by kernel_rfl) (by kernel_rfl) (by kernel_rfl) (fun _ _ _ h => h) (Or.inl ⟨by rfl, ?y18⟩) (by assumption) ?r18
            case y18 => (intro w hSw; (try dsimp only at hSw); go_simp; try (with_reducible rfl))
            (try simp only [Act.put, List.setIfInBounds_toArray, List.set_cons_zero, List.set_cons_succ])
            refine wpAnyH_take (i := 19) (by first | (simp only [List.getElem?_toArray, List.getElem?_cons_succ, List.getElem?_cons_zero]; done) | (simp only [List.getElem?_toArray, List.getElem?_cons_succ, List.getElem?_cons_zero]; rfl)) (by kernel_rfl) (by kernel_rfl) (by kernel_rfl) (fun _ _ _ h => h) (Or.inr ⟨by rfl, rfl⟩) (by assumption) ?_
            (try simp only [Act.put, List.setIfInBounds_toArray, List.set_cons_zero, List.set_cons_succ])
            refine wpAnyH_take (i := 21) (by first | (simp only [List.getElem?_toArray, List.getElem?_cons_succ, List.getElem?_cons_zero]; done) | (simp only [List.getElem?_toArray, List.getElem?_cons_succ, List.getElem?_cons_zero]; rfl)) (by kernel_rfl) (by kernel_rfl) (by kernel_rfl) (fun _ _ _ h => h) (Or.inr ⟨by rfl, rfl⟩) (by assumption) ?_
            (try simp only [Act.put, List.setIfInBounds_toArray, List.set_cons_zero, List.set_cons_succ])
            refine wpAnyH_take (i := 20) (by first | (simp only [List.getElem?_toArray, List.getElem?_cons_succ, List.getElem?_cons_zero]; done) | (simp only [List.getElem?_toArray, List.getElem?_cons_succ, List.getElem?_cons_zero]; rfl)) (by kernel_rfl) (by kernel_rfl) (by kernel_rfl) (fun _ _ _ h => h) (Or.inr ⟨by rfl, rfl⟩) (by assumption) ?_
            (try simp only [Act.put, List.setIfInBounds_toArray, List.set_cons_zero, List.set_cons_succ])
            refine wpAnyH_take (i := 22) (by first | (simp only [List.getElem?_toArray, List.getElem?_cons_succ, List.getElem?_cons_zero]; done) | (simp only [List.getElem?_toArray, List.getElem?_cons_succ, List.getElem?_cons_zero]; rfl)) (by kernel_rfl) (by kernel_rfl) (by kernel_rfl) (fun _ _ _ h => h) (Or.inr ⟨by rfl, rfl⟩) (by assumption) ?_
            (try simp only [Act.put, List.setIfInBounds_toArray, List.set_cons_zero, List.set_cons_succ])
            refine wpAnyH_take (i := 23) (v := ?v23) (by first | (simp only [List.getElem?_toArray, List.getElem?_cons_succ, List.getElem?_cons_zero]; done) | (simp only [List.getElem?_toArray, List.getElem?_cons_succ, List.getElem?_cons_zero]; rfl)) (by kernel_rfl) (by kernel_rfl) (by kernel_rfl) (fun _ _ _ h => h) (Or.inl ⟨by rfl, ?y23⟩) (by assumption) ?r23
            case y23 => (intro w hSw; (try dsimp only at hSw); go_simp; try (with_reducible rfl))
            (try simp only [Act.put, List.setIfInBounds_toArray, List.set_cons_zero, List.set_cons_succ])
            refine wpAnyH_take (i := 24) (v := ?v24) (by first | (simp only [List.getElem?_toArray, List.getElem?_cons_succ, List.getElem?_cons_zero]; done) | (simp only [List.getElem?_toArray, List.getElem?_cons_succ, List.getElem?_cons_zero]; rfl)) (by kernel_rfl) (by kernel_rfl) (by kernel_rfl) (fun _ _ _ h => h) (Or.inl ⟨by rfl, ?y24⟩) (by assumption) ?r24
            case y24 => (intro w hSw; (try dsimp only at hSw); go_simp; try (with_reducible rfl))
            (try simp only [Act.put, List.setIfInBounds_toArray, List.set_cons_zero, List.set_cons_succ])
            refine wpAnyH_done (by kernel_rfl) ?_ _
            refine NoPanic.normal ?_
            go_wp2_with fail
            go_meet
            exact ⟨rfl, Lib.hid (by ((repeat (first | with_reducible exact Kpt.refl _ _ | with_reducible apply Kpt.alloc | with_reducible apply Kpt.drew | with_reducible apply Kpt.drewN | (refine Kpt.trans (S' := Non) ?_ (by first | assumption | (apply Lib.Hid.out; assumption)) (fun _ e _ => e)))); done))⟩
          case rest =>
            obtain ⟨rfl, HKc⟩ := hcut
            have hfin := HS.out wc HKc.out
            obtain ⟨q0, q1, q2, q3, q4⟩ := hfin.2.2.1
            obtain ⟨r0, r1, r2, r3⟩ := hfin.2.1
            have HVf := Lib.hid hfin.2.2.2.1; have HMx := Lib.hid hfin.2.2.2.2.1; have HKf := Lib.hid hfin.2.2.2.2.2.1; have HNx := Lib.hid hfin.2.2.2.2.2.2.2.2
            clear hfin
            by_cases h7 : p.kind % 8 = 7
            · obtain rfl := A7'.out (by first | rfl | trivial) (fun h => by have := h.1; omega)
              have HMf := HMx
              go_wp2_with fail
              exact ⟨⟨k + 1, c + i, X', rfl, rfl, by go_num, by omega, by omega, by omega, HVf, HMf, HKf⟩, by simp [intOf]; omega⟩
            by_cases h6 : p.kind % 8 = 6
            · by_cases ht : p.text.size = 0
              · have ht' := isEmpty_true ht
                obtain rfl := A7'.out (by first | rfl | trivial) (fun h => h.2 ⟨h6, ht⟩)
                have HMf := HMx
                have HT := Lib.hid ht; clear ht h7
                go_wp2_with fail
                exact ⟨⟨k + 1, c + i, X', rfl, rfl, by go_num, by omega, by omega, by omega, HVf, HMf, HKf⟩, by simp [intOf]; omega⟩
              · have ht' := isEmpty_false ht
                obtain rfl := A6'.out (by first | rfl | trivial) ⟨by omega, fun h => ht h.2⟩
                have HT := Lib.hid ht; clear ht h7
                obtain ⟨ob, hu, hM, es', cl, hmap⟩ := HMx.out.put (k := p.number) HNx.out
                have hVp := HVf.out.put_map hmap (by omega) ob
                have HU := Lib.hid hM; have HVp := Lib.hid hVp; have HMap := Lib.hid hmap; clear hM hVp hmap
                go_wp2_with fail
                exact ⟨⟨k + 1, c + i, _, rfl, rfl, by go_num, by omega, by omega, by omega, HVp, HU, Lib.hid (Kpt.trans HKf.out ((Kpt.refl (One w1.heap.size) wc).put (fun _ => rfl) ob) (fun i e hlt => by have e' : i = w1.heap.size := e; omega))⟩, by simp [intOf]; omega⟩
            · have h6' : (p.kind % 8 == 6) = false := by rw [beq_eq_false_iff_ne]; exact h6
              have h7' : p.kind % 8 < 7 := by omega
              obtain rfl := A6'.out (by first | rfl | trivial) ⟨h7', fun h => h6 h.1⟩
              clear h6 h7
              obtain ⟨ob, hu, hM, es', cl, hmap⟩ := HMx.out.put (k := p.number) HNx.out
              have hVp := HVf.out.put_map hmap (by omega) ob
              have HU := Lib.hid hM; have HVp := Lib.hid hVp; have HMap := Lib.hid hmap; clear hM hVp hmap
              go_wp2_with fail
              exact ⟨⟨k + 1, c + i, _, rfl, rfl, by go_num, by omega, by omega, by omega, HVp, HU, Lib.hid (Kpt.trans HKf.out ((Kpt.refl (One w1.heap.size) wc).put (fun _ => rfl) ob) (fun i e hlt => by have e' : i = w1.heap.size := e; omega))⟩, by simp [intOf]; omega⟩
        · have h0' : (err != 0) = true := by rw [bne_iff_ne]; exact h0
          have h0'' : (err == 0) = false := by rw [beq_eq_false_iff_ne]; exact h0
          obtain ⟨rfl, rfl⟩ := A4'.out h0
          have H0 := Lib.hid h0; clear h0
          go_upto_region 12 with fail
          go_region_held3 (fun w' => w'.cell? ⟨w4.heap.size, 0, none⟩ = some (.int .i64 g.epoch) ∧ w'.cell? ⟨w4.heap.size, 1, none⟩ = some (.string g.session) ∧ w'.cell? ⟨w4.heap.size, 2, none⟩ = some (.slice A4 g.typed.length c4) ∧ w'.cell? ⟨w4.heap.size, 3, none⟩ = some (.string g.screen) ∧ w'.cell? ⟨w5.heap.size + 1, 0, none⟩ = some (.int .i64 g.epoch) ∧ w'.cell? ⟨w5.heap.size + 1, 1, none⟩ = some (.string g.session) ∧ w'.cell? ⟨w5.heap.size + 1, 2, none⟩ = some (.slice B5 g.typed.length d5) ∧ w'.cell? ⟨w5.heap.size + 1, 3, none⟩ = some (.string g.screen))
            (first | (refine (HS.out _ ?_).1; ((repeat (first | with_reducible exact Kpt.refl _ _ | with_reducible apply Kpt.alloc | with_reducible apply Kpt.drew | with_reducible apply Kpt.drewN | (refine Kpt.trans (S' := Non) ?_ (by first | assumption | (apply Lib.Hid.out; assumption)) (fun _ e _ => e)))); done)))
            (first
              | (go_at_call 31; ((with_reducible refine (E44.out _ _ _ (HS.out _ (by ((repeat (first | with_reducible exact Kpt.refl _ _ | with_reducible apply Kpt.alloc | with_reducible apply Kpt.drew | with_reducible apply Kpt.drewN | (refine Kpt.trans (S' := Non) ?_ (by first | assumption | (apply Lib.Hid.out; assumption)) (fun _ e _ => e)))); done))).2.2.2.2.2.2.1).mono ?_); rintro e wq ⟨v44, rfl, h44, k44⟩))
              | (go_at_call 30; ((with_reducible refine (E43.out _ _ _ _ _ (by assumption) (HS.out _ (by ((repeat (first | with_reducible exact Kpt.refl _ _ | with_reducible apply Kpt.alloc | with_reducible apply Kpt.drew | with_reducible apply Kpt.drewN | (refine Kpt.trans (S' := Non) ?_ (by first | assumption | (apply Lib.Hid.out; assumption)) (fun _ e _ => e)))); done))).2.2.2.2.2.2.2.1).mono ?_); rintro e wq ⟨rfl, k43⟩))
              | (go_at_call 70; ((with_reducible refine (HS.out _ (by ((repeat (first | with_reducible exact Kpt.refl _ _ | with_reducible apply Kpt.alloc | with_reducible apply Kpt.drew | with_reducible apply Kpt.drewN | (refine Kpt.trans (S' := Non) ?_ (by first | assumption | (apply Lib.Hid.out; assumption)) (fun _ e _ => e)))); done))).2.2.2.1.mark.mono ?_); rintro e wm ⟨rfl, rfl⟩))
              | fail)
          have hfin := HS.out wq (by ((repeat (first | with_reducible exact Kpt.refl _ _ | with_reducible apply Kpt.alloc | with_reducible apply Kpt.drew | with_reducible apply Kpt.drewN | (refine Kpt.trans (S' := Non) ?_ (by first | assumption | (apply Lib.Hid.out; assumption)) (fun _ e _ => e)))); done))
          obtain ⟨q0, q1, q2, q3, q4⟩ := hfin.2.2.1
          have HFin := Lib.hid hfin; clear hfin
          go_wp2_with fail
          exact ⟨⟨k + 1, c + 0, X', rfl, rfl, by go_num, by omega, by omega, by omega, Lib.hid HFin.out.2.2.2.1, Lib.hid HFin.out.2.2.2.2.1, Lib.hid HFin.out.2.2.2.2.2.1⟩, by simp [intOf]; omega⟩
      · obtain ⟨b1, b2, b3, b4⟩ := agree_bad (X := X) hn
        rw [HPr.out] at b1 b2 b3 b4
        simp only at b1 b2 b3 b4
        subst b1 b2 b3 b4
        have hbad : p.number < 1 ∨ (¬ p.number < 1 ∧ 99 < p.number) ∨ (¬ p.number < 1 ∧ ¬ 99 < p.number ∧ p.epoch < 0) ∨ (¬ p.number < 1 ∧ ¬ 99 < p.number ∧ ¬ p.epoch < 0 ∧ 1073741824 < p.epoch) := by omega
        clear hn HPr
        have E119 := Lib.hid (fun (o : Obj) => V.mark (HV4.out.non (Kpt.alloc (Kpt.refl _ _) o)))
        rcases hbad with h | ⟨h, h'⟩ | ⟨h, h', h''⟩ | ⟨h, h', h'', h3⟩
        all_goals
          go_wp2_with fail
          refine (E119.out _).mono ?_
          rintro e w5 ⟨rfl, rfl⟩
          go_wp2_with fail
          exact ⟨⟨k + 1, c + 0, X', rfl, rfl, by go_num, by omega, by omega, by omega, Lib.hid (HV4.out.non (Kpt.alloc (Kpt.refl _ _) _)), Lib.hid (HM4.out.kpt (Kpt.alloc (Kpt.refl Non _) _) (fun _ e => e.elim) (Nat.le_refl _)), Lib.hid (Kpt.alloc HK4.out _)⟩, by simp [intOf]; omega⟩
    · have hlt' : ¬ (k : Int) < (n : Int) ∨ ((k : Int) < (n : Int) ∧ ¬ (k : Int) < 30) := by omega
      clear hlt
      rcases hlt' with h | ⟨h, h'⟩
      all_goals
        go_wp2_with fail
        go_ret2
        exact ⟨w1.heap.size, X, c, rfl, HV.out, by omega, Nat.le_refl _, HM.out, HK.out⟩
end Go.Proofs.YtkpmabknjdgkmaaGreatDoor

namespace Go.Proofs.YtkpmabknjdgkmaaGreatDoor
open Go.RowKit

/-- What the map answers, in all later worlds alike. -/
theorem RelM.look_all {w : World} {mb lo : Nat} {X : Ts} {k : Int} (h : RelM w mb lo X) (hk : 1 ≤ k ∧ k ≤ 99) : ∃ A c, ∀ w', Kpt Non w w' →
    (Instr.lookup 61 (.map (some mb)) (.int .i64 k) true).run Tryz.prog w' = .ok (.tuple #[.agg #[.int .i64 ((X k).getD zeroT).epoch, .string ((X k).getD zeroT).session, .slice A ((X k).getD zeroT).typed.length c, .string ((X k).getD zeroT).screen], .bool (X k).isSome]) w' ∧
    (Instr.lookup 61 (.map (some mb)) (.int .i64 k) false).run Tryz.prog w' = .ok (.agg #[.int .i64 ((X k).getD zeroT).epoch, .string ((X k).getD zeroT).session, .slice A ((X k).getD zeroT).typed.length c, .string ((X k).getD zeroT).screen]) w' ∧
    TmV w' (fun i => lo ≤ i) ((X k).getD zeroT) (.agg #[.int .i64 ((X k).getD zeroT).epoch, .string ((X k).getD zeroT).session, .slice A ((X k).getD zeroT).typed.length c, .string ((X k).getD zeroT).screen]) := by
  obtain ⟨l, hl, hr⟩ := h
  have hz : ∀ w', (zeroValue 44).run Tryz.prog w' = .ok (.agg #[.int .i64 0, .string ⟨#[]⟩, .slice none 0 0, .string ⟨#[]⟩]) w' := fun w' => by kernel_rfl
  rcases hr k hk with ⟨h1, h2⟩ | ⟨t, A, c, h1, h2, h3⟩
  · rw [h2]
    refine ⟨none, 0, fun w' kk => ?_⟩
    have hlk := (hl.kpt kk (fun e => e)).lookup keyOk_int Tryz.underlying61 (hz w') k
    rw [h1] at hlk
    exact ⟨hlk.1, hlk.2, tmv_zero _ _⟩
  · rw [h1]
    refine ⟨A, c, fun w' kk => ?_⟩
    have hlk := (hl.kpt kk (fun e => e)).lookup keyOk_int Tryz.underlying61 (hz w') k
    rw [h2] at hlk
    exact ⟨hlk.1, hlk.2, (h3.kpt kk (fun _ _ e => e)).more (fun i h => h.1)⟩

theorem RelM.lt {w : World} {mb lo : Nat} {X : Ts} (h : RelM w mb lo X) : mb < w.heap.size := by
  obtain ⟨l, hl, _⟩ := h
  exact hl.lt
def valX (x : Option Tm) : ByteArray := match x with | none => es | some t => strB (encT t)
/-- What View.Get answers of a terminal's name. -/
theorem V.get {w w1 : World} {top b c : Nat} {X : Ts} {k : Int} (h : V w top w1 b c X) (hk : 1 ≤ k ∧ k ≤ 99) :
    Calls Tryz.prog 35 #[.pointer (some ⟨b, 0, none⟩), (ofTerminal k).val] w1 fun e w2 => e = .returned (.tuple #[.string (valX (X k)), .bool (X k).isSome]) ∧ V w top w2 b c X ∧ Kpt (Btw w top) w1 w2 := by
  obtain ⟨bs, sa, r, n, ⟨m, hv, hs, hc⟩, h1, h2, h3, k0⟩ := h
  refine (f48_any _ bs w1 sa b r n m hv (ofTerminal k) trivial (okNm_terminal k (by omega) (by omega))).mono ?_
  rintro e w2 ⟨rfl, kk, hv2⟩
  have hg := (hs k hk).get
  refine ⟨?_, ⟨bs, sa, r, n, ⟨_, hv2, fun j hj => ⟨by rw [VwM.get_got]; exact (hs j hj).get, (hs j hj).chk⟩, by rw [VwM.calls_got]; exact hc⟩, h1, h2, h3, Kpt.trans k0 kk (fun i e hlt => by have e' : i = r := e; omega)⟩, kk.mono (fun i e => by have e' : i = r := e; subst e'; exact h2)⟩
  rw [hg]
  unfold valX
  cases X k <;> rfl

set_option maxRecDepth 100000 in
set_option maxHeartbeats 2000000 in
theorem f7_any (A : Option Addr) (n cn : Nat) (ops : List Opn) (w : World) (hr : Rd w (fun i => i < w.heap.size) 5 A n (ops.flatMap Opn.cells)) (hok : ∀ o ∈ ops, OpnOk o) :
    Calls Tryz.prog 7 #[.slice A n cn] w fun e w' => e = .returned (.bool true) ∧ Kpt Non w w' := by
  have HR := Lib.hid hr; have HOk := Lib.hid hok; clear hr hok
  go_enter Tryz.func7, Tryz.ntmps7
  go_wp2_with fail
  refine (f24_any _).mono ?_
  rintro e w1 ⟨rfl, k1⟩
  have K1 := Lib.hid k1; clear k1
  go_wp2_with fail
  refine (f26_any _).mono ?_
  rintro e w2 ⟨rfl, rfl⟩
  go_wp2_with fail
  refine (V.new w1).mono ?_
  rintro e w2 ⟨b, rfl, hv⟩
  have hr2 := HR.out.kpt (Kpt.trans K1.out hv.kpt (fun _ e _ => e)) (fun _ _ e => e)
  obtain ⟨top, htop⟩ : ∃ top, w2.heap.size = top := ⟨_, rfl⟩
  rw [htop] at hv
  have hs1 := K1.out.size
  have E47 := Lib.hid (f47_any hv (by omega) A n cn ops (hr2.more (fun i h => by omega)) HOk.out)
  have HTop := Lib.hid htop
  clear hv hr2 htop
  go_wp2_with fail
  refine E47.out.mono ?_
  rintro e w3 ⟨mb, X, c, rfl, hv3, hc30, hmb, hM3, k3⟩
  have HV3 := Lib.hid hv3; have HM3 := Lib.hid hM3; have HMb := Lib.hid hmb; clear hv3 hM3 k3 hmb E47
  go_wp2_with fail
  go_loopw [2, 6] (fun x2 xi wr => ∃ j : Int, x2 = .bool false ∧ xi = .int .i64 j ∧ 1 ≤ j ∧ j ≤ 100 ∧ Hid (V w1 top wr b c X) ∧ Hid (RelM wr mb w2.heap.size X)) (fun _ xi _ => (100 - intOf xi).toNat)
  case atStart => exact ⟨1, rfl, rfl, by omega, by omega, HV3, HM3⟩
  case round =>
    obtain ⟨j, rfl, rfl, hj1, hj2, HV, HM⟩ := hrel
    by_cases hlt : j ≤ 99
    · obtain ⟨Ax, cx, hlk⟩ := HM.out.look_all ⟨hj1, hlt⟩
      have hchk : ∀ t, X j = some t → chkT t = 0 := fun t ht => HV.out.chk ⟨hj1, hlt⟩ ht
      have eget := fun w' (k : Kpt Non wr w') => V.get (HV.out.non k) ⟨hj1, hlt⟩
      generalize hXj : X j = xo at hlk hchk eget
      have hck : chkT (xo.getD zeroT) = 0 := by
        cases xo with
        | none => exact chk_zero
        | some t => exact hchk t rfl
      have hval : ∀ t, xo = some t → valX xo = strB (encT t) := fun t ht => by rw [ht]; rfl
      have hget : ∀ t, xo = some t → xo.getD zeroT = t := fun t ht => by rw [ht]; rfl
      obtain ⟨x, hx⟩ : ∃ x, xo.getD zeroT = x := ⟨_, rfl⟩
      obtain ⟨is, his⟩ : ∃ is, xo.isSome = is := ⟨_, rfl⟩
      obtain ⟨sv, hsv⟩ : ∃ sv, valX xo = sv := ⟨_, rfl⟩
      rw [hx, his] at hlk
      rw [hx] at hck
      rw [hsv, his] at eget
      have hl0 := (hlk wr (Kpt.refl _ _)).1
      have hsame : is = true → sv = strB (encT x) := fun h => by
        rw [h] at his
        obtain ⟨t, ht⟩ := Option.isSome_iff_exists.1 his
        rw [← hsv, hval t ht, ← hx, hget t ht]
      have HG := Lib.hid eget; have HL := Lib.hid hlk; have HS := Lib.hid hsame; have HCk := Lib.hid hck
      have e38 := fun w' v D (hv : TmV w' D x v) => f38_any x v D w' hv (tmOk_chk hck) (by have := valid_size (chkT_ok hck).2.1; omega)
      rw [hck, if_pos rfl] at e38
      have E38 := Lib.hid e38
      have E49 := Lib.hid (f49_any j)
      clear hXj hchk hck hval hget hx his hsv eget hlk hsame e38
      go_wp2_with fail
      refine (E49.out _).mono ?_
      rintro e w4 ⟨rfl, k4⟩
      have K4 := Lib.hid (Kpt.trans (Kpt.alloc (Kpt.refl Non wr) (.cells #[.int .i64 x.epoch, .string x.session, .slice Ax x.typed.length cx, .string x.screen] 44)) k4 (fun _ e _ => e))
      have hb7 := (Blk.new wr 44 #[.int .i64 x.epoch, .string x.session, .slice Ax x.typed.length cx, .string x.screen]).kpt k4 (fun e => e)
      have HB7 := Lib.hid hb7; clear hb7 k4 hl0
      go_wp2_with fail
      refine (HG.out _ K4.out).mono ?_
      rintro e w5 ⟨rfl, hv5, k5⟩
      have hmlt := HM.out.lt
      have hb7 := HB7.out.kpt k5 (fun e => by have e1 := e.2; have := HTop.out; have := HMb.out; omega)
      have p0 := hb7.cell 0
      have p1 := hb7.cell 1
      have p2 := hb7.cell 2
      have p3 := hb7.cell 3
      simp only [List.getElem?_toArray, List.getElem?_cons_zero, List.getElem?_cons_succ] at p0 p1 p2 p3
      have htx := (HL.out _ K4.out).2.2.kpt k5 (fun i h e => by have e1 := e.2; have h1 : w2.heap.size ≤ i := h; have := HTop.out; omega)
      have hm5 := (HM.out.kpt K4.out (fun _ e => e.elim) HMb.out).kpt k5 (fun i e => by have e1 := e.2; have := HTop.out; omega) HMb.out
      have HV5 := Lib.hid hv5; have HM5 := Lib.hid hm5; have HTx := Lib.hid htx; clear hb7 hv5 hm5 htx k5 hmlt
      go_wp2_with fail
      refine (E38.out _ _ _ HTx.out).mono ?_
      rintro e w6 ⟨rfl, k6⟩
      have hv6 := HV5.out.non k6
      have hm6 := HM5.out.kpt k6 (fun _ e => e.elim) HMb.out
      have HV6 := Lib.hid hv6; have HM6 := Lib.hid hm6; clear hv6 hm6 k6 p0 p1 p2 p3 HG HL
      cases is with
      | true =>
        obtain rfl := HS.out rfl
        go_wp2_with fail
        exact ⟨⟨j + 1, rfl, rfl, by omega, by omega, HV6, HM6⟩, by simp [intOf]; omega⟩
      | false =>
        go_wp2_with fail
        exact ⟨⟨j + 1, rfl, rfl, by omega, by omega, HV6, HM6⟩, by simp [intOf]; omega⟩
    · go_wp2_with fail
      go_ret
      exact ⟨rfl, Kpt.trans K1.out HV.out.kpt (fun _ e _ => e)⟩
end Go.Proofs.YtkpmabknjdgkmaaGreatDoor

namespace Go.Proofs.YtkpmabknjdgkmaaGreatDoor
open Go.RowKit

theorem f45_self' (a : Tm) (va vb : Value) (D E : Nat → Prop) (w : World) (ha : TmV w D a va) (hb : TmV w E a vb) (hl : a.typed.length ≤ 1048576) :
    Calls Tryz.prog 32 #[va, vb] w fun e w' => e = .returned (.bool true) ∧ Kpt Non w w' := by
  have := f45_any a a va vb D E w ha hb hl
  simpa using this

set_option maxRecDepth 100000 in
set_option maxHeartbeats 4000000 in
theorem f13_any (A : Option Addr) (n cn : Nat) (ops : List Opn) (number epoch : Int) (w : World) (hr : Rd w (fun i => i < w.heap.size) 5 A n (ops.flatMap Opn.cells)) (hok : ∀ o ∈ ops, OpnOk o) :
    Calls Tryz.prog 8 #[.slice A n cn, .int .i64 number, .int .i64 epoch] w fun e w' => e = .returned (.bool true) ∧ Kpt Non w w' := by
  have HR := Lib.hid hr; have HOk := Lib.hid hok; clear hr hok
  go_enter Tryz.func8, Tryz.ntmps8
  go_wp2_with fail
  refine (f24_any _).mono ?_
  rintro e w1 ⟨rfl, k1⟩
  have K1 := Lib.hid k1; clear k1
  go_wp2_with fail
  refine (f26_any _).mono ?_
  rintro e w2 ⟨rfl, rfl⟩
  go_wp2_with fail
  refine (V.new w1).mono ?_
  rintro e w2 ⟨b, rfl, hv⟩
  have hr2 := HR.out.kpt (Kpt.trans K1.out hv.kpt (fun _ e _ => e)) (fun _ _ e => e)
  obtain ⟨top, htop⟩ : ∃ top, w2.heap.size = top := ⟨_, rfl⟩
  rw [htop] at hv
  have hs1 := K1.out.size
  have E47 := Lib.hid (f47_any hv (by omega) A n cn ops (hr2.more (fun i h => by omega)) HOk.out)
  have HTop := Lib.hid htop
  clear hv hr2 htop
  go_wp2_with fail
  refine E47.out.mono ?_
  rintro e w3 ⟨mb, X, c, rfl, hv3, hc30, hmb, hM3, k3⟩
  obtain ⟨t, err, hq⟩ : ∃ t err, getR X number epoch = (t, err) := ⟨_, _, rfl⟩
  have E30 := Lib.hid (hv3.getTm hq)
  have HV3 := Lib.hid hv3; have HM3 := Lib.hid hM3; have HMb := Lib.hid hmb; have HQ := Lib.hid hq; clear hv3 hM3 k3 hmb E47 hq
  go_wp2_with fail
  refine E30.out.mono ?_
  rintro e w4 ⟨At, ct, rfl, hca, hcb, hrd, hv4, k4⟩
  have hm4 := HM3.out.kpt k4 (fun i e => by have e1 := e.2; have := HTop.out; omega) HMb.out
  have htv : TmV w4 (fun i => w3.heap.size ≤ i) t (.agg #[.int .i64 t.epoch, .string t.session, .slice At t.typed.length ct, .string t.screen]) := ⟨At, ct, rfl, hca, hcb, hrd⟩
  have HV4 := Lib.hid hv4; have HM4 := Lib.hid hm4; have HTv := Lib.hid htv; clear hv4 hm4 htv k4 E30 hca hcb hrd
  have K4 := Lib.hid (Kpt.trans K1.out HV4.out.kpt (fun _ e _ => e))
  have hbw := Blk.new w4 36 #[.int .i64 t.epoch, .string t.session, .slice At t.typed.length ct, .string t.screen]
  by_cases hn : (1 ≤ number ∧ number ≤ 99) ∧ (0 ≤ epoch ∧ epoch ≤ 1073741824)
  · obtain ⟨⟨n1, n2⟩, n3, n4⟩ := hn
    have n1' : ¬ number < 1 := by omega
    have n2' : ¬ 99 < number := by omega
    have n3' : ¬ epoch < 0 := by omega
    have n4' : ¬ 1073741824 < epoch := by omega
    obtain ⟨Ax, cx, hlk⟩ := HM4.out.look_all ⟨n1, n2⟩
    have hq : t = inRef ((X number).getD zeroT) epoch ∧ err = 0 := by
      have := HQ.out
      unfold getR at this
      rw [if_pos ⟨⟨n1, n2⟩, n3, n4⟩, inT_ref] at this
      simp only [Prod.mk.injEq] at this
      exact ⟨this.1.symm, this.2.symm⟩
    have hchk : chkT ((X number).getD zeroT) = 0 := by
      cases hX : X number with
      | none => exact chk_zero
      | some y => exact HV4.out.chk ⟨n1, n2⟩ hX
    generalize (X number).getD zeroT = x at hlk hq hchk
    obtain ⟨hq1, rfl⟩ := hq
    have hsz := inRef_sizes (epoch := epoch) hchk
    rw [← hq1] at hsz
    have HS := Lib.hid (fun w' (kk : Kpt Non (w4.alloc (.cells #[.int .i64 t.epoch, .string t.session, .slice At t.typed.length ct, .string t.screen] 36)) w') => by
      have k' : Kpt Non w4 w' := Kpt.trans (Kpt.alloc (Kpt.refl _ _) _) kk (fun _ e _ => e)
      have hb := hbw.kpt kk (fun e => e)
      exact (show (w'.cell? ⟨w4.heap.size, 0, none⟩ = some (.int .i64 t.epoch) ∧ w'.cell? ⟨w4.heap.size, 1, none⟩ = some (.string t.session) ∧ w'.cell? ⟨w4.heap.size, 2, none⟩ = some (.slice At t.typed.length ct) ∧ w'.cell? ⟨w4.heap.size, 3, none⟩ = some (.string t.screen) ∧ (Instr.lookup 61 (.map (some mb)) (.int .i64 number) false).run Tryz.prog w' = .ok (.agg #[.int .i64 x.epoch, .string x.session, .slice Ax x.typed.length cx, .string x.screen]) w') ∧ TmV w' (fun i => w3.heap.size ≤ i) t (.agg #[.int .i64 t.epoch, .string t.session, .slice At t.typed.length ct, .string t.screen]) ∧ TmV w' (fun i => w2.heap.size ≤ i) x (.agg #[.int .i64 x.epoch, .string x.session, .slice Ax x.typed.length cx, .string x.screen]) from
        ⟨⟨hb.cell 0, hb.cell 1, hb.cell 2, hb.cell 3, (hlk w' k').2.1⟩, HTv.out.kpt k' (fun _ _ e => e), (hlk w' k').2.2⟩))
    have E44 := Lib.hid (fun v D w' (ha : TmV w' D t v) => f44_any t v D w' ha (by omega))
    have e72 := fun v D w' (ha : TmV w' D x v) => f72_any x epoch v D w' ha
    rw [← hq1] at e72
    have E72 := Lib.hid e72
    have E43 := Lib.hid (fun va vb D E w' (ha : TmV w' D t va) (hb : TmV w' E t vb) => f43_self t va vb D E w' ha hb (by omega))
    have hfld : ∀ w, (Instr.field 44 (.agg #[.int .i64 x.epoch, .string x.session, .slice Ax x.typed.length cx, .string x.screen]) 0).run Tryz.prog w = .ok (.int .i64 x.epoch) w := fun w => by kernel_rfl
    clear hbw hlk e72
    by_cases he : x.epoch = epoch
    · have he' : (x.epoch == epoch) = true := by rw [beq_iff_eq]; exact he
      have HE := Lib.hid he; clear he hq1 hchk
      go_upto_region 10 with fail
      refine wp_region_noPanic ?_
      refine wp_region_held_drew (S := (fun w' => w'.cell? ⟨w4.heap.size, 0, none⟩ = some (.int .i64 t.epoch) ∧ w'.cell? ⟨w4.heap.size, 1, none⟩ = some (.string t.session) ∧ w'.cell? ⟨w4.heap.size, 2, none⟩ = some (.slice At t.typed.length ct) ∧ w'.cell? ⟨w4.heap.size, 3, none⟩ = some (.string t.screen) ∧ (Instr.lookup 61 (.map (some mb)) (.int .i64 number) false).run Tryz.prog w' = .ok (.agg #[.int .i64 x.epoch, .string x.session, .slice Ax x.typed.length cx, .string x.screen]) w')) (by kernel_rfl) ?_ (fun hHeld => ?_)
      · (try dsimp only); (refine (HS.out _ ?_).1; ((repeat (first | with_reducible exact Kpt.refl _ _ | with_reducible apply Kpt.alloc | with_reducible apply Kpt.drew | with_reducible apply Kpt.drewN | (refine Kpt.trans (S' := Non) ?_ (by first | assumption | (apply Lib.Hid.out; assumption)) (fun _ e _ => e)))); done))
      refine wpAnyH_take (i := 0) (v := ?v0a) (by first | (simp only [List.getElem?_toArray, List.getElem?_cons_zero]; done) | (simp only [List.getElem?_toArray, List.getElem?_cons_zero]; rfl)) (by kernel_rfl) (by kernel_rfl) (by kernel_rfl) (fun _ _ _ h => h) (Or.inl ⟨by rfl, ?y0a⟩) (by assumption) ?r0a
      case y0a => (intro w hSw; (try dsimp only at hSw); go_simp; try (with_reducible rfl))
      (try simp only [Act.put, List.setIfInBounds_toArray, List.set_cons_zero, List.set_cons_succ])
      refine wpAnyH_take (i := 1) (v := ?v1a) (by first | (simp only [List.getElem?_toArray, List.getElem?_cons_succ, List.getElem?_cons_zero]; done) | (simp only [List.getElem?_toArray, List.getElem?_cons_succ, List.getElem?_cons_zero]; rfl)) (by kernel_rfl) (by kernel_rfl) (by kernel_rfl) (fun _ _ _ h => h) (Or.inl ⟨by rfl, ?y1a⟩) (by assumption) ?r1a
      case y1a => (intro w hSw; (try dsimp only at hSw); go_simp; try (with_reducible rfl))
      (try simp only [Act.put, List.setIfInBounds_toArray, List.set_cons_zero, List.set_cons_succ])
      refine wpAnyH_take (i := 2) (v := ?v2a) (by first | (simp only [List.getElem?_toArray, List.getElem?_cons_succ, List.getElem?_cons_zero]; done) | (simp only [List.getElem?_toArray, List.getElem?_cons_succ, List.getElem?_cons_zero]; rfl)) (by kernel_rfl) (by kernel_rfl) (by kernel_rfl) (fun _ _ _ h => h) (Or.inl ⟨by rfl, ?y2a⟩) (by assumption) ?r2a
      case y2a => (intro w hSw; (try dsimp only at hSw); go_simp; try (with_reducible rfl))
      (try simp only [Act.put, List.setIfInBounds_toArray, List.set_cons_zero, List.set_cons_succ])
      refine wpAnyH_take (i := 3) (v := ?v3a) (by first | (simp only [List.getElem?_toArray, List.getElem?_cons_succ, List.getElem?_cons_zero]; done) | (simp only [List.getElem?_toArray, List.getElem?_cons_succ, List.getElem?_cons_zero]; rfl)) (by kernel_rfl) (by kernel_rfl) (by kernel_rfl) (fun _ _ _ h => h) (Or.inl ⟨by rfl, ?y3a⟩) (by assumption) ?r3a
      case y3a => (intro w hSw; (try dsimp only at hSw); go_simp; try (with_reducible rfl))
      (try simp only [Act.put, List.setIfInBounds_toArray, List.set_cons_zero, List.set_cons_succ])
      refine wpAnyH_take (i := 5) (v := ?v5a) (by first | (simp only [List.getElem?_toArray, List.getElem?_cons_succ, List.getElem?_cons_zero]; done) | (simp only [List.getElem?_toArray, List.getElem?_cons_succ, List.getElem?_cons_zero]; rfl)) (by kernel_rfl) (by kernel_rfl) (by kernel_rfl) (fun _ _ _ h => h) (Or.inl ⟨by rfl, ?y5a⟩) (by assumption) ?r5a
      case y5a => (intro w hSw; (try dsimp only at hSw); go_simp; try (with_reducible rfl))
      (try simp only [Act.put, List.setIfInBounds_toArray, List.set_cons_zero, List.set_cons_succ])
      refine wpAnyH_take (i := 6) (v := ?v6a) (by first | (simp only [List.getElem?_toArray, List.getElem?_cons_succ, List.getElem?_cons_zero]; done) | (simp only [List.getElem?_toArray, List.getElem?_cons_succ, List.getElem?_cons_zero]; rfl)) (by kernel_rfl) (by kernel_rfl) (by kernel_rfl) (fun _ _ _ h => h) (Or.inl ⟨by rfl, ?y6a⟩) (by assumption) ?r6a
      case y6a => (intro w hSw; (try dsimp only at hSw); go_simp; try (with_reducible rfl))
      (try simp only [Act.put, List.setIfInBounds_toArray, List.set_cons_zero, List.set_cons_succ])
      refine wpAnyH_take (i := 7) (v := ?v7a) (by first | (simp only [List.getElem?_toArray, List.getElem?_cons_succ, List.getElem?_cons_zero]; done) | (simp only [List.getElem?_toArray, List.getElem?_cons_succ, List.getElem?_cons_zero]; rfl)) (by kernel_rfl) (by kernel_rfl) (by kernel_rfl) (fun _ _ _ h => h) (Or.inl ⟨by rfl, ?y7a⟩) (by assumption) ?r7a
      case y7a => (intro w hSw; (try dsimp only at hSw); go_simp; try (with_reducible rfl))
      (try simp only [Act.put, List.setIfInBounds_toArray, List.set_cons_zero, List.set_cons_succ])
      refine wpAnyH_take (i := 8) (v := ?v8a) (by first | (simp only [List.getElem?_toArray, List.getElem?_cons_succ, List.getElem?_cons_zero]; done) | (simp only [List.getElem?_toArray, List.getElem?_cons_succ, List.getElem?_cons_zero]; rfl)) (by kernel_rfl) (by kernel_rfl) (by kernel_rfl) (fun _ _ _ h => h) (Or.inl ⟨by rfl, ?y8a⟩) (by assumption) ?r8a
      case y8a => (intro w hSw; (try dsimp only at hSw); go_simp; try (with_reducible rfl))
      (try simp only [Act.put, List.setIfInBounds_toArray, List.set_cons_zero, List.set_cons_succ])
      refine wpAnyH_ready (rs := [4]) (by kernel_rfl) (by simp) ?_
      refine AllReadyH.cons (i := 4) (by first | (simp only [List.getElem?_toArray, List.getElem?_cons_succ, List.getElem?_cons_zero]; done) | (simp only [List.getElem?_toArray, List.getElem?_cons_succ, List.getElem?_cons_zero]; rfl)) (fun K hK => ?_) AllReadyH.nil
      go_simp
      (go_at_call 31; ((with_reducible refine (E44.out _ _ _ (HS.out _ (by ((repeat (first | with_reducible exact Kpt.refl _ _ | with_reducible apply Kpt.alloc | with_reducible apply Kpt.drew | with_reducible apply Kpt.drewN | (refine Kpt.trans (S' := Non) ?_ (by first | assumption | (apply Lib.Hid.out; assumption)) (fun _ e _ => e)))); done))).2.1).mono ?_); rintro e wq ⟨v44, rfl, h44, k44⟩))
      refine hK.out _ _ ?_ (fun hHeld => ?_)
      · (try dsimp only); (refine (HS.out _ ?_).1; ((repeat (first | with_reducible exact Kpt.refl _ _ | with_reducible apply Kpt.alloc | with_reducible apply Kpt.drew | with_reducible apply Kpt.drewN | (refine Kpt.trans (S' := Non) ?_ (by first | assumption | (apply Lib.Hid.out; assumption)) (fun _ e _ => e)))); done))
      clear hK K
      (try simp only [Act.put, List.setIfInBounds_toArray, List.set_cons_zero, List.set_cons_succ])
      refine wpAnyH_ready (rs := [9]) (by kernel_rfl) (by simp) ?_
      refine AllReadyH.cons (i := 9) (by first | (simp only [List.getElem?_toArray, List.getElem?_cons_succ, List.getElem?_cons_zero]; done) | (simp only [List.getElem?_toArray, List.getElem?_cons_succ, List.getElem?_cons_zero]; rfl)) (fun K hK => ?_) AllReadyH.nil
      go_simp
      (go_at_call 37; ((with_reducible refine (E72.out _ _ _ (HS.out _ (by ((repeat (first | with_reducible exact Kpt.refl _ _ | with_reducible apply Kpt.alloc | with_reducible apply Kpt.drew | with_reducible apply Kpt.drewN | (refine Kpt.trans (S' := Non) ?_ (by first | assumption | (apply Lib.Hid.out; assumption)) (fun _ e _ => e)))); done))).2.2).mono ?_); rintro e wq ⟨v72, rfl, h72, k72⟩))
      refine hK.out _ _ ?_ (fun hHeld => ?_)
      · (try dsimp only); (refine (HS.out _ ?_).1; ((repeat (first | with_reducible exact Kpt.refl _ _ | with_reducible apply Kpt.alloc | with_reducible apply Kpt.drew | with_reducible apply Kpt.drewN | (refine Kpt.trans (S' := Non) ?_ (by first | assumption | (apply Lib.Hid.out; assumption)) (fun _ e _ => e)))); done))
      clear hK K
      (try simp only [Act.put, List.setIfInBounds_toArray, List.set_cons_zero, List.set_cons_succ])
      refine wpAnyH_ready (rs := [10]) (by kernel_rfl) (by simp) ?_
      refine AllReadyH.cons (i := 10) (by first | (simp only [List.getElem?_toArray, List.getElem?_cons_succ, List.getElem?_cons_zero]; done) | (simp only [List.getElem?_toArray, List.getElem?_cons_succ, List.getElem?_cons_zero]; rfl)) (fun K hK => ?_) AllReadyH.nil
      go_simp
      (go_at_call 30; ((with_reducible refine (E43.out _ _ _ _ _ (TmV.kpt (S := Non) (by assumption) (by assumption) (fun _ _ e => e)) (by assumption)).mono ?_); rintro e wq ⟨rfl, k43⟩))
      refine hK.out _ _ ?_ (fun hHeld => ?_)
      · (try dsimp only); (refine (HS.out _ ?_).1; ((repeat (first | with_reducible exact Kpt.refl _ _ | with_reducible apply Kpt.alloc | with_reducible apply Kpt.drew | with_reducible apply Kpt.drewN | (refine Kpt.trans (S' := Non) ?_ (by first | assumption | (apply Lib.Hid.out; assumption)) (fun _ e _ => e)))); done))
      clear hK K
      (try simp only [Act.put, List.setIfInBounds_toArray, List.set_cons_zero, List.set_cons_succ])
      refine wpAnyH_take (i := 11) (v := ?v11a) (by first | (simp only [List.getElem?_toArray, List.getElem?_cons_succ, List.getElem?_cons_zero]; done) | (simp only [List.getElem?_toArray, List.getElem?_cons_succ, List.getElem?_cons_zero]; rfl)) (by kernel_rfl) (by kernel_rfl) (by kernel_rfl) (fun _ _ _ h => h) (Or.inl ⟨by rfl, ?y11a⟩) (by assumption) ?r11a
      case y11a => (intro w hSw; (try dsimp only at hSw); go_simp; try (with_reducible rfl))
      (try simp only [Act.put, List.setIfInBounds_toArray, List.set_cons_zero, List.set_cons_succ])
      refine wpAnyH_take (i := 12) (v := ?v12a) (by first | (simp only [List.getElem?_toArray, List.getElem?_cons_succ, List.getElem?_cons_zero]; done) | (simp only [List.getElem?_toArray, List.getElem?_cons_succ, List.getElem?_cons_zero]; rfl)) (by kernel_rfl) (by kernel_rfl) (by kernel_rfl) (fun _ _ _ h => h) (Or.inl ⟨by rfl, ?y12a⟩) (by assumption) ?r12a
      case y12a => (intro w hSw; (try dsimp only at hSw); go_simp; try (with_reducible rfl))
      (try simp only [Act.put, List.setIfInBounds_toArray, List.set_cons_zero, List.set_cons_succ])
      refine wpAnyH_take (i := 13) (v := ?v13a) (by first | (simp only [List.getElem?_toArray, List.getElem?_cons_succ, List.getElem?_cons_zero]; done) | (simp only [List.getElem?_toArray, List.getElem?_cons_succ, List.getElem?_cons_zero]; rfl)) (by kernel_rfl) (by kernel_rfl) (by kernel_rfl) (fun _ _ _ h => h) (Or.inl ⟨by rfl, ?y13a⟩) (by assumption) ?r13a
      case y13a => (intro w hSw; (try dsimp only at hSw); go_simp; try (with_reducible rfl))
      (try simp only [Act.put, List.setIfInBounds_toArray, List.set_cons_zero, List.set_cons_succ])
      refine wpAnyH_take (i := 14) (v := ?v14a) (by first | (simp only [List.getElem?_toArray, List.getElem?_cons_succ, List.getElem?_cons_zero]; done) | (simp only [List.getElem?_toArray, List.getElem?_cons_succ, List.getElem?_cons_zero]; rfl)) (by kernel_rfl) (by kernel_rfl) (by kernel_rfl) (fun _ _ _ h => h) (Or.inl ⟨by rfl, ?y14a⟩) (by assumption) ?r14a
      case y14a => (intro w hSw; (try dsimp only at hSw); go_simp; try (with_reducible rfl))
      (try simp only [Act.put, List.setIfInBounds_toArray, List.set_cons_zero, List.set_cons_succ])
      refine wpAnyH_take (i := 15) (v := ?v15a) (by first | (simp only [List.getElem?_toArray, List.getElem?_cons_succ, List.getElem?_cons_zero]; done) | (simp only [List.getElem?_toArray, List.getElem?_cons_succ, List.getElem?_cons_zero]; rfl)) (by kernel_rfl) (by kernel_rfl) (by kernel_rfl) (fun _ _ _ h => h) (Or.inl ⟨by rfl, ?y15a⟩) (by assumption) ?r15a
      case y15a => (intro w hSw; (try dsimp only at hSw); go_simp; try (with_reducible rfl))
      (try simp only [Act.put, List.setIfInBounds_toArray, List.set_cons_zero, List.set_cons_succ])
      refine wpAnyH_take (i := 16) (v := ?v16a) (by first | (simp only [List.getElem?_toArray, List.getElem?_cons_succ, List.getElem?_cons_zero]; done) | (simp only [List.getElem?_toArray, List.getElem?_cons_succ, List.getElem?_cons_zero]; rfl)) (by kernel_rfl) (by kernel_rfl) (by kernel_rfl) (fun _ _ _ h => h) (Or.inl ⟨by rfl, ?y16a⟩) (by assumption) ?r16a
      case y16a => (intro w hSw; (try dsimp only at hSw); go_simp; try (with_reducible rfl))
      (try simp only [Act.put, List.setIfInBounds_toArray, List.set_cons_zero, List.set_cons_succ])
      refine wpAnyH_take (i := 17) (v := ?v17a) (by first | (simp only [List.getElem?_toArray, List.getElem?_cons_succ, List.getElem?_cons_zero]; done) | (simp only [List.getElem?_toArray, List.getElem?_cons_succ, List.getElem?_cons_zero]; rfl)) (by kernel_rfl) (by kernel_rfl) (by kernel_rfl) (fun _ _ _ h => h) (Or.inl ⟨by rfl, ?y17a⟩) (by assumption) ?r17a
      case y17a => (intro w hSw; (try dsimp only at hSw); go_simp; try (with_reducible rfl))
      (try simp only [Act.put, List.setIfInBounds_toArray, List.set_cons_zero, List.set_cons_succ])
      refine wpAnyH_take (i := 18) (v := ?v18a) (by first | (simp only [List.getElem?_toArray, List.getElem?_cons_succ, List.getElem?_cons_zero]; done) | (simp only [List.getElem?_toArray, List.getElem?_cons_succ, List.getElem?_cons_zero]; rfl)) (by kernel_rfl) (by kernel_rfl) (by kernel_rfl) (fun _ _ _ h => h) (Or.inl ⟨by rfl, ?y18a⟩) (by assumption) ?r18a
      case y18a => (intro w hSw; (try dsimp only at hSw); go_simp; try (with_reducible rfl))
      (try simp only [Act.put, List.setIfInBounds_toArray, List.set_cons_zero, List.set_cons_succ])
      refine wpAnyH_take (i := 19) (v := ?v19a) (by first | (simp only [List.getElem?_toArray, List.getElem?_cons_succ, List.getElem?_cons_zero]; done) | (simp only [List.getElem?_toArray, List.getElem?_cons_succ, List.getElem?_cons_zero]; rfl)) (by kernel_rfl) (by kernel_rfl) (by kernel_rfl) (fun _ _ _ h => h) (Or.inl ⟨by rfl, ?y19a⟩) (by assumption) ?r19a
      case y19a => (intro w hSw; (try dsimp only at hSw); go_simp; try (with_reducible rfl))
      (try simp only [Act.put, List.setIfInBounds_toArray, List.set_cons_zero, List.set_cons_succ])
      refine wpAnyH_take (i := 20) (by first | (simp only [List.getElem?_toArray, List.getElem?_cons_succ, List.getElem?_cons_zero]; done) | (simp only [List.getElem?_toArray, List.getElem?_cons_succ, List.getElem?_cons_zero]; rfl)) (by kernel_rfl) (by kernel_rfl) (by kernel_rfl) (fun _ _ _ h => h) (Or.inr ⟨by rfl, rfl⟩) (by assumption) ?_
      (try simp only [Act.put, List.setIfInBounds_toArray, List.set_cons_zero, List.set_cons_succ])
      refine wpAnyH_take (i := 21) (by first | (simp only [List.getElem?_toArray, List.getElem?_cons_succ, List.getElem?_cons_zero]; done) | (simp only [List.getElem?_toArray, List.getElem?_cons_succ, List.getElem?_cons_zero]; rfl)) (by kernel_rfl) (by kernel_rfl) (by kernel_rfl) (fun _ _ _ h => h) (Or.inr ⟨by rfl, rfl⟩) (by assumption) ?_
      (try simp only [Act.put, List.setIfInBounds_toArray, List.set_cons_zero, List.set_cons_succ])
      refine wpAnyH_take (i := 22) (by first | (simp only [List.getElem?_toArray, List.getElem?_cons_succ, List.getElem?_cons_zero]; done) | (simp only [List.getElem?_toArray, List.getElem?_cons_succ, List.getElem?_cons_zero]; rfl)) (by kernel_rfl) (by kernel_rfl) (by kernel_rfl) (fun _ _ _ h => h) (Or.inr ⟨by rfl, rfl⟩) (by assumption) ?_
      (try simp only [Act.put, List.setIfInBounds_toArray, List.set_cons_zero, List.set_cons_succ])
      refine wpAnyH_take (i := 23) (by first | (simp only [List.getElem?_toArray, List.getElem?_cons_succ, List.getElem?_cons_zero]; done) | (simp only [List.getElem?_toArray, List.getElem?_cons_succ, List.getElem?_cons_zero]; rfl)) (by kernel_rfl) (by kernel_rfl) (by kernel_rfl) (fun _ _ _ h => h) (Or.inr ⟨by rfl, rfl⟩) (by assumption) ?_
      (try simp only [Act.put, List.setIfInBounds_toArray, List.set_cons_zero, List.set_cons_succ])
      refine wpAnyH_take (i := 24) (by first | (simp only [List.getElem?_toArray, List.getElem?_cons_succ, List.getElem?_cons_zero]; done) | (simp only [List.getElem?_toArray, List.getElem?_cons_succ, List.getElem?_cons_zero]; rfl)) (by kernel_rfl) (by kernel_rfl) (by kernel_rfl) (fun _ _ _ h => h) (Or.inr ⟨by rfl, rfl⟩) (by assumption) ?_
      (try simp only [Act.put, List.setIfInBounds_toArray, List.set_cons_zero, List.set_cons_succ])
      refine wpAnyH_take (i := 25) (by first | (simp only [List.getElem?_toArray, List.getElem?_cons_succ, List.getElem?_cons_zero]; done) | (simp only [List.getElem?_toArray, List.getElem?_cons_succ, List.getElem?_cons_zero]; rfl)) (by kernel_rfl) (by kernel_rfl) (by kernel_rfl) (fun _ _ _ h => h) (Or.inr ⟨by rfl, rfl⟩) (by assumption) ?_
      (try simp only [Act.put, List.setIfInBounds_toArray, List.set_cons_zero, List.set_cons_succ])
      refine wpAnyH_take (i := 26) (by first | (simp only [List.getElem?_toArray, List.getElem?_cons_succ, List.getElem?_cons_zero]; done) | (simp only [List.getElem?_toArray, List.getElem?_cons_succ, List.getElem?_cons_zero]; rfl)) (by kernel_rfl) (by kernel_rfl) (by kernel_rfl) (fun _ _ _ h => h) (Or.inr ⟨by rfl, rfl⟩) (by assumption) ?_
      (try simp only [Act.put, List.setIfInBounds_toArray, List.set_cons_zero, List.set_cons_succ])
      refine wpAnyH_take (i := 27) (by first | (simp only [List.getElem?_toArray, List.getElem?_cons_succ, List.getElem?_cons_zero]; done) | (simp only [List.getElem?_toArray, List.getElem?_cons_succ, List.getElem?_cons_zero]; rfl)) (by kernel_rfl) (by kernel_rfl) (by kernel_rfl) (fun _ _ _ h => h) (Or.inr ⟨by rfl, rfl⟩) (by assumption) ?_
      (try simp only [Act.put, List.setIfInBounds_toArray, List.set_cons_zero, List.set_cons_succ])
      refine wpAnyH_take (i := 28) (by first | (simp only [List.getElem?_toArray, List.getElem?_cons_succ, List.getElem?_cons_zero]; done) | (simp only [List.getElem?_toArray, List.getElem?_cons_succ, List.getElem?_cons_zero]; rfl)) (by kernel_rfl) (by kernel_rfl) (by kernel_rfl) (fun _ _ _ h => h) (Or.inr ⟨by rfl, rfl⟩) (by assumption) ?_
      (try simp only [Act.put, List.setIfInBounds_toArray, List.set_cons_zero, List.set_cons_succ])
      refine wpAnyH_take (i := 29) (by first | (simp only [List.getElem?_toArray, List.getElem?_cons_succ, List.getElem?_cons_zero]; done) | (simp only [List.getElem?_toArray, List.getElem?_cons_succ, List.getElem?_cons_zero]; rfl)) (by kernel_rfl) (by kernel_rfl) (by kernel_rfl) (fun _ _ _ h => h) (Or.inr ⟨by rfl, rfl⟩) (by assumption) ?_
      (try simp only [Act.put, List.setIfInBounds_toArray, List.set_cons_zero, List.set_cons_succ])
      refine wpAnyH_take (i := 30) (by first | (simp only [List.getElem?_toArray, List.getElem?_cons_succ, List.getElem?_cons_zero]; done) | (simp only [List.getElem?_toArray, List.getElem?_cons_succ, List.getElem?_cons_zero]; rfl)) (by kernel_rfl) (by kernel_rfl) (by kernel_rfl) (fun _ _ _ h => h) (Or.inr ⟨by rfl, rfl⟩) (by assumption) ?_
      (try simp only [Act.put, List.setIfInBounds_toArray, List.set_cons_zero, List.set_cons_succ])
      refine wpAnyH_take (i := 31) (by first | (simp only [List.getElem?_toArray, List.getElem?_cons_succ, List.getElem?_cons_zero]; done) | (simp only [List.getElem?_toArray, List.getElem?_cons_succ, List.getElem?_cons_zero]; rfl)) (by kernel_rfl) (by kernel_rfl) (by kernel_rfl) (fun _ _ _ h => h) (Or.inr ⟨by rfl, rfl⟩) (by assumption) ?_
      (try simp only [Act.put, List.setIfInBounds_toArray, List.set_cons_zero, List.set_cons_succ])
      refine wpAnyH_take (i := 32) (by first | (simp only [List.getElem?_toArray, List.getElem?_cons_succ, List.getElem?_cons_zero]; done) | (simp only [List.getElem?_toArray, List.getElem?_cons_succ, List.getElem?_cons_zero]; rfl)) (by kernel_rfl) (by kernel_rfl) (by kernel_rfl) (fun _ _ _ h => h) (Or.inr ⟨by rfl, rfl⟩) (by assumption) ?_
      (try simp only [Act.put, List.setIfInBounds_toArray, List.set_cons_zero, List.set_cons_succ])
      refine wpAnyH_take (i := 33) (by first | (simp only [List.getElem?_toArray, List.getElem?_cons_succ, List.getElem?_cons_zero]; done) | (simp only [List.getElem?_toArray, List.getElem?_cons_succ, List.getElem?_cons_zero]; rfl)) (by kernel_rfl) (by kernel_rfl) (by kernel_rfl) (fun _ _ _ h => h) (Or.inr ⟨by rfl, rfl⟩) (by assumption) ?_
      (try simp only [Act.put, List.setIfInBounds_toArray, List.set_cons_zero, List.set_cons_succ])
      refine wpAnyH_take (i := 34) (v := ?v34a) (by first | (simp only [List.getElem?_toArray, List.getElem?_cons_succ, List.getElem?_cons_zero]; done) | (simp only [List.getElem?_toArray, List.getElem?_cons_succ, List.getElem?_cons_zero]; rfl)) (by kernel_rfl) (by kernel_rfl) (by kernel_rfl) (fun _ _ _ h => h) (Or.inl ⟨by rfl, ?y34a⟩) (by assumption) ?r34a
      case y34a => (intro w hSw; (try dsimp only at hSw); go_simp; try (with_reducible rfl))
      (try simp only [Act.put, List.setIfInBounds_toArray, List.set_cons_zero, List.set_cons_succ])
      refine wpAnyH_take (i := 35) (v := ?v35a) (by first | (simp only [List.getElem?_toArray, List.getElem?_cons_succ, List.getElem?_cons_zero]; done) | (simp only [List.getElem?_toArray, List.getElem?_cons_succ, List.getElem?_cons_zero]; rfl)) (by kernel_rfl) (by kernel_rfl) (by kernel_rfl) (fun _ _ _ h => h) (Or.inl ⟨by rfl, ?y35a⟩) (by assumption) ?r35a
      case y35a => (intro w hSw; (try dsimp only at hSw); go_simp; try (with_reducible rfl))
      (try simp only [Act.put, List.setIfInBounds_toArray, List.set_cons_zero, List.set_cons_succ])
      refine wpAnyH_take (i := 36) (v := ?v36a) (by first | (simp only [List.getElem?_toArray, List.getElem?_cons_succ, List.getElem?_cons_zero]; done) | (simp only [List.getElem?_toArray, List.getElem?_cons_succ, List.getElem?_cons_zero]; rfl)) (by kernel_rfl) (by kernel_rfl) (by kernel_rfl) (fun _ _ _ h => h) (Or.inl ⟨by rfl, ?y36a⟩) (by assumption) ?r36a
      case y36a => (intro w hSw; (try dsimp only at hSw); go_simp; try (with_reducible rfl))
      (try simp only [Act.put, List.setIfInBounds_toArray, List.set_cons_zero, List.set_cons_succ])
      refine wpAnyH_done (by kernel_rfl) ?_ _
      refine NoPanic.normal ?_
      go_wp2_with fail
      go_ret
      exact ⟨rfl, Kpt.trans (Kpt.alloc K4.out _) (show Kpt Non (w4.alloc (.cells #[.int .i64 t.epoch, .string t.session, .slice At t.typed.length ct, .string t.screen] 36)) _ by ((repeat (first | with_reducible exact Kpt.refl _ _ | with_reducible apply Kpt.alloc | with_reducible apply Kpt.drew | with_reducible apply Kpt.drewN | (refine Kpt.trans (S' := Non) ?_ (by first | assumption | (apply Lib.Hid.out; assumption)) (fun _ e _ => e)))); done)) (fun _ e _ => e)⟩
    · have he' : (x.epoch == epoch) = false := by rw [beq_eq_false_iff_ne]; exact he
      have ht : t = ⟨epoch, es, [], es⟩ := by
        rw [hq1]
        unfold inRef
        rw [if_neg he]
      have h1 : t.screen.toList.isEmpty = true := isEmpty_true (by rw [ht]; rfl)
      have h2 : t.session.toList.isEmpty = true := isEmpty_true (by rw [ht]; rfl)
      have h3 : ((t.typed.length : Int) == 0) = true := by rw [ht]; rfl
      have HE := Lib.hid he; have HT := Lib.hid ht; clear he hq1 hchk ht
      go_upto_region 10 with fail
      refine wp_region_noPanic ?_
      refine wp_region_held_drew (S := (fun w' => w'.cell? ⟨w4.heap.size, 0, none⟩ = some (.int .i64 t.epoch) ∧ w'.cell? ⟨w4.heap.size, 1, none⟩ = some (.string t.session) ∧ w'.cell? ⟨w4.heap.size, 2, none⟩ = some (.slice At t.typed.length ct) ∧ w'.cell? ⟨w4.heap.size, 3, none⟩ = some (.string t.screen) ∧ (Instr.lookup 61 (.map (some mb)) (.int .i64 number) false).run Tryz.prog w' = .ok (.agg #[.int .i64 x.epoch, .string x.session, .slice Ax x.typed.length cx, .string x.screen]) w')) (by kernel_rfl) ?_ (fun hHeld => ?_)
      · (try dsimp only); (refine (HS.out _ ?_).1; ((repeat (first | with_reducible exact Kpt.refl _ _ | with_reducible apply Kpt.alloc | with_reducible apply Kpt.drew | with_reducible apply Kpt.drewN | (refine Kpt.trans (S' := Non) ?_ (by first | assumption | (apply Lib.Hid.out; assumption)) (fun _ e _ => e)))); done))
      refine wpAnyH_take (i := 0) (v := ?v0b) (by first | (simp only [List.getElem?_toArray, List.getElem?_cons_zero]; done) | (simp only [List.getElem?_toArray, List.getElem?_cons_zero]; rfl)) (by kernel_rfl) (by kernel_rfl) (by kernel_rfl) (fun _ _ _ h => h) (Or.inl ⟨by rfl, ?y0b⟩) (by assumption) ?r0b
      case y0b => (intro w hSw; (try dsimp only at hSw); go_simp; try (with_reducible rfl))
      (try simp only [Act.put, List.setIfInBounds_toArray, List.set_cons_zero, List.set_cons_succ])
      refine wpAnyH_take (i := 1) (v := ?v1b) (by first | (simp only [List.getElem?_toArray, List.getElem?_cons_succ, List.getElem?_cons_zero]; done) | (simp only [List.getElem?_toArray, List.getElem?_cons_succ, List.getElem?_cons_zero]; rfl)) (by kernel_rfl) (by kernel_rfl) (by kernel_rfl) (fun _ _ _ h => h) (Or.inl ⟨by rfl, ?y1b⟩) (by assumption) ?r1b
      case y1b => (intro w hSw; (try dsimp only at hSw); go_simp; try (with_reducible rfl))
      (try simp only [Act.put, List.setIfInBounds_toArray, List.set_cons_zero, List.set_cons_succ])
      refine wpAnyH_take (i := 2) (v := ?v2b) (by first | (simp only [List.getElem?_toArray, List.getElem?_cons_succ, List.getElem?_cons_zero]; done) | (simp only [List.getElem?_toArray, List.getElem?_cons_succ, List.getElem?_cons_zero]; rfl)) (by kernel_rfl) (by kernel_rfl) (by kernel_rfl) (fun _ _ _ h => h) (Or.inl ⟨by rfl, ?y2b⟩) (by assumption) ?r2b
      case y2b => (intro w hSw; (try dsimp only at hSw); go_simp; try (with_reducible rfl))
      (try simp only [Act.put, List.setIfInBounds_toArray, List.set_cons_zero, List.set_cons_succ])
      refine wpAnyH_take (i := 3) (v := ?v3b) (by first | (simp only [List.getElem?_toArray, List.getElem?_cons_succ, List.getElem?_cons_zero]; done) | (simp only [List.getElem?_toArray, List.getElem?_cons_succ, List.getElem?_cons_zero]; rfl)) (by kernel_rfl) (by kernel_rfl) (by kernel_rfl) (fun _ _ _ h => h) (Or.inl ⟨by rfl, ?y3b⟩) (by assumption) ?r3b
      case y3b => (intro w hSw; (try dsimp only at hSw); go_simp; try (with_reducible rfl))
      (try simp only [Act.put, List.setIfInBounds_toArray, List.set_cons_zero, List.set_cons_succ])
      refine wpAnyH_take (i := 5) (v := ?v5b) (by first | (simp only [List.getElem?_toArray, List.getElem?_cons_succ, List.getElem?_cons_zero]; done) | (simp only [List.getElem?_toArray, List.getElem?_cons_succ, List.getElem?_cons_zero]; rfl)) (by kernel_rfl) (by kernel_rfl) (by kernel_rfl) (fun _ _ _ h => h) (Or.inl ⟨by rfl, ?y5b⟩) (by assumption) ?r5b
      case y5b => (intro w hSw; (try dsimp only at hSw); go_simp; try (with_reducible rfl))
      (try simp only [Act.put, List.setIfInBounds_toArray, List.set_cons_zero, List.set_cons_succ])
      refine wpAnyH_take (i := 6) (v := ?v6b) (by first | (simp only [List.getElem?_toArray, List.getElem?_cons_succ, List.getElem?_cons_zero]; done) | (simp only [List.getElem?_toArray, List.getElem?_cons_succ, List.getElem?_cons_zero]; rfl)) (by kernel_rfl) (by kernel_rfl) (by kernel_rfl) (fun _ _ _ h => h) (Or.inl ⟨by rfl, ?y6b⟩) (by assumption) ?r6b
      case y6b => (intro w hSw; (try dsimp only at hSw); go_simp; try (with_reducible rfl))
      (try simp only [Act.put, List.setIfInBounds_toArray, List.set_cons_zero, List.set_cons_succ])
      refine wpAnyH_take (i := 7) (v := ?v7b) (by first | (simp only [List.getElem?_toArray, List.getElem?_cons_succ, List.getElem?_cons_zero]; done) | (simp only [List.getElem?_toArray, List.getElem?_cons_succ, List.getElem?_cons_zero]; rfl)) (by kernel_rfl) (by kernel_rfl) (by kernel_rfl) (fun _ _ _ h => h) (Or.inl ⟨by rfl, ?y7b⟩) (by assumption) ?r7b
      case y7b => (intro w hSw; (try dsimp only at hSw); go_simp; try (with_reducible rfl))
      (try simp only [Act.put, List.setIfInBounds_toArray, List.set_cons_zero, List.set_cons_succ])
      refine wpAnyH_take (i := 8) (v := ?v8b) (by first | (simp only [List.getElem?_toArray, List.getElem?_cons_succ, List.getElem?_cons_zero]; done) | (simp only [List.getElem?_toArray, List.getElem?_cons_succ, List.getElem?_cons_zero]; rfl)) (by kernel_rfl) (by kernel_rfl) (by kernel_rfl) (fun _ _ _ h => h) (Or.inl ⟨by rfl, ?y8b⟩) (by assumption) ?r8b
      case y8b => (intro w hSw; (try dsimp only at hSw); go_simp; try (with_reducible rfl))
      (try simp only [Act.put, List.setIfInBounds_toArray, List.set_cons_zero, List.set_cons_succ])
      refine wpAnyH_ready (rs := [4]) (by kernel_rfl) (by simp) ?_
      refine AllReadyH.cons (i := 4) (by first | (simp only [List.getElem?_toArray, List.getElem?_cons_succ, List.getElem?_cons_zero]; done) | (simp only [List.getElem?_toArray, List.getElem?_cons_succ, List.getElem?_cons_zero]; rfl)) (fun K hK => ?_) AllReadyH.nil
      go_simp
      (go_at_call 31; ((with_reducible refine (E44.out _ _ _ (HS.out _ (by ((repeat (first | with_reducible exact Kpt.refl _ _ | with_reducible apply Kpt.alloc | with_reducible apply Kpt.drew | with_reducible apply Kpt.drewN | (refine Kpt.trans (S' := Non) ?_ (by first | assumption | (apply Lib.Hid.out; assumption)) (fun _ e _ => e)))); done))).2.1).mono ?_); rintro e wq ⟨v44, rfl, h44, k44⟩))
      refine hK.out _ _ ?_ (fun hHeld => ?_)
      · (try dsimp only); (refine (HS.out _ ?_).1; ((repeat (first | with_reducible exact Kpt.refl _ _ | with_reducible apply Kpt.alloc | with_reducible apply Kpt.drew | with_reducible apply Kpt.drewN | (refine Kpt.trans (S' := Non) ?_ (by first | assumption | (apply Lib.Hid.out; assumption)) (fun _ e _ => e)))); done))
      clear hK K
      (try simp only [Act.put, List.setIfInBounds_toArray, List.set_cons_zero, List.set_cons_succ])
      refine wpAnyH_ready (rs := [9]) (by kernel_rfl) (by simp) ?_
      refine AllReadyH.cons (i := 9) (by first | (simp only [List.getElem?_toArray, List.getElem?_cons_succ, List.getElem?_cons_zero]; done) | (simp only [List.getElem?_toArray, List.getElem?_cons_succ, List.getElem?_cons_zero]; rfl)) (fun K hK => ?_) AllReadyH.nil
      go_simp
      (go_at_call 37; ((with_reducible refine (E72.out _ _ _ (HS.out _ (by ((repeat (first | with_reducible exact Kpt.refl _ _ | with_reducible apply Kpt.alloc | with_reducible apply Kpt.drew | with_reducible apply Kpt.drewN | (refine Kpt.trans (S' := Non) ?_ (by first | assumption | (apply Lib.Hid.out; assumption)) (fun _ e _ => e)))); done))).2.2).mono ?_); rintro e wq ⟨v72, rfl, h72, k72⟩))
      refine hK.out _ _ ?_ (fun hHeld => ?_)
      · (try dsimp only); (refine (HS.out _ ?_).1; ((repeat (first | with_reducible exact Kpt.refl _ _ | with_reducible apply Kpt.alloc | with_reducible apply Kpt.drew | with_reducible apply Kpt.drewN | (refine Kpt.trans (S' := Non) ?_ (by first | assumption | (apply Lib.Hid.out; assumption)) (fun _ e _ => e)))); done))
      clear hK K
      (try simp only [Act.put, List.setIfInBounds_toArray, List.set_cons_zero, List.set_cons_succ])
      refine wpAnyH_ready (rs := [10]) (by kernel_rfl) (by simp) ?_
      refine AllReadyH.cons (i := 10) (by first | (simp only [List.getElem?_toArray, List.getElem?_cons_succ, List.getElem?_cons_zero]; done) | (simp only [List.getElem?_toArray, List.getElem?_cons_succ, List.getElem?_cons_zero]; rfl)) (fun K hK => ?_) AllReadyH.nil
      go_simp
      (go_at_call 30; ((with_reducible refine (E43.out _ _ _ _ _ (TmV.kpt (S := Non) (by assumption) (by assumption) (fun _ _ e => e)) (by assumption)).mono ?_); rintro e wq ⟨rfl, k43⟩))
      refine hK.out _ _ ?_ (fun hHeld => ?_)
      · (try dsimp only); (refine (HS.out _ ?_).1; ((repeat (first | with_reducible exact Kpt.refl _ _ | with_reducible apply Kpt.alloc | with_reducible apply Kpt.drew | with_reducible apply Kpt.drewN | (refine Kpt.trans (S' := Non) ?_ (by first | assumption | (apply Lib.Hid.out; assumption)) (fun _ e _ => e)))); done))
      clear hK K
      (try simp only [Act.put, List.setIfInBounds_toArray, List.set_cons_zero, List.set_cons_succ])
      refine wpAnyH_take (i := 11) (v := ?v11b) (by first | (simp only [List.getElem?_toArray, List.getElem?_cons_succ, List.getElem?_cons_zero]; done) | (simp only [List.getElem?_toArray, List.getElem?_cons_succ, List.getElem?_cons_zero]; rfl)) (by kernel_rfl) (by kernel_rfl) (by kernel_rfl) (fun _ _ _ h => h) (Or.inl ⟨by rfl, ?y11b⟩) (by assumption) ?r11b
      case y11b => (intro w hSw; (try dsimp only at hSw); go_simp; try (with_reducible rfl))
      (try simp only [Act.put, List.setIfInBounds_toArray, List.set_cons_zero, List.set_cons_succ])
      refine wpAnyH_take (i := 12) (v := ?v12b) (by first | (simp only [List.getElem?_toArray, List.getElem?_cons_succ, List.getElem?_cons_zero]; done) | (simp only [List.getElem?_toArray, List.getElem?_cons_succ, List.getElem?_cons_zero]; rfl)) (by kernel_rfl) (by kernel_rfl) (by kernel_rfl) (fun _ _ _ h => h) (Or.inl ⟨by rfl, ?y12b⟩) (by assumption) ?r12b
      case y12b => (intro w hSw; (try dsimp only at hSw); go_simp; try (with_reducible rfl))
      (try simp only [Act.put, List.setIfInBounds_toArray, List.set_cons_zero, List.set_cons_succ])
      refine wpAnyH_take (i := 13) (v := ?v13b) (by first | (simp only [List.getElem?_toArray, List.getElem?_cons_succ, List.getElem?_cons_zero]; done) | (simp only [List.getElem?_toArray, List.getElem?_cons_succ, List.getElem?_cons_zero]; rfl)) (by kernel_rfl) (by kernel_rfl) (by kernel_rfl) (fun _ _ _ h => h) (Or.inl ⟨by rfl, ?y13b⟩) (by assumption) ?r13b
      case y13b => (intro w hSw; (try dsimp only at hSw); go_simp; try (with_reducible rfl))
      (try simp only [Act.put, List.setIfInBounds_toArray, List.set_cons_zero, List.set_cons_succ])
      refine wpAnyH_take (i := 14) (v := ?v14b) (by first | (simp only [List.getElem?_toArray, List.getElem?_cons_succ, List.getElem?_cons_zero]; done) | (simp only [List.getElem?_toArray, List.getElem?_cons_succ, List.getElem?_cons_zero]; rfl)) (by kernel_rfl) (by kernel_rfl) (by kernel_rfl) (fun _ _ _ h => h) (Or.inl ⟨by rfl, ?y14b⟩) (by assumption) ?r14b
      case y14b => (intro w hSw; (try dsimp only at hSw); go_simp; try (with_reducible rfl))
      (try simp only [Act.put, List.setIfInBounds_toArray, List.set_cons_zero, List.set_cons_succ])
      refine wpAnyH_take (i := 15) (v := ?v15b) (by first | (simp only [List.getElem?_toArray, List.getElem?_cons_succ, List.getElem?_cons_zero]; done) | (simp only [List.getElem?_toArray, List.getElem?_cons_succ, List.getElem?_cons_zero]; rfl)) (by kernel_rfl) (by kernel_rfl) (by kernel_rfl) (fun _ _ _ h => h) (Or.inl ⟨by rfl, ?y15b⟩) (by assumption) ?r15b
      case y15b => (intro w hSw; (try dsimp only at hSw); go_simp; try (with_reducible rfl))
      (try simp only [Act.put, List.setIfInBounds_toArray, List.set_cons_zero, List.set_cons_succ])
      refine wpAnyH_take (i := 16) (v := ?v16b) (by first | (simp only [List.getElem?_toArray, List.getElem?_cons_succ, List.getElem?_cons_zero]; done) | (simp only [List.getElem?_toArray, List.getElem?_cons_succ, List.getElem?_cons_zero]; rfl)) (by kernel_rfl) (by kernel_rfl) (by kernel_rfl) (fun _ _ _ h => h) (Or.inl ⟨by rfl, ?y16b⟩) (by assumption) ?r16b
      case y16b => (intro w hSw; (try dsimp only at hSw); go_simp; try (with_reducible rfl))
      (try simp only [Act.put, List.setIfInBounds_toArray, List.set_cons_zero, List.set_cons_succ])
      refine wpAnyH_take (i := 17) (v := ?v17b) (by first | (simp only [List.getElem?_toArray, List.getElem?_cons_succ, List.getElem?_cons_zero]; done) | (simp only [List.getElem?_toArray, List.getElem?_cons_succ, List.getElem?_cons_zero]; rfl)) (by kernel_rfl) (by kernel_rfl) (by kernel_rfl) (fun _ _ _ h => h) (Or.inl ⟨by rfl, ?y17b⟩) (by assumption) ?r17b
      case y17b => (intro w hSw; (try dsimp only at hSw); go_simp; try (with_reducible rfl))
      (try simp only [Act.put, List.setIfInBounds_toArray, List.set_cons_zero, List.set_cons_succ])
      refine wpAnyH_take (i := 18) (v := ?v18b) (by first | (simp only [List.getElem?_toArray, List.getElem?_cons_succ, List.getElem?_cons_zero]; done) | (simp only [List.getElem?_toArray, List.getElem?_cons_succ, List.getElem?_cons_zero]; rfl)) (by kernel_rfl) (by kernel_rfl) (by kernel_rfl) (fun _ _ _ h => h) (Or.inl ⟨by rfl, ?y18b⟩) (by assumption) ?r18b
      case y18b => (intro w hSw; (try dsimp only at hSw); go_simp; try (with_reducible rfl))
      (try simp only [Act.put, List.setIfInBounds_toArray, List.set_cons_zero, List.set_cons_succ])
      refine wpAnyH_take (i := 19) (v := ?v19b) (by first | (simp only [List.getElem?_toArray, List.getElem?_cons_succ, List.getElem?_cons_zero]; done) | (simp only [List.getElem?_toArray, List.getElem?_cons_succ, List.getElem?_cons_zero]; rfl)) (by kernel_rfl) (by kernel_rfl) (by kernel_rfl) (fun _ _ _ h => h) (Or.inl ⟨by rfl, ?y19b⟩) (by assumption) ?r19b
      case y19b => (intro w hSw; (try dsimp only at hSw); go_simp; try (with_reducible rfl))
      (try simp only [Act.put, List.setIfInBounds_toArray, List.set_cons_zero, List.set_cons_succ])
      refine wpAnyH_take (i := 20) (v := ?v20b) (by first | (simp only [List.getElem?_toArray, List.getElem?_cons_succ, List.getElem?_cons_zero]; done) | (simp only [List.getElem?_toArray, List.getElem?_cons_succ, List.getElem?_cons_zero]; rfl)) (by kernel_rfl) (by kernel_rfl) (by kernel_rfl) (fun _ _ _ h => h) (Or.inl ⟨by rfl, ?y20b⟩) (by assumption) ?r20b
      case y20b => (intro w hSw; (try dsimp only at hSw); go_simp; try (with_reducible rfl))
      (try simp only [Act.put, List.setIfInBounds_toArray, List.set_cons_zero, List.set_cons_succ])
      refine wpAnyH_take (i := 21) (v := ?v21b) (by first | (simp only [List.getElem?_toArray, List.getElem?_cons_succ, List.getElem?_cons_zero]; done) | (simp only [List.getElem?_toArray, List.getElem?_cons_succ, List.getElem?_cons_zero]; rfl)) (by kernel_rfl) (by kernel_rfl) (by kernel_rfl) (fun _ _ _ h => h) (Or.inl ⟨by rfl, ?y21b⟩) (by assumption) ?r21b
      case y21b => (intro w hSw; (try dsimp only at hSw); go_simp; try (with_reducible rfl))
      (try simp only [Act.put, List.setIfInBounds_toArray, List.set_cons_zero, List.set_cons_succ])
      refine wpAnyH_take (i := 22) (v := ?v22b) (by first | (simp only [List.getElem?_toArray, List.getElem?_cons_succ, List.getElem?_cons_zero]; done) | (simp only [List.getElem?_toArray, List.getElem?_cons_succ, List.getElem?_cons_zero]; rfl)) (by kernel_rfl) (by kernel_rfl) (by kernel_rfl) (fun _ _ _ h => h) (Or.inl ⟨by rfl, ?y22b⟩) (by assumption) ?r22b
      case y22b => (intro w hSw; (try dsimp only at hSw); go_simp; try (with_reducible rfl))
      (try simp only [Act.put, List.setIfInBounds_toArray, List.set_cons_zero, List.set_cons_succ])
      refine wpAnyH_take (i := 23) (v := ?v23b) (by first | (simp only [List.getElem?_toArray, List.getElem?_cons_succ, List.getElem?_cons_zero]; done) | (simp only [List.getElem?_toArray, List.getElem?_cons_succ, List.getElem?_cons_zero]; rfl)) (by kernel_rfl) (by kernel_rfl) (by kernel_rfl) (fun _ _ _ h => h) (Or.inl ⟨by rfl, ?y23b⟩) (by assumption) ?r23b
      case y23b => (intro w hSw; (try dsimp only at hSw); go_simp; try (with_reducible rfl))
      (try simp only [Act.put, List.setIfInBounds_toArray, List.set_cons_zero, List.set_cons_succ])
      refine wpAnyH_take (i := 24) (v := ?v24b) (by first | (simp only [List.getElem?_toArray, List.getElem?_cons_succ, List.getElem?_cons_zero]; done) | (simp only [List.getElem?_toArray, List.getElem?_cons_succ, List.getElem?_cons_zero]; rfl)) (by kernel_rfl) (by kernel_rfl) (by kernel_rfl) (fun _ _ _ h => h) (Or.inl ⟨by rfl, ?y24b⟩) (by assumption) ?r24b
      case y24b => (intro w hSw; (try dsimp only at hSw); go_simp; try (with_reducible rfl))
      (try simp only [Act.put, List.setIfInBounds_toArray, List.set_cons_zero, List.set_cons_succ])
      refine wpAnyH_take (i := 25) (v := ?v25b) (by first | (simp only [List.getElem?_toArray, List.getElem?_cons_succ, List.getElem?_cons_zero]; done) | (simp only [List.getElem?_toArray, List.getElem?_cons_succ, List.getElem?_cons_zero]; rfl)) (by kernel_rfl) (by kernel_rfl) (by kernel_rfl) (fun _ _ _ h => h) (Or.inl ⟨by rfl, ?y25b⟩) (by assumption) ?r25b
      case y25b => (intro w hSw; (try dsimp only at hSw); go_simp; try (with_reducible rfl))
      (try simp only [Act.put, List.setIfInBounds_toArray, List.set_cons_zero, List.set_cons_succ])
      refine wpAnyH_take (i := 26) (v := ?v26b) (by first | (simp only [List.getElem?_toArray, List.getElem?_cons_succ, List.getElem?_cons_zero]; done) | (simp only [List.getElem?_toArray, List.getElem?_cons_succ, List.getElem?_cons_zero]; rfl)) (by kernel_rfl) (by kernel_rfl) (by kernel_rfl) (fun _ _ _ h => h) (Or.inl ⟨by rfl, ?y26b⟩) (by assumption) ?r26b
      case y26b => (intro w hSw; (try dsimp only at hSw); go_simp; try (with_reducible rfl))
      (try simp only [Act.put, List.setIfInBounds_toArray, List.set_cons_zero, List.set_cons_succ])
      refine wpAnyH_take (i := 27) (v := ?v27b) (by first | (simp only [List.getElem?_toArray, List.getElem?_cons_succ, List.getElem?_cons_zero]; done) | (simp only [List.getElem?_toArray, List.getElem?_cons_succ, List.getElem?_cons_zero]; rfl)) (by kernel_rfl) (by kernel_rfl) (by kernel_rfl) (fun _ _ _ h => h) (Or.inl ⟨by rfl, ?y27b⟩) (by assumption) ?r27b
      case y27b => (intro w hSw; (try dsimp only at hSw); go_simp; try (with_reducible rfl))
      (try simp only [Act.put, List.setIfInBounds_toArray, List.set_cons_zero, List.set_cons_succ])
      refine wpAnyH_take (i := 28) (v := ?v28b) (by first | (simp only [List.getElem?_toArray, List.getElem?_cons_succ, List.getElem?_cons_zero]; done) | (simp only [List.getElem?_toArray, List.getElem?_cons_succ, List.getElem?_cons_zero]; rfl)) (by kernel_rfl) (by kernel_rfl) (by kernel_rfl) (fun _ _ _ h => h) (Or.inl ⟨by rfl, ?y28b⟩) (by assumption) ?r28b
      case y28b => (intro w hSw; (try dsimp only at hSw); go_simp; try (with_reducible rfl))
      (try simp only [Act.put, List.setIfInBounds_toArray, List.set_cons_zero, List.set_cons_succ])
      refine wpAnyH_take (i := 29) (v := ?v29b) (by first | (simp only [List.getElem?_toArray, List.getElem?_cons_succ, List.getElem?_cons_zero]; done) | (simp only [List.getElem?_toArray, List.getElem?_cons_succ, List.getElem?_cons_zero]; rfl)) (by kernel_rfl) (by kernel_rfl) (by kernel_rfl) (fun _ _ _ h => h) (Or.inl ⟨by rfl, ?y29b⟩) (by assumption) ?r29b
      case y29b => (intro w hSw; (try dsimp only at hSw); go_simp; try (with_reducible rfl))
      (try simp only [Act.put, List.setIfInBounds_toArray, List.set_cons_zero, List.set_cons_succ])
      refine wpAnyH_take (i := 30) (v := ?v30b) (by first | (simp only [List.getElem?_toArray, List.getElem?_cons_succ, List.getElem?_cons_zero]; done) | (simp only [List.getElem?_toArray, List.getElem?_cons_succ, List.getElem?_cons_zero]; rfl)) (by kernel_rfl) (by kernel_rfl) (by kernel_rfl) (fun _ _ _ h => h) (Or.inl ⟨by rfl, ?y30b⟩) (by assumption) ?r30b
      case y30b => (intro w hSw; (try dsimp only at hSw); go_simp; try (with_reducible rfl))
      (try simp only [Act.put, List.setIfInBounds_toArray, List.set_cons_zero, List.set_cons_succ])
      refine wpAnyH_ready (rs := [31]) (by kernel_rfl) (by simp) ?_
      refine AllReadyH.cons (i := 31) (by first | (simp only [List.getElem?_toArray, List.getElem?_cons_succ, List.getElem?_cons_zero]; done) | (simp only [List.getElem?_toArray, List.getElem?_cons_succ, List.getElem?_cons_zero]; rfl)) (fun K hK => ?_) AllReadyH.nil
      go_simp
      skip
      refine hK.out _ _ ?_ (fun hHeld => ?_)
      · (try dsimp only); (refine (HS.out _ ?_).1; ((repeat (first | with_reducible exact Kpt.refl _ _ | with_reducible apply Kpt.alloc | with_reducible apply Kpt.drew | with_reducible apply Kpt.drewN | (refine Kpt.trans (S' := Non) ?_ (by first | assumption | (apply Lib.Hid.out; assumption)) (fun _ e _ => e)))); done))
      clear hK K
      (try simp only [Act.put, List.setIfInBounds_toArray, List.set_cons_zero, List.set_cons_succ])
      refine wpAnyH_take (i := 32) (v := ?v32b) (by first | (simp only [List.getElem?_toArray, List.getElem?_cons_succ, List.getElem?_cons_zero]; done) | (simp only [List.getElem?_toArray, List.getElem?_cons_succ, List.getElem?_cons_zero]; rfl)) (by kernel_rfl) (by kernel_rfl) (by kernel_rfl) (fun _ _ _ h => h) (Or.inl ⟨by rfl, ?y32b⟩) (by assumption) ?r32b
      case y32b => (intro w hSw; (try dsimp only at hSw); go_simp; try (with_reducible rfl))
      (try simp only [Act.put, List.setIfInBounds_toArray, List.set_cons_zero, List.set_cons_succ])
      refine wpAnyH_take (i := 33) (v := ?v33b) (by first | (simp only [List.getElem?_toArray, List.getElem?_cons_succ, List.getElem?_cons_zero]; done) | (simp only [List.getElem?_toArray, List.getElem?_cons_succ, List.getElem?_cons_zero]; rfl)) (by kernel_rfl) (by kernel_rfl) (by kernel_rfl) (fun _ _ _ h => h) (Or.inl ⟨by rfl, ?y33b⟩) (by assumption) ?r33b
      case y33b => (intro w hSw; (try dsimp only at hSw); go_simp; try (with_reducible rfl))
      (try simp only [Act.put, List.setIfInBounds_toArray, List.set_cons_zero, List.set_cons_succ])
      refine wpAnyH_take (i := 34) (v := ?v34b) (by first | (simp only [List.getElem?_toArray, List.getElem?_cons_succ, List.getElem?_cons_zero]; done) | (simp only [List.getElem?_toArray, List.getElem?_cons_succ, List.getElem?_cons_zero]; rfl)) (by kernel_rfl) (by kernel_rfl) (by kernel_rfl) (fun _ _ _ h => h) (Or.inl ⟨by rfl, ?y34b⟩) (by assumption) ?r34b
      case y34b => (intro w hSw; (try dsimp only at hSw); go_simp; try (with_reducible rfl))
      (try simp only [Act.put, List.setIfInBounds_toArray, List.set_cons_zero, List.set_cons_succ])
      refine wpAnyH_take (i := 35) (v := ?v35b) (by first | (simp only [List.getElem?_toArray, List.getElem?_cons_succ, List.getElem?_cons_zero]; done) | (simp only [List.getElem?_toArray, List.getElem?_cons_succ, List.getElem?_cons_zero]; rfl)) (by kernel_rfl) (by kernel_rfl) (by kernel_rfl) (fun _ _ _ h => h) (Or.inl ⟨by rfl, ?y35b⟩) (by assumption) ?r35b
      case y35b => (intro w hSw; (try dsimp only at hSw); go_simp; try (with_reducible rfl))
      (try simp only [Act.put, List.setIfInBounds_toArray, List.set_cons_zero, List.set_cons_succ])
      refine wpAnyH_take (i := 36) (v := ?v36b) (by first | (simp only [List.getElem?_toArray, List.getElem?_cons_succ, List.getElem?_cons_zero]; done) | (simp only [List.getElem?_toArray, List.getElem?_cons_succ, List.getElem?_cons_zero]; rfl)) (by kernel_rfl) (by kernel_rfl) (by kernel_rfl) (fun _ _ _ h => h) (Or.inl ⟨by rfl, ?y36b⟩) (by assumption) ?r36b
      case y36b => (intro w hSw; (try dsimp only at hSw); go_simp; try (with_reducible rfl))
      (try simp only [Act.put, List.setIfInBounds_toArray, List.set_cons_zero, List.set_cons_succ])
      refine wpAnyH_done (by kernel_rfl) ?_ _
      refine NoPanic.normal ?_
      go_wp2_with fail
      go_ret
      exact ⟨rfl, Kpt.trans (Kpt.alloc K4.out _) (show Kpt Non (w4.alloc (.cells #[.int .i64 t.epoch, .string t.session, .slice At t.typed.length ct, .string t.screen] 36)) _ by ((repeat (first | with_reducible exact Kpt.refl _ _ | with_reducible apply Kpt.alloc | with_reducible apply Kpt.drew | with_reducible apply Kpt.drewN | (refine Kpt.trans (S' := Non) ?_ (by first | assumption | (apply Lib.Hid.out; assumption)) (fun _ e _ => e)))); done)) (fun _ e _ => e)⟩
  · have hq := HQ.out
    unfold getR at hq
    rw [if_neg hn] at hq
    simp only [Prod.mk.injEq] at hq
    obtain ⟨rfl, rfl⟩ := hq
    have hbad : number < 1 ∨ (¬ number < 1 ∧ 99 < number) ∨ (¬ number < 1 ∧ ¬ 99 < number ∧ epoch < 0) ∨ (¬ number < 1 ∧ ¬ 99 < number ∧ ¬ epoch < 0 ∧ 1073741824 < epoch) := by omega
    clear hn HQ
    have p0 := hbw.cell 0
    have p1 := hbw.cell 1
    have p2 := hbw.cell 2
    have p3 := hbw.cell 3
    have E45 := Lib.hid (f45_self' zeroT _ (.agg #[.int .i64 0, .string ⟨#[]⟩, .slice none 0 0, .string ⟨#[]⟩]) _ (fun _ => True) (w4.alloc (.cells #[.int .i64 zeroT.epoch, .string zeroT.session, .slice At zeroT.typed.length ct, .string zeroT.screen] 36)) (HTv.out.kpt (Kpt.alloc (Kpt.refl Non w4) _) (fun _ _ e => e)) (tmv_zero _ _) (by simp [zeroT]))
    clear hbw
    rcases hbad with h | ⟨h, h'⟩ | ⟨h, h', h''⟩ | ⟨h, h', h'', h3⟩
    all_goals
      go_wp2_with fail
      refine E45.out.mono ?_
      rintro e w5 ⟨rfl, k5⟩
      go_wp2_with fail
      go_ret
      exact ⟨rfl, Kpt.trans (Kpt.alloc K4.out _) k5 (fun _ e _ => e)⟩
end Go.Proofs.YtkpmabknjdgkmaaGreatDoor
