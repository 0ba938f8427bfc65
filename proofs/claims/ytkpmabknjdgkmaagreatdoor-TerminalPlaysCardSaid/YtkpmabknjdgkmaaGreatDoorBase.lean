/- Plain facts on memory that all walks of this seat use: which blocks a call may have changed (Kpt), what a block holds (Blk), how a slice reads (Rd), what a map holds (MapIs). No condition. -/
import Derived.WalkKit
import Derived.Maps.AppendAt
import Derived.Maps.Own
import Derived.Deep.AppendLies
import Derived.Deep.Draws
import Derived.Laws.Rows
import Derived.Laws.Tables
import Derived.RangeFuncRecord
import Derived.Lib.ConvBytes
import Derived.Lib.Hide
namespace Go.Proofs.YtkpmabknjdgkmaaGreatDoor
open Go.RowKit

/-- What a call may have changed: blocks of S and what is new; all else is as it was. -/
structure Kpt (S : Nat → Prop) (w w' : World) : Prop where
  os : w'.os = w.os
  tape : w'.tape = w.tape
  output : w'.output = w.output
  size : w.heap.size ≤ w'.heap.size
  block : ∀ k, k < w.heap.size → ¬ S k → w'.heap[k]? = w.heap[k]?

abbrev Non : Nat → Prop := fun _ => False
abbrev One (b : Nat) : Nat → Prop := fun k => k = b

namespace Kpt
variable {S S' : Nat → Prop} {a w w' : World}
theorem refl (S : Nat → Prop) (w : World) : Kpt S w w := ⟨rfl, rfl, rfl, Nat.le_refl _, fun _ _ _ => rfl⟩
theorem trans (h : Kpt S a w) (k : Kpt S' w w') (hs : ∀ i, S' i → i < a.heap.size → S i) : Kpt S a w' :=
  ⟨k.os.trans h.os, k.tape.trans h.tape, k.output.trans h.output, Nat.le_trans h.size k.size, fun i hi hn =>
    (k.block i (Nat.lt_of_lt_of_le hi h.size) (fun e => hn (hs i e hi))).trans (h.block i hi hn)⟩
theorem mono (h : Kpt S a w) (hs : ∀ i, S i → S' i) : Kpt S' a w := ⟨h.os, h.tape, h.output, h.size, fun i hi hn => h.block i hi (fun e => hn (hs i e))⟩
theorem of_below (h : Below a.heap.size a w) : Kpt S a w := ⟨h.os, h.tape, h.output, h.size, fun i hi _ => h.block i hi⟩
theorem below (h : Kpt S a w) {B : Nat} (hB : B ≤ a.heap.size) (hs : ∀ i, S i → B ≤ i) : Below B a w :=
  ⟨h.os, h.tape, h.output, h.size, fun i hi => h.block i (by omega) (fun e => by have := hs i e; omega)⟩
theorem below_non (h : Kpt Non a w) : Below a.heap.size a w := h.below (Nat.le_refl _) (fun _ e => e.elim)
theorem drew (h : Kpt S a w) : Kpt S a w.drew := ⟨h.os, h.tape, h.output, h.size, h.block⟩
theorem drewN (h : Kpt S a w) (n : Nat) : Kpt S a (w.drewN n) := ⟨h.os, h.tape, h.output, h.size, h.block⟩
theorem alloc (h : Kpt S a w) (o : Obj) : Kpt S a (w.alloc o) :=
  ⟨h.os, h.tape, h.output, Nat.le_trans h.size (by simp), fun i hi hn => (Below.heap_alloc w o i (Nat.lt_of_lt_of_le hi h.size)).trans (h.block i hi hn)⟩
theorem setCell (h : Kpt S a w) {p : Addr} (hp : p.block < a.heap.size → S p.block) (u : Value) : Kpt S a (w.setCell p u) :=
  ⟨h.os, h.tape, h.output, by simpa [World.setCell] using h.size, fun i hi hn => (Below.heap_setCell w p u i (by rintro rfl; exact hn (hp hi))).trans (h.block i hi hn)⟩
theorem grown (h : Kpt S a w) {row : Option Nat} (hg : w.grownBy w' row) (hr : ∀ k, row = some k → k < a.heap.size → S k) : Kpt S a w' :=
  ⟨hg.os.trans h.os, hg.tape.trans h.tape, hg.output.trans h.output, Nat.le_trans h.size hg.size, fun i hi hn =>
    (hg.block i (Nat.lt_of_lt_of_le hi h.size) (fun e => hn (hr i e.symm hi))).trans (h.block i hi hn)⟩
theorem put (h : Kpt S a w) {b : Nat} (hp : b < a.heap.size → S b) (o : Obj) : Kpt S a (w.putObj b o) :=
  ⟨h.os, h.tape, h.output, by simpa using h.size, fun i hi hn => (World.putObj_heap_other (by rintro rfl; exact hn (hp hi))).trans (h.block i hi hn)⟩
theorem heap (h : Kpt S w w') {b : Nat} {o : Obj} (ho : w.heap[b]? = some o) (hn : ¬ S b) : w'.heap[b]? = some o :=
  (h.block b (Array.getElem?_eq_some_iff.1 ho).1 hn).trans ho
theorem cell (h : Kpt S w w') {p : Addr} (hp : p.block < w.heap.size) (hn : ¬ S p.block) : w'.cell? p = w.cell? p := World.cell?_of_block (w := w) (h.block p.block hp hn)
theorem cellv (h : Kpt S w w') {p : Addr} {v : Value} (hc : w.cell? p = some v) (hn : ¬ S p.block) : w'.cell? p = some v := (h.cell (World.block_lt_of_cell? w p hc) hn).trans hc
theorem frozen (h : Kpt S w w') {p : Addr} (hp : p.block < w.heap.size) (hn : ¬ S p.block) : w'.frozen? p = w.frozen? p := World.frozen?_of_block (w := w) (h.block p.block hp hn)
end Kpt

theorem cell_alloc_ {w : World} {a : Addr} {v : Value} (h : w.cell? a = some v) (o : Obj) : (w.alloc o).cell? a = some v :=
  (World.cell?_alloc_lt w o a (World.block_lt_of_cell? w a h)).trans h
theorem frozen_alloc_ {w : World} {a : Addr} {b : Bool} (ha : a.block < w.heap.size) (h : w.frozen? a = b) (o : Obj) : (w.alloc o).frozen? a = b :=
  (World.frozen?_of_block (w := w) (Below.heap_alloc w o a.block ha)).trans h

/-- Block g is just the cells cs of element type t, none frozen. -/
def Blk (w : World) (g : Nat) (t : TypeId) (cs : Array Value) : Prop := w.heap[g]? = some (.cells cs t (0, 0))

section
variable {w w' : World} {g : Nat} {t : TypeId} {cs : Array Value}
theorem Blk.lt (h : Blk w g t cs) : g < w.heap.size := (Array.getElem?_eq_some_iff.1 h).1
theorem Blk.cell (h : Blk w g t cs) (i : Nat) : w.cell? ⟨g, i, none⟩ = cs[i]? := cell_of_row w g i cs t (0, 0) h
theorem Blk.frozen (h : Blk w g t cs) (i : Nat) : w.frozen? ⟨g, i, none⟩ = false := by
  unfold Blk at h
  simp [World.frozen?, h]
theorem Blk.new (w : World) (t : TypeId) (cs : Array Value) : Blk (w.alloc (.cells cs t)) w.heap.size t cs := heap_alloc_new w _
theorem Blk.drew (h : Blk w g t cs) : Blk w.drew g t cs := h
theorem Blk.drewN (h : Blk w g t cs) (n : Nat) : Blk (w.drewN n) g t cs := h
theorem Blk.alloc (h : Blk w g t cs) (o : Obj) : Blk (w.alloc o) g t cs := (Below.heap_alloc w o g h.lt).trans h
theorem Blk.set_ (h : Blk w g t cs) (i : Nat) (u : Value) : Blk (w.setCell ⟨g, i, none⟩ u) g t (cs.setIfInBounds i u) := by
  unfold Blk at h ⊢
  simp [World.setCell, Array.getElem?_modify, h]
theorem Blk.far (h : Blk w g t cs) {p : Addr} (hp : g ≠ p.block) (u : Value) : Blk (w.setCell p u) g t cs := (Below.heap_setCell w p u g hp).trans h
theorem Blk.kpt {S : Nat → Prop} (h : Blk w g t cs) (k : Kpt S w w') (hn : ¬ S g) : Blk w' g t cs := k.heap h hn
theorem Blk.grown {row : Option Nat} (h : Blk w g t cs) (hb : w.grownBy w' row) (hg : some g ≠ row) : Blk w' g t cs := (hb.block g h.lt hg).trans h
theorem Blk.put (h : Blk w g t cs) {b : Nat} (hn : g ≠ b) (o : Obj) : Blk (w.putObj b o) g t cs := (World.putObj_heap_other hn).trans h
theorem Blk.ne_ {g' : Nat} {t' : TypeId} {cs' : Array Value} (h : Blk w g t cs) (h' : Blk w g' t' cs') (hne : t ≠ t') : g ≠ g' := by
  rintro rfl
  unfold Blk at h h'
  rw [h] at h'
  injection h' with h'
  injection h' with _ ht
  exact hne ht
theorem Blk.own_ne {base : Nat} {e : TypeId} {size n : Nat} {v : Value} {xs : List Value} (hg : Blk w g t cs) (h : w.ownsRow base e size v n xs) (hne : e ≠ t) : v.ownBlock ≠ some g := by
  rcases h.2 with ⟨rfl, _⟩ | ⟨g', cap, cur, rfl, _, hh, _⟩
  · simp [Value.ownBlock]
  · intro he
    have : g' = g := by simpa [Value.ownBlock] using he
    subst this
    exact Blk.ne_ (t := e) hh hg hne rfl
end

/-- A row of the call's own is kept. -/
theorem own_kpt {S : Nat → Prop} {w w' : World} {base n size : Nat} {e : TypeId} {v : Value} {xs : List Value} (h : w.ownsRow base e size v n xs) (k : Kpt S w w') (hn : ∀ g, v.ownBlock = some g → ¬ S g) : w'.ownsRow base e size v n xs := by
  refine ⟨h.1, ?_⟩
  rcases h.2 with hl | ⟨g, cap, cur, hv, hg, hh, r⟩
  · exact .inl hl
  · exact .inr ⟨g, cap, cur, hv, hg, k.heap hh (hn g (by rw [hv]; rfl)), r⟩

/-- The slice value '.slice A n c' reads as the cells xs (size cells an element); if it has elements, they lie in a block of D. -/
def Rd (w : World) (D : Nat → Prop) (size : Nat) (A : Option Addr) (n : Nat) (xs : List Value) : Prop :=
  xs.length = n * size ∧ (0 < n → ∃ ad, A = some ad ∧ D ad.block ∧ ∀ j u, xs[j]? = some u → w.cell? (ad.add j) = some u)

theorem block_add (a : Addr) (n : Nat) : (a.add n).block = a.block := by unfold Addr.add; split <;> rfl
theorem add_add (a : Addr) (i j : Nat) : (a.add i).add j = a.add (i + j) := by
  unfold Addr.add
  by_cases hi : i = 0 <;> by_cases hj : j = 0 <;> simp [hi, hj, Nat.add_assoc]
theorem add_plain (g j : Nat) : (⟨g, 0, none⟩ : Addr).add j = ⟨g, j, none⟩ := by unfold Addr.add; split <;> simp_all

section
variable {w w' : World} {D D' : Nat → Prop} {size n : Nat} {A : Option Addr} {xs : List Value}
theorem Rd.nil (w : World) (D : Nat → Prop) (size : Nat) (A : Option Addr) : Rd w D size A 0 [] := ⟨by simp, fun h => absurd h (by omega)⟩
theorem Rd.at_ {k : Nat} (h : Rd w D 1 A n xs) (hk : k < n) : ∃ ad u, A = some ad ∧ D ad.block ∧ xs[k]? = some u ∧ w.cell? (ad.add k) = some u := by
  obtain ⟨ad, e, hb, hc⟩ := h.2 (by omega)
  have hl : k < xs.length := by have := h.1; omega
  exact ⟨ad, xs[k], e, hb, List.getElem?_eq_getElem hl, hc k _ (List.getElem?_eq_getElem hl)⟩
theorem Rd.keep (h : Rd w D size A n xs) (hk : ∀ (p : Addr) (u : Value), D p.block → w.cell? p = some u → w'.cell? p = some u) : Rd w' D size A n xs :=
  ⟨h.1, fun hn => by
    obtain ⟨ad, e, hb, hc⟩ := h.2 hn
    exact ⟨ad, e, hb, fun j u hu => hk _ _ (by rw [block_add]; exact hb) (hc j u hu)⟩⟩
theorem Rd.kpt {S : Nat → Prop} (h : Rd w D size A n xs) (k : Kpt S w w') (hd : ∀ i, D i → ¬ S i) : Rd w' D size A n xs := h.keep fun _ _ hp hc => k.cellv hc (hd _ hp)
theorem Rd.more (h : Rd w D size A n xs) (hD : ∀ i, D i → D' i) : Rd w D' size A n xs :=
  ⟨h.1, fun hn => by
    obtain ⟨ad, e, hb, hc⟩ := h.2 hn
    exact ⟨ad, e, hD _ hb, hc⟩⟩
theorem Rd.drewN (h : Rd w D size A n xs) (k : Nat) : Rd (w.drewN k) D size A n xs := h
theorem Rd.drew (h : Rd w D size A n xs) : Rd w.drew D size A n xs := h
theorem Rd.alloc (h : Rd w D size A n xs) (o : Obj) : Rd (w.alloc o) D size A n xs := h.kpt (S := Non) ((Kpt.refl _ w).alloc o) (fun _ _ e => e)
theorem Rd.set_ (h : Rd w D size A n xs) {p : Addr} (hp : ¬ D p.block) (u : Value) : Rd (w.setCell p u) D size A n xs :=
  h.kpt (S := One p.block) ((Kpt.refl (One p.block) w).setCell (fun _ => rfl) u) (fun i hi e => hp (by rw [← (show i = p.block from e)]; exact hi))
theorem Rd.cut {k cap : Nat} (h : Rd w D size A n xs) (hk : k ≤ n) (hc : n ≤ cap) :
    Rd w D size (if cap = k then A else A.map (·.add (k * size))) (n - k) (xs.drop (k * size)) := by
  refine ⟨by rw [List.length_drop, h.1, Nat.sub_mul], fun hn => ?_⟩
  obtain ⟨ad, rfl, hb, hcell⟩ := h.2 (by omega)
  rw [if_neg (by omega)]
  refine ⟨ad.add (k * size), rfl, by rw [block_add]; exact hb, fun j u hu => ?_⟩
  rw [add_add]
  exact hcell _ u (by rw [← hu, List.getElem?_drop])
theorem Rd.take {k : Nat} (h : Rd w D size A n xs) (hk : k ≤ n) : Rd w D size A k (xs.take (k * size)) := by
  refine ⟨by rw [List.length_take, h.1]; exact Nat.min_eq_left (Nat.mul_le_mul_right _ hk), fun hn => ?_⟩
  obtain ⟨ad, rfl, hb, hcell⟩ := h.2 (by omega)
  refine ⟨ad, rfl, hb, fun j u hu => hcell j u ?_⟩
  rw [List.getElem?_take] at hu
  split at hu
  · exact hu
  · cases hu
theorem Rd.of_own {base : Nat} {e : TypeId} {c : Nat} (h : w.ownsRow base e size (.slice A n c) n xs) : Rd w (fun i => base ≤ i ∧ (Value.slice A n c).ownBlock = some i) size A n xs := by
  refine ⟨h.1, fun hn => ?_⟩
  obtain ⟨g, cap, hv, hb, hlt⟩ := h.form hn
  have hA : A = some ⟨g, 0, none⟩ := by injection hv
  subst hA
  exact ⟨_, rfl, ⟨hb, rfl⟩, h.cells (g := g) rfl⟩
end

/-- The shape of whatever is owned. -/
theorem own_slice {w : World} {base n : Nat} {e : TypeId} {size : Nat} {v : Value} {xs : List Value} (h : w.ownsRow base e size v n xs) : ∃ A c, v = .slice A n c ∧ n ≤ c ∧ c ≤ maxLen := by
  rcases h.2 with ⟨rfl, rfl⟩ | ⟨g, cap, cur, rfl, _, _, h1, h2, _⟩
  · exact ⟨none, 0, rfl, by omega, by simp [maxLen]⟩
  · exact ⟨_, cap, rfl, h1, h2⟩

/-- '[]byte(s)': a new row that holds the bytes. -/
theorem toBytes {P : Program} (w : World) (src dst e : TypeId) (s : ByteArray) {u : TypeDesc} (hs : P.underlying src = some u) (hd : P.underlying dst = some (.slice e)) (he : P.underlying e = some (.int .u8)) :
    ∃ c w1, (convert src dst (.string s)).run P w = .ok (.slice (some ⟨w.heap.size, 0, none⟩) s.size c) w1 ∧ s.size ≤ c ∧ w1.heap.size = w.heap.size + 1 ∧
      (∀ (j : Nat) (h : j < s.size), w1.cell? ⟨w.heap.size, j, none⟩ = some (.int .u8 (s[j].toNat : Int))) ∧ Kpt Non w w1 := by
  refine ⟨_, _, Lib.run_convert_string_bytes w src dst e s hs hd he, grownCap_ge _ _ _ _, Lib.bytesWorld_size w e s, fun j h => ?_, ⟨rfl, rfl, rfl, by rw [Lib.bytesWorld_size]; omega, fun k hk _ => Lib.bytesWorld_at_old w e s k hk⟩⟩
  rw [Lib.bytesWorld_cell w e s j h]
  have : s.data.toList.getD j 0 = s[j] := by
    have h' : j < s.data.toList.length := by simpa using h
    rw [List.getD_eq_getElem?_getD, List.getElem?_eq_getElem h']; rfl
  rw [this]

/-! ### Operations whose run is known whole -/
section
variable {P : Program} {ops : Array Oper} {rest : List Oper} {o : Oper} {a : Act} {w : World} {Q : Exit → Act → World → Prop}
theorem wpList_val (v : Value) (w' : World) (hg : o.guard = none) (h1 : (execOp a.eval o).run P w = .ok (.value v) w') (h : wpList P ops Q rest (a.put o.dst v) w') : wpList P ops Q (o :: rest) a w :=
  wpList_plain hg fun K hK => by
    unfold Oper.wp
    rw [h1]
    exact hK _ _ h
end
theorem Kpt.setRow {S : Nat → Prop} {a w : World} (h : Kpt S a w) {g : Nat} (hg : g < a.heap.size → S g) (cs : Array Value) : Kpt S a (w.setRow g cs) :=
  ⟨h.os, h.tape, h.output, by simpa using h.size, fun i hi hn => (setRow_other w g i cs (by rintro rfl; exact hn (hg hi))).trans (h.block i hi hn)⟩
theorem Blk.setRow_ {w : World} {g : Nat} {t : TypeId} {cs : Array Value} (h : Blk w g t cs) (cs' : Array Value) : Blk (w.setRow g cs') g t cs' := setRow_heap w g cs cs' t (0, 0) h
theorem Blk.setRow_far {w : World} {g g' : Nat} {t : TypeId} {cs : Array Value} (h : Blk w g t cs) (hne : g ≠ g') (cs' : Array Value) : Blk (w.setRow g' cs') g t cs := (setRow_other w g' g cs' hne).trans h

/-! ### Maps: an association list -/

/-- Block b is a map whose entries are l, in the order in which they came. -/
def MapIs {κ ν : Type} (kv : κ → Value) (vv : ν → Value) (w : World) (b : Nat) (l : List (κ × ν)) : Prop :=
  ∃ es clock, w.heap[b]? = some (.map es clock) ∧ es.toList.map (fun e => (e.key, e.val)) = l.map (fun p => (kv p.1, vv p.2)) ∧
    (∀ x ∈ es.toList, x.born < clock) ∧ (es.toList.map (·.born)).Nodup

section
variable {κ ν : Type} {kv : κ → Value} {vv : ν → Value}
theorem MapIs.lt {w : World} {b : Nat} {l : List (κ × ν)} (h : MapIs kv vv w b l) : b < w.heap.size := by
  obtain ⟨es, clock, hb, _⟩ := h
  exact (Array.getElem?_eq_some_iff.1 hb).1
theorem MapIs.kpt {S : Nat → Prop} {w w' : World} {b : Nat} {l : List (κ × ν)} (h : MapIs kv vv w b l) (k : Kpt S w w') (hn : ¬ S b) : MapIs kv vv w' b l := by
  obtain ⟨es, clock, hb, r⟩ := h
  exact ⟨es, clock, k.heap hb hn, r⟩
theorem MapIs.alloc {w : World} {b : Nat} {l : List (κ × ν)} (h : MapIs kv vv w b l) (o : Obj) : MapIs kv vv (w.alloc o) b l := h.kpt (S := Non) ((Kpt.refl _ w).alloc o) (fun e => e)
theorem MapIs.set_ {w : World} {b : Nat} {l : List (κ × ν)} (h : MapIs kv vv w b l) (p : Addr) (u : Value) : MapIs kv vv (w.setCell p u) b l := by
  obtain ⟨es, clock, hb, r⟩ := h
  refine ⟨es, clock, ?_, r⟩
  by_cases e : b = p.block
  · subst e
    obtain ⟨hlt, hk⟩ := Array.getElem?_eq_some_iff.1 hb
    show (w.heap.modify p.block _)[p.block]? = _
    rw [Array.getElem?_eq_getElem (by rw [Array.size_modify]; exact hlt), Array.getElem_modify_self, hk]
  · exact (Below.heap_setCell w p u b e).trans hb
theorem MapIs.drewN {w : World} {b : Nat} {l : List (κ × ν)} (h : MapIs kv vv w b l) (k : Nat) : MapIs kv vv (w.drewN k) b l := h
theorem MapIs.drew {w : World} {b : Nat} {l : List (κ × ν)} (h : MapIs kv vv w b l) : MapIs kv vv w.drew b l := h
theorem MapIs.made (w : World) : MapIs kv vv (w.alloc (.map #[] 0)) w.heap.size [] := ⟨#[], 0, heap_alloc_new w _, rfl, by simp, by simp⟩
theorem MapIs.put_other {w : World} {b c : Nat} {l : List (κ × ν)} (h : MapIs kv vv w b l) (hne : b ≠ c) (o : Obj) : MapIs kv vv (w.putObj c o) b l :=
  h.kpt (S := One c) ((Kpt.refl (One c) w).put (fun _ => rfl) o) hne


section
variable [DecidableEq κ]
/-- The first entry of a key. -/
def aget (x : κ) : List (κ × ν) → Option ν
  | [] => none
  | (y, v) :: l => if x = y then some v else aget x l
/-- The list with another value for a key. -/
def aset (x : κ) (v : ν) : List (κ × ν) → List (κ × ν)
  | [] => [(x, v)]
  | (y, u) :: l => if x = y then (x, v) :: l else (y, u) :: aset x v l

theorem aget_aset (x y : κ) (v : ν) : ∀ l : List (κ × ν), aget x (aset y v l) = if x = y then some v else aget x l
  | [] => by by_cases h : x = y <;> simp [aset, aget, h]
  | (z, u) :: l => by
    have ih := aget_aset x y v l
    by_cases hyz : y = z <;> by_cases hxy : x = y <;> by_cases hxz : x = z <;> simp_all [aset, aget]

/-- What the key's type owes: a key is a key; whether two are equal is found out; a key that stays is itself. -/
structure KeyOk (P : Program) (K : TypeId) (kv : κ → Value) : Prop where
  check : ∀ (em : Bool) (x : κ) (w : World), (Instr.checkKey em 10000 K (kv x)).run P w = .ok () w
  find : ∀ (x : κ) (l : List κ) (es : List MapEntry) (w : World), es.map (·.key) = l.map kv →
    (Instr.findKey K (kv x) es).run P w = .ok ((l.findIdx? (fun y => decide (x = y))).bind fun i => (es[i]?).map fun e => (i, e.val)) w
  stays : ∀ (x : κ) (w : World), (Instr.keyThatStays (kv x) (kv x)).run P w = .ok (kv x) w

theorem findIdx_some {x : κ} {l : List κ} {i : Nat} (h : l.findIdx? (fun y => decide (x = y)) = some i) : l[i]? = some x := by
  obtain ⟨h1, h2, _⟩ := List.findIdx?_eq_some_iff_getElem.1 h
  rw [List.getElem?_eq_getElem h1]
  simp at h2
  rw [← h2]

theorem aget_eq (x : κ) : ∀ l : List (κ × ν), aget x l = ((l.map Prod.fst).findIdx? (fun y => decide (x = y))).bind fun i => (l[i]?).map Prod.snd
  | [] => rfl
  | (y, u) :: l => by
    have ih := aget_eq x l
    by_cases h : x = y
    · simp [aget, h, List.findIdx?_cons]
    · simp only [aget, if_neg h, ih, List.map_cons, List.findIdx?_cons, decide_eq_true_eq]
      cases (l.map Prod.fst).findIdx? (fun y => decide (x = y)) <;> simp

theorem aset_eq (x : κ) (v : ν) : ∀ l : List (κ × ν), aset x v l = match (l.map Prod.fst).findIdx? (fun y => decide (x = y)) with | some i => l.set i (x, v) | none => l ++ [(x, v)]
  | [] => rfl
  | (y, u) :: l => by
    have ih := aset_eq x v l
    by_cases h : x = y
    · simp [aset, h, List.findIdx?_cons]
    · simp only [aset, if_neg h, ih, List.map_cons, List.findIdx?_cons, decide_eq_true_eq]
      cases (l.map Prod.fst).findIdx? (fun y => decide (x = y)) <;> simp

variable {P : Program} {K E T : TypeId}

theorem MapIs.lookup {w : World} {b : Nat} {l : List (κ × ν)} (h : MapIs kv vv w b l) (hk : KeyOk P K kv) (hT : P.underlying T = some (.map K E)) {z : Value} (hz : (zeroValue E).run P w = .ok z w) (x : κ) :
    (Instr.lookup T (.map (some b)) (kv x) true).run P w = .ok (.tuple #[((aget x l).map vv).getD z, .bool (aget x l).isSome]) w ∧
    (Instr.lookup T (.map (some b)) (kv x) false).run P w = .ok (((aget x l).map vv).getD z) w := by
  obtain ⟨es, clock, hb, hes, _⟩ := h
  have hkeys : es.toList.map (·.key) = (l.map Prod.fst).map kv := by
    have := congrArg (List.map Prod.fst) hes
    simpa [List.map_map, Function.comp_def] using this
  have hvals : es.toList.map (·.val) = l.map (fun p => vv p.2) := by
    have := congrArg (List.map Prod.snd) hes
    simpa [List.map_map, Function.comp_def] using this
  have hf := hk.find x (l.map Prod.fst) es.toList w hkeys
  have hv : ∀ i : Nat, (es.toList[i]?).map (fun e : MapEntry => e.val) = (l[i]?).map (fun p : κ × ν => vv p.2) := fun i => by
    have := congrArg (fun q => q[i]?) hvals
    simpa using this
  have ha := aget_eq x l
  cases hi : (l.map Prod.fst).findIdx? (fun y => decide (x = y)) with
  | none =>
    rw [hi] at hf ha
    simp only [Option.bind_none] at hf ha
    constructor <;> simp [Instr.lookup, run_underlying hT, MapKept.run_getObj_map hb, hk.check, hf, hz, Result.andThen, ha]
  | some i =>
    rw [hi] at hf ha
    simp only [Option.bind_some] at hf ha
    have hx := findIdx_some hi
    rw [List.getElem?_map] at hx
    obtain ⟨p, hp, _⟩ := Option.map_eq_some_iff.1 hx
    have hvi := hv i
    rw [hp] at hvi ha
    obtain ⟨e, he, hev⟩ := Option.map_eq_some_iff.1 hvi
    rw [he] at hf
    simp only [Option.map_some] at hf ha
    constructor <;> simp [Instr.lookup, run_underlying hT, MapKept.run_getObj_map hb, hk.check, hf, Result.andThen, ha, hev]

theorem MapIs.update {w : World} {b : Nat} {l : List (κ × ν)} (h : MapIs kv vv w b l) (hk : KeyOk P K kv) (hT : P.underlying T = some (.map K E)) (x : κ) (v : ν) :
    ∃ o, (Instr.mapUpdate T (.map (some b)) (kv x) (vv v)).run P w = .ok () (w.putObj b o) ∧ MapIs kv vv (w.putObj b o) b (aset x v l) := by
  obtain ⟨es, clock, hb, hes, hborn, hnd⟩ := h
  have hlt := (Array.getElem?_eq_some_iff.1 hb).1
  have hkeys : es.toList.map (·.key) = (l.map Prod.fst).map kv := by
    have := congrArg (List.map Prod.fst) hes
    simpa [List.map_map, Function.comp_def] using this
  have hf := hk.find x (l.map Prod.fst) es.toList w hkeys
  have ha := aset_eq x v l
  have hset : ∀ o : Obj, (setObj b o).run P w = .ok () (w.putObj b o) := fun o => MapKept.run_setObj_map o hb
  have hput : ∀ o : Obj, (w.putObj b o).heap[b]? = some o := fun o => by simp [World.putObj, hlt]
  cases hi : (l.map Prod.fst).findIdx? (fun y => decide (x = y)) with
  | none =>
    rw [hi] at hf ha
    simp only [Option.bind_none] at hf ha
    refine ⟨.map (es.push { key := kv x, val := vv v, born := clock }) (clock + 1), ?_, ?_⟩
    · simp [Instr.mapUpdate, run_underlying hT, MapKept.run_getObj_map hb, hk.check, hf, hset, Result.andThen]
    · refine ⟨_, _, hput _, ?_, ?_, ?_⟩
      · rw [ha]; simp [hes]
      · intro y hy
        simp only [Array.toList_push, List.mem_append, List.mem_singleton] at hy
        rcases hy with hy | rfl
        · have := hborn y hy; omega
        · simp
      · simp only [Array.toList_push, List.map_append, List.map_cons, List.map_nil]
        rw [List.nodup_append]
        refine ⟨hnd, by simp, ?_⟩
        intro a ha' c hc
        simp only [List.mem_singleton] at hc
        obtain ⟨y, hy, rfl⟩ := List.mem_map.1 ha'
        have := hborn y hy
        omega
  | some i =>
    rw [hi] at hf ha
    simp only [Option.bind_some] at hf ha
    have hx := findIdx_some hi
    have hki : (es.toList[i]?).map (fun e : MapEntry => e.key) = some (kv x) := by
      have := congrArg (fun q => q[i]?) hkeys
      simp only [List.getElem?_map, hx, Option.map_some] at this
      simpa using this
    obtain ⟨e, he, hek⟩ := Option.map_eq_some_iff.1 hki
    have he' : es[i]? = some e := by simpa using he
    rw [he] at hf
    simp only [Option.map_some] at hf
    refine ⟨.map (es.modify i fun e => { e with key := kv x, val := vv v }) clock, ?_, ?_⟩
    · simp [Instr.mapUpdate, run_underlying hT, MapKept.run_getObj_map hb, hk.check, hf, he', hek, hk.stays, hset, Result.andThen]
    · have hlist : (es.modify i fun e => { e with key := kv x, val := vv v }).toList = es.toList.set i { e with key := kv x, val := vv v } := by
        rw [Array.toList_modify, Go.ChangeMaps.modify_eq_set _ _ _ _ he]
      refine ⟨_, _, hput _, ?_, ?_, ?_⟩
      · rw [ha, hlist, List.map_set, hes, List.map_set]
      · rw [hlist]
        intro y hy
        obtain ⟨j, hj, ey⟩ := List.getElem_of_mem hy
        rw [List.getElem_set] at ey
        split at ey
        · rw [← ey]; exact hborn e (List.mem_of_getElem? he)
        · rw [← ey]; exact hborn _ (List.getElem_mem _)
      · rw [hlist, List.map_set]
        have : (es.toList.map (·.born)).set i e.born = es.toList.map (·.born) := by
          apply List.ext_getElem?
          intro j
          rw [List.getElem?_set]
          split
          · rename_i hij
            subst hij
            simp [he]
            have := (List.getElem?_eq_some_iff.1 he).1
            simpa using this
          · rfl
        rw [this]
        exact hnd
end
end

end Go.Proofs.YtkpmabknjdgkmaaGreatDoor
