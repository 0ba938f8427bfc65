/- The views that the laws on terminals make; the examples of the chapter hold. No condition. -/
import Derived.Test.YtkpmabknjdgkmaaGreatDoorLaw2
namespace Go.Proofs.YtkpmabknjdgkmaaGreatDoor
open Go.RowKit

theorem new_hold (s : Nat) (w : World) (h : w.cell? ⟨s, 0, none⟩ = some (.pointer none)) :
    Calls Tryz.prog 12 #[.pointer (some ⟨s, 0, none⟩)] w fun e w' => e = .returned (.pointer (some ⟨w.heap.size + 1 + 1, 0, none⟩)) ∧ Hold w.heap.size w' ⟨s, 0, none⟩ (w.heap.size + 1 + 1) w.heap.size (w.heap.size + 1) 0 (fun _ => none) ∧ Kpt Non w w' := by
  refine (f25_any _ w).mono ?_
  rintro e w' ⟨rfl, rfl⟩
  have k0 : Kpt Non w ((w.alloc (.map #[] 0)).alloc (.map #[] 0)) := ((Kpt.refl _ _).alloc _).alloc _
  have hm : ∀ (w1 : World) (b : Nat), w1.heap[b]? = some (.map #[] 0) → MapIs Nm.val Ch.val w1 b [] := fun w1 b hb => ⟨#[], 0, hb, rfl, by simp, by simp⟩
  refine ⟨rfl, ⟨⟨fun _ => none, [], [], []⟩, ⟨(StOk.empty _ w s h).kpt (k0.alloc _) (fun _ e => e.elim), ⟨.slice none 0 0, ?_, rfl, .inl ⟨rfl, rfl⟩⟩, ?_, ?_, by omega, by omega, by omega, by omega⟩, fun j _ => ⟨rfl, fun _ e => by cases e⟩, rfl⟩, k0.alloc _⟩
  · have := Blk.new ((w.alloc (.map #[] 0)).alloc (.map #[] 0)) 90 #[.pointer (some ⟨s, 0, none⟩), .map (some w.heap.size), .slice none 0 0, .map (some (w.heap.size + 1))]
    simp only [World.size_alloc] at this
    exact this
  · exact ((hm _ _ (heap_alloc_new w _)).alloc _).alloc _
  · have := heap_alloc_new (w.alloc (.map #[] 0)) (.map #[] 0)
    simp only [World.size_alloc] at this
    exact (hm _ _ this).alloc _

theorem Ts.put_same (X : Ts) (k : Int) (t : Tm) : (X.put k t) k = some t := by unfold Ts.put; rw [if_pos rfl]
theorem opR_ok {X : Ts} {k epoch : Int} {f : Tm → Tm × Int} {t t' : Tm} (hk : 1 ≤ k ∧ k ≤ 99) (he : 0 ≤ epoch ∧ epoch ≤ 1073741824) (hx : inT (X k) epoch = t) (hf : f t = (t', 0)) : opR X k epoch f = (X.put k t', 0) := by
  unfold opR
  rw [if_pos ⟨hk, he⟩, hx, hf, if_pos rfl]
theorem opR_err {X : Ts} {k epoch : Int} {f : Tm → Tm × Int} {t t' : Tm} {e : Int} (hk : 1 ≤ k ∧ k ≤ 99) (he : 0 ≤ epoch ∧ epoch ≤ 1073741824) (hx : inT (X k) epoch = t) (hf : f t = (t', e)) (h0 : e ≠ 0) : opR X k epoch f = (X, e) := by
  unfold opR
  rw [if_pos ⟨hk, he⟩, hx, hf, if_neg h0]
theorem inT_put {X : Ts} {k epoch : Int} {t : Tm} (h : t.epoch = epoch) : inT ((X.put k t) k) epoch = t := by
  rw [Ts.put_same]
  unfold inT
  simp only
  rw [if_pos h]

/-- Behind a law's beginning at w there is a view at block b, its blocks lie below top. -/
def V (w : World) (top : Nat) (w1 : World) (b c : Nat) (X : Ts) : Prop :=
  ∃ bs sa r n, Hold bs w1 sa b r n c X ∧ (w.heap.size ≤ b ∧ b < top) ∧ (w.heap.size ≤ r ∧ r < top) ∧ (w.heap.size ≤ n ∧ n < top) ∧ Kpt Non w w1
def Btw (w : World) (top : Nat) : Nat → Prop := fun i => w.heap.size ≤ i ∧ i < top

section
variable {w w1 : World} {top b c c' : Nat} {X X' : Ts} {k epoch err : Int}
theorem V.non {w2 : World} (h : V w top w1 b c X) (kk : Kpt Non w1 w2) : V w top w2 b c X := by
  obtain ⟨bs, sa, r, n, hh, h1, h2, h3, k0⟩ := h
  exact ⟨bs, sa, r, n, hh.non kk, h1, h2, h3, Kpt.trans k0 kk (fun _ e _ => e)⟩
theorem V.kpt (h : V w top w1 b c X) : Kpt Non w w1 := by
  obtain ⟨bs, sa, r, n, hh, h1, h2, h3, k0⟩ := h
  exact k0
theorem V.step {bs r n : Nat} {sa : Addr} {w2 : World} (hh : Hold bs w2 sa b r n c' X') (h1 : w.heap.size ≤ b ∧ b < top) (h2 : w.heap.size ≤ r ∧ r < top) (h3 : w.heap.size ≤ n ∧ n < top) (k0 : Kpt Non w w1) (kk : Kpt (fun i => i = b ∨ i = r ∨ i = n) w1 w2) :
    V w top w2 b c' X' ∧ Kpt (Btw w top) w1 w2 := by
  refine ⟨⟨bs, sa, r, n, hh, h1, h2, h3, Kpt.trans k0 kk (fun i hi hlt => ?_)⟩, kk.mono (fun i hi => ?_)⟩
  · rcases hi with rfl | rfl | rfl <;> omega
  · rcases hi with rfl | rfl | rfl <;> assumption
theorem V.new (w : World) : Calls Tryz.prog 12 #[.pointer (some ⟨w.heap.size, 0, none⟩)] (w.alloc (.cells #[.pointer none] 93)) fun e w2 => ∃ b, e = .returned (.pointer (some ⟨b, 0, none⟩)) ∧ V w w2.heap.size w2 b 0 (fun _ => none) := by
  refine (new_hold w.heap.size (w.alloc (.cells #[.pointer none] 93)) (by rw [(Blk.new w 93 #[.pointer none]).cell 0]; rfl)).mono ?_
  rintro e w2 ⟨rfl, hh, kk⟩
  have hsz : (w.alloc (.cells #[.pointer none] 93)).heap.size + 1 + 1 < w2.heap.size := by
    obtain ⟨m, hv, _⟩ := hh
    obtain ⟨cv, hb, _⟩ := hv.blk
    exact hb.lt
  simp only [World.size_alloc] at hsz hh ⊢
  exact ⟨_, rfl, _, _, _, _, hh, ⟨by omega, by omega⟩, ⟨by omega, by omega⟩, ⟨by omega, by omega⟩, Kpt.trans (Kpt.alloc (Kpt.refl _ _) _) kk (fun _ e _ => e)⟩
theorem V.begin (h : V w top w1 b c X) (who : ByteArray) (hx : opR X k epoch (beginT who) = (X', err)) (hcc : (if err = 0 then c + 1 else c) = c') (hc : c ≤ 1000000) (hw : who.size ≤ 140737488351232) :
    Calls Tryz.prog 14 #[.pointer (some ⟨b, 0, none⟩), .int .i64 k, .int .i64 epoch, .string who] w1 fun e w2 => e = .returned (.int .i64 err) ∧ V w top w2 b c' X' ∧ Kpt (Btw w top) w1 w2 := by
  obtain ⟨bs, sa, r, n, hh, h1, h2, h3, k0⟩ := h
  have := begin_hold hh k epoch who hc hw
  rw [hx] at this
  simp only [hcc] at this
  refine this.mono ?_
  rintro e w2 ⟨rfl, h2', kk⟩
  exact ⟨rfl, V.step h2' h1 h2 h3 k0 kk⟩
theorem V.end_ (h : V w top w1 b c X) (who : ByteArray) (hx : opR X k epoch (endT who) = (X', err)) (hcc : (if err = 0 then c + 1 else c) = c') (hc : c ≤ 1000000) :
    Calls Tryz.prog 19 #[.pointer (some ⟨b, 0, none⟩), .int .i64 k, .int .i64 epoch, .string who] w1 fun e w2 => e = .returned (.int .i64 err) ∧ V w top w2 b c' X' ∧ Kpt (Btw w top) w1 w2 := by
  obtain ⟨bs, sa, r, n, hh, h1, h2, h3, k0⟩ := h
  have := end_hold hh k epoch who hc
  rw [hx] at this
  simp only [hcc] at this
  refine this.mono ?_
  rintro e w2 ⟨rfl, h2', kk⟩
  exact ⟨rfl, V.step h2' h1 h2 h3 k0 kk⟩
theorem V.type (h : V w top w1 b c X) (text : ByteArray) (hx : opR X k epoch (typedT text) = (X', err)) (hcc : (if err = 0 then c + 1 else c) = c') (hc : c ≤ 1000000) (hw : text.size ≤ 140737488351232) :
    Calls Tryz.prog 15 #[.pointer (some ⟨b, 0, none⟩), .int .i64 k, .int .i64 epoch, .string text] w1 fun e w2 => e = .returned (.int .i64 err) ∧ V w top w2 b c' X' ∧ Kpt (Btw w top) w1 w2 := by
  obtain ⟨bs, sa, r, n, hh, h1, h2, h3, k0⟩ := h
  have := type_hold hh k epoch text hc hw
  rw [hx] at this
  simp only [hcc] at this
  refine this.mono ?_
  rintro e w2 ⟨rfl, h2', kk⟩
  exact ⟨rfl, V.step h2' h1 h2 h3 k0 kk⟩
theorem V.read {line : ByteArray} (h : V w top w1 b c X) (who : ByteArray) (hx : opR X k epoch (readT who) = (X', err)) (hl : lineR X k epoch who = line) (hcc : (if err = 0 then c + 1 else c) = c') (hc : c ≤ 1000000) (hw : who.size ≤ 140737488351232) :
    Calls Tryz.prog 16 #[.pointer (some ⟨b, 0, none⟩), .int .i64 k, .int .i64 epoch, .string who] w1 fun e w2 => e = .returned (.tuple #[.string line, .int .i64 err]) ∧ V w top w2 b c' X' ∧ Kpt (Btw w top) w1 w2 := by
  obtain ⟨bs, sa, r, n, hh, h1, h2, h3, k0⟩ := h
  have := read_hold hh k epoch who hc hw
  rw [hx, hl] at this
  simp only [hcc] at this
  refine this.mono ?_
  rintro e w2 ⟨rfl, h2', kk⟩
  exact ⟨rfl, V.step h2' h1 h2 h3 k0 kk⟩
theorem V.show {i : Nat} (h : V w top w1 b c X) (text : ByteArray) (hx : shwR X k epoch text = (X', err, i)) (hcc : c + i = c') (hc : c ≤ 1000000) :
    Calls Tryz.prog 33 #[.pointer (some ⟨b, 0, none⟩), .int .i64 k, .int .i64 epoch, .string text] w1 fun e w2 => e = .returned (.int .i64 err) ∧ V w top w2 b c' X' ∧ Kpt (Btw w top) w1 w2 := by
  obtain ⟨bs, sa, r, n, hh, h1, h2, h3, k0⟩ := h
  have := show_hold hh k epoch text hc
  rw [hx] at this
  simp only [hcc] at this
  refine this.mono ?_
  rintro e w2 ⟨rfl, h2', kk⟩
  exact ⟨rfl, V.step h2' h1 h2 h3 k0 kk⟩
theorem V.getTm {t : Tm} (h : V w top w1 b c X) (hx : getR X k epoch = (t, err)) :
    Calls Tryz.prog 17 #[.pointer (some ⟨b, 0, none⟩), .int .i64 k, .int .i64 epoch] w1 fun e w2 => ∃ A cp, e = .returned (.tuple #[.agg #[.int .i64 t.epoch, .string t.session, .slice A t.typed.length cp, .string t.screen], .int .i64 err]) ∧ t.typed.length ≤ cp ∧ cp ≤ maxLen ∧
      Rd w2 (fun i => w1.heap.size ≤ i) 1 A t.typed.length (t.typed.map Value.string) ∧ V w top w2 b c X ∧ Kpt (Btw w top) w1 w2 := by
  obtain ⟨bs, sa, r, n, hh, h1, h2, h3, k0⟩ := h
  have := get_hold hh k epoch
  rw [hx] at this
  refine this.mono ?_
  rintro e w2 ⟨v, rfl, ⟨A, cp, rfl, hca, hcb, hr⟩, h2', kk⟩
  exact ⟨A, cp, rfl, hca, hcb, hr, V.step h2' h1 h2 h3 k0 kk⟩
end
end Go.Proofs.YtkpmabknjdgkmaaGreatDoor
