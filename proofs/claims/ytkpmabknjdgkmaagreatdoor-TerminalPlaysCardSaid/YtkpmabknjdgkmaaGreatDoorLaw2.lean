/- What a view holds, told as terminals: the operations as steps on them. No condition. -/
import Derived.Test.YtkpmabknjdgkmaaGreatDoorLaw1
namespace Go.Proofs.YtkpmabknjdgkmaaGreatDoor
open Go.RowKit

/-- The view has x as terminal n. -/
structure Sim (m : VwM) (n : Int) (x : Option Tm) : Prop where
  get : m.get (ofTerminal n) = match x with | none => (es, false) | some t => (strB (encT t), true)
  chk : ∀ t, x = some t → chkT t = 0

theorem VwM.get_got (m : VwM) (a b : Nm) : (m.got a).get b = m.get b := by
  unfold VwM.got
  split <;> rfl
theorem VwM.get_call (m : VwM) (c : Ch) (b : Nm) : (m.call c).get b = if b = c.name then (c.value, !c.absent) else m.get b := by
  unfold VwM.call VwM.get
  simp only [aget_aset]
  by_cases h : b = c.name <;> simp [h]
theorem VwM.calls_got (m : VwM) (a : Nm) : (m.got a).calls = m.calls := by
  unfold VwM.got
  split <;> rfl
theorem getM_get (m : VwM) (number epoch : Int) (a : Nm) : (getM m number epoch).get a = m.get a := by
  unfold getM
  split
  · exact VwM.get_got _ _ _
  · rfl
theorem getM_calls (m : VwM) (number epoch : Int) : (getM m number epoch).calls = m.calls := by
  unfold getM
  split
  · exact VwM.calls_got _ _
  · rfl
theorem ofTerminal_inj {a b : Int} (h : ofTerminal a = ofTerminal b) : a = b := by
  unfold ofTerminal at h
  injection h

/-- The terminal in an epoch. -/
def inT (x : Option Tm) (epoch : Int) : Tm := match x with
  | none => emptyT epoch
  | some t => if t.epoch = epoch then t else emptyT epoch

section
variable {m : VwM} {n epoch : Int} {x : Option Tm}
theorem chk_inT (h : ∀ t, x = some t → chkT t = 0) (he : 0 ≤ epoch ∧ epoch ≤ 1073741824) : chkT (inT x epoch) = 0 := by
  unfold inT
  split
  · exact chk_empty he
  · split
    · exact h _ rfl
    · exact chk_empty he
theorem Sim.sz (h : Sim m n x) : (m.get (ofTerminal n)).1.size ≤ 65536 := by
  rw [h.get]
  cases x with
  | none => simp [size_es]
  | some t => simp only [strB_size]; exact encT_len (h.chk t rfl)
theorem Sim.getT (h : Sim m n x) (hn : 1 ≤ n ∧ n ≤ 99) (he : 0 ≤ epoch ∧ epoch ≤ 1073741824) : getT m n epoch = (inT x epoch, 0) := by
  unfold Go.Proofs.YtkpmabknjdgkmaaGreatDoor.getT inT
  rw [if_pos ⟨hn, he⟩, h.get]
  cases x with
  | none => simp
  | some t =>
    simp only
    rw [if_pos trivial, decT_enc (h.chk t rfl)]
    by_cases ht : t.epoch = epoch <;> simp [ht]
theorem getT_bad (h : ¬ ((1 ≤ n ∧ n ≤ 99) ∧ (0 ≤ epoch ∧ epoch ≤ 1073741824))) : getT m n epoch = (zeroT, 2) := by
  unfold getT
  rw [if_neg h]
theorem Sim.got (h : Sim m n x) (number : Int) : Sim (getM m number epoch) n x := ⟨by rw [getM_get]; exact h.get, h.chk⟩
theorem Sim.other {n' : Int} (h : Sim m n x) (hne : n ≠ n') (t : Tm) : Sim (m.call ⟨ofTerminal n', strB (encT t), false⟩) n x :=
  ⟨by rw [VwM.get_call, if_neg (fun e => hne (ofTerminal_inj e))]; exact h.get, h.chk⟩
end

/-- The terminals of a view. -/
abbrev Ts := Int → Option Tm
def Ts.put (X : Ts) (k : Int) (t : Tm) : Ts := fun j => if j = k then some t else X j
/-- What an operation that changes makes of them. -/
def opR (X : Ts) (k epoch : Int) (f : Tm → Tm × Int) : Ts × Int :=
  if (1 ≤ k ∧ k ≤ 99) ∧ (0 ≤ epoch ∧ epoch ≤ 1073741824) then
    (if (f (inT (X k) epoch)).2 = 0 then (X.put k (f (inT (X k) epoch)).1, 0) else (X, (f (inT (X k) epoch)).2))
  else (X, 2)

/-- A view at block b that holds the terminals X, and has c calls. -/
def Hold (bs : Nat) (w : World) (sa : Addr) (b r n c : Nat) (X : Ts) : Prop :=
  ∃ m, IsView (fun _ => True) bs w sa b r n m ∧ (∀ k, 1 ≤ k ∧ k ≤ 99 → Sim m k (X k)) ∧ m.calls.length = c

def AllSim (m : VwM) (X : Ts) : Prop := ∀ k, 1 ≤ k ∧ k ≤ 99 → Sim m k (X k)
theorem AllSim.got {m : VwM} {X : Ts} (h : AllSim m X) (k epoch : Int) : AllSim (getM m k epoch) X := fun j hj => (h j hj).got k
theorem AllSim.put {m : VwM} {X : Ts} (h : AllSim m X) (k : Int) {t : Tm} (ht : chkT t = 0) : AllSim (m.call ⟨ofTerminal k, strB (encT t), false⟩) (X.put k t) := fun j hj => by
  unfold Ts.put
  by_cases e : j = k
  · subst e
    rw [if_pos rfl]
    exact ⟨by rw [VwM.get_call]; simp, fun t' e => by injection e with e; rw [← e]; exact ht⟩
  · rw [if_neg e]
    exact (h j hj).other e t

theorem getT_chk {m : VwM} {X : Ts} (h : AllSim m X) (k epoch : Int) : chkT (getT m k epoch).1 = 0 := by
  by_cases hg : (1 ≤ k ∧ k ≤ 99) ∧ (0 ≤ epoch ∧ epoch ≤ 1073741824)
  · rw [(h k hg.1).getT hg.1 hg.2]
    exact chk_inT (h k hg.1).chk hg.2
  · rw [getT_bad hg]
    exact chk_zero

theorem chgT_sim {m : VwM} {X : Ts} (h : AllSim m X) (k epoch : Int) {f : Tm → Tm × Int} (hf : Nice f) :
    (chgT m k epoch f).2 = (opR X k epoch f).2 ∧ AllSim (chgT m k epoch f).1 (opR X k epoch f).1 ∧ (chgT m k epoch f).1.calls.length = (if (opR X k epoch f).2 = 0 then m.calls.length + 1 else m.calls.length) := by
  unfold chgT opR
  by_cases hg : (1 ≤ k ∧ k ≤ 99) ∧ (0 ≤ epoch ∧ epoch ≤ 1073741824)
  · rw [(h k hg.1).getT hg.1 hg.2, if_pos hg, if_pos rfl]
    have hc := hf _ (chk_inT (h k hg.1).chk hg.2)
    by_cases h0 : (f (inT (X k) epoch)).2 = 0
    · rw [if_pos h0, if_pos h0, if_pos hc]
      refine ⟨rfl, (h.got k epoch).put k hc, ?_⟩
      simp [VwM.call, getM_calls]
    · rw [if_neg h0, if_neg h0]
      refine ⟨rfl, h.got k epoch, ?_⟩
      rw [getM_calls, if_neg h0]
  · rw [getT_bad hg, if_neg hg, if_neg (by simp)]
    refine ⟨rfl, h.got k epoch, ?_⟩
    rw [getM_calls]
    simp

section
variable {bs : Nat} {w : World} {sa : Addr} {b r n c : Nat} {X : Ts}
theorem Hold.keep {w' : World} {S : Nat → Prop} (h : Hold bs w sa b r n c X) (k : Kpt S w w') (hS : ∀ i, S i → w.heap.size ≤ i) : Hold bs w' sa b r n c X := by
  obtain ⟨m, hv, hs, hc⟩ := h
  refine ⟨m, hv.non ⟨k.os, k.tape, k.output, k.size, fun i hi _ => k.block i hi (fun e => ?_)⟩, hs, hc⟩
  have := hS i e
  omega
theorem Hold.non {w' : World} (h : Hold bs w sa b r n c X) (k : Kpt Non w w') : Hold bs w' sa b r n c X := h.keep k (fun _ e => e.elim)

theorem begin_hold (h : Hold bs w sa b r n c X) (k epoch : Int) (who : ByteArray) (hc : c ≤ 1000000) (hw : who.size ≤ 140737488351232) :
    Calls Tryz.prog 14 #[.pointer (some ⟨b, 0, none⟩), .int .i64 k, .int .i64 epoch, .string who] w fun e w' => e = .returned (.int .i64 (opR X k epoch (beginT who)).2) ∧
      Hold bs w' sa b r n (if (opR X k epoch (beginT who)).2 = 0 then c + 1 else c) (opR X k epoch (beginT who)).1 ∧ Kpt (fun i => i = b ∨ i = r ∨ i = n) w w' := by
  obtain ⟨m, hv, hs, rfl⟩ := h
  have hk := nice_begin who _ (getT_chk hs k epoch)
  have hx := chgT_sim hs k epoch (nice_begin who)
  refine (f27_any _ bs w sa b r n m hv k epoch who (fun _ => trivial) (fun hn => by have := (hs k hn).sz; omega) hw (tmOk_chk hk) (by have := valid_size (chkT_ok hk).2.1; omega) (fun _ => encT_len hk) (by rw [getM_calls]; exact hc)).mono ?_
  rintro e w' ⟨rfl, hv', kk⟩
  exact ⟨by rw [hx.1], ⟨_, hv', hx.2.1, hx.2.2⟩, kk⟩
theorem end_hold (h : Hold bs w sa b r n c X) (k epoch : Int) (who : ByteArray) (hc : c ≤ 1000000) :
    Calls Tryz.prog 19 #[.pointer (some ⟨b, 0, none⟩), .int .i64 k, .int .i64 epoch, .string who] w fun e w' => e = .returned (.int .i64 (opR X k epoch (endT who)).2) ∧
      Hold bs w' sa b r n (if (opR X k epoch (endT who)).2 = 0 then c + 1 else c) (opR X k epoch (endT who)).1 ∧ Kpt (fun i => i = b ∨ i = r ∨ i = n) w w' := by
  obtain ⟨m, hv, hs, rfl⟩ := h
  have hk := nice_end who _ (getT_chk hs k epoch)
  have hx := chgT_sim hs k epoch (nice_end who)
  refine (f32_any _ bs w sa b r n m hv k epoch who (fun _ => trivial) (fun hn => by have := (hs k hn).sz; omega) (tmOk_chk hk) (by have := valid_size (chkT_ok hk).2.1; omega) (fun _ => encT_len hk) (by rw [getM_calls]; exact hc)).mono ?_
  rintro e w' ⟨rfl, hv', kk⟩
  exact ⟨by rw [hx.1], ⟨_, hv', hx.2.1, hx.2.2⟩, kk⟩
theorem type_hold (h : Hold bs w sa b r n c X) (k epoch : Int) (text : ByteArray) (hc : c ≤ 1000000) (hw : text.size ≤ 140737488351232) :
    Calls Tryz.prog 15 #[.pointer (some ⟨b, 0, none⟩), .int .i64 k, .int .i64 epoch, .string text] w fun e w' => e = .returned (.int .i64 (opR X k epoch (typedT text)).2) ∧
      Hold bs w' sa b r n (if (opR X k epoch (typedT text)).2 = 0 then c + 1 else c) (opR X k epoch (typedT text)).1 ∧ Kpt (fun i => i = b ∨ i = r ∨ i = n) w w' := by
  obtain ⟨m, hv, hs, rfl⟩ := h
  have hk := nice_typed text _ (getT_chk hs k epoch)
  have hx := chgT_sim hs k epoch (nice_typed text)
  have h0 := chkT_ok (getT_chk hs k epoch)
  refine (f28_any _ bs w sa b r n m hv k epoch text (fun _ => trivial) (fun hn => by have := (hs k hn).sz; omega) hw (by have := h0.2.2.2.2.2; omega) (by have := h0.2.2.1; omega) (tmOk_chk hk) (by have := valid_size (chkT_ok hk).2.1; omega) (fun _ => encT_len hk) (by rw [getM_calls]; exact hc)).mono ?_
  rintro e w' ⟨rfl, hv', kk⟩
  exact ⟨by rw [hx.1], ⟨_, hv', hx.2.1, hx.2.2⟩, kk⟩

/-- The line that ReadLine reads. -/
def lineR (X : Ts) (k epoch : Int) (who : ByteArray) : ByteArray := if (1 ≤ k ∧ k ≤ 99) ∧ (0 ≤ epoch ∧ epoch ≤ 1073741824) then readL who (inT (X k) epoch) else es
theorem line_eq {m : VwM} (h : AllSim m X) (k epoch : Int) (who : ByteArray) : lineOf m k epoch who = lineR X k epoch who := by
  unfold lineOf lineR
  by_cases hg : (1 ≤ k ∧ k ≤ 99) ∧ (0 ≤ epoch ∧ epoch ≤ 1073741824)
  · rw [(h k hg.1).getT hg.1 hg.2, if_pos hg, if_pos rfl]
  · rw [getT_bad hg, if_neg hg, if_neg (by simp)]
theorem read_hold (h : Hold bs w sa b r n c X) (k epoch : Int) (who : ByteArray) (hc : c ≤ 1000000) (hw : who.size ≤ 140737488351232) :
    Calls Tryz.prog 16 #[.pointer (some ⟨b, 0, none⟩), .int .i64 k, .int .i64 epoch, .string who] w fun e w' => e = .returned (.tuple #[.string (lineR X k epoch who), .int .i64 (opR X k epoch (readT who)).2]) ∧
      Hold bs w' sa b r n (if (opR X k epoch (readT who)).2 = 0 then c + 1 else c) (opR X k epoch (readT who)).1 ∧ Kpt (fun i => i = b ∨ i = r ∨ i = n) w w' := by
  obtain ⟨m, hv, hs, rfl⟩ := h
  have hk := nice_read who _ (getT_chk hs k epoch)
  have hx := chgT_sim hs k epoch (nice_read who)
  have h0 := chkT_ok (getT_chk hs k epoch)
  refine (f29_any _ bs w sa b r n m hv k epoch who (fun _ => trivial) (fun hn => by have := (hs k hn).sz; omega) hw (by have := valid_size h0.2.1; omega) (by have := h0.2.2.1; omega) (tmOk_chk hk) (by have := valid_size (chkT_ok hk).2.1; omega) (fun _ => encT_len hk) (by rw [getM_calls]; exact hc)).mono ?_
  rintro e w' ⟨rfl, hv', kk⟩
  exact ⟨by rw [hx.1, line_eq hs], ⟨_, hv', hx.2.1, hx.2.2⟩, kk⟩

/-- What Show makes of the terminals, and how many calls come to it. -/
def shwR (X : Ts) (k epoch : Int) (text : ByteArray) : Ts × Int × Nat :=
  if (1 ≤ k ∧ k ≤ 99) ∧ (0 ≤ epoch ∧ epoch ≤ 1073741824) then
    (if 65536 < text.size then (X, 5, 0) else if text.size = 0 then (X, 0, 0) else (X.put k (shownT text (inT (X k) epoch)), 0, 1))
  else (X, 2, 0)
theorem show_hold (h : Hold bs w sa b r n c X) (k epoch : Int) (text : ByteArray) (hc : c ≤ 1000000) :
    Calls Tryz.prog 33 #[.pointer (some ⟨b, 0, none⟩), .int .i64 k, .int .i64 epoch, .string text] w fun e w' => e = .returned (.int .i64 (shwR X k epoch text).2.1) ∧
      Hold bs w' sa b r n (c + (shwR X k epoch text).2.2) (shwR X k epoch text).1 ∧ Kpt (fun i => i = b ∨ i = r ∨ i = n) w w' := by
  obtain ⟨m, hv, hs, rfl⟩ := h
  have hs' : AllSim (getM m k epoch) X := AllSim.got hs k epoch
  have hk := nice_shown text _ (getT_chk hs' k epoch)
  have hx := chgT_sim hs' k epoch (nice_shown text)
  have h0 := chkT_ok (getT_chk hs' k epoch)
  have hsh : (shwT m k epoch text).2 = (shwR X k epoch text).2.1 ∧ AllSim (shwT m k epoch text).1 (shwR X k epoch text).1 ∧ (shwT m k epoch text).1.calls.length = m.calls.length + (shwR X k epoch text).2.2 := by
    unfold shwT shwR
    by_cases hg : (1 ≤ k ∧ k ≤ 99) ∧ (0 ≤ epoch ∧ epoch ≤ 1073741824)
    · rw [(hs k hg.1).getT hg.1 hg.2, if_pos hg, if_pos rfl]
      by_cases h1 : 65536 < text.size
      · rw [if_pos h1, if_pos h1]
        exact ⟨rfl, hs', by rw [getM_calls]; rfl⟩
      · rw [if_neg h1, if_neg h1]
        by_cases h2 : text.size = 0
        · rw [if_pos h2, if_pos h2]
          exact ⟨rfl, hs', by rw [getM_calls]; rfl⟩
        · rw [if_neg h2, if_neg h2]
          have ho : opR X k epoch (shownF text) = (X.put k (shownT text (inT (X k) epoch)), 0) := by
            unfold opR shownF
            rw [if_pos hg]
            simp
          rw [ho] at hx
          exact ⟨hx.1, hx.2.1, by rw [hx.2.2, if_pos rfl, getM_calls]⟩
    · rw [getT_bad hg, if_neg hg, if_neg (by simp)]
      exact ⟨rfl, hs', by rw [getM_calls]; rfl⟩
  refine (f46_any _ bs w sa b r n m hv k epoch text (fun _ => trivial) (fun hn => by have := (hs k hn).sz; omega) (fun hn => by have := (hs' k hn).sz; omega) (by have := h0.2.2.2.2.2; omega) (tmOk_chk hk) (by have := valid_size h0.2.1; omega) (fun _ => encT_len hk) (by rw [getM_calls, getM_calls]; exact hc)).mono ?_
  rintro e w' ⟨rfl, hv', kk⟩
  exact ⟨by rw [hsh.1], ⟨_, hv', hsh.2.1, hsh.2.2⟩, kk⟩

/-- What Get answers. -/
def getR (X : Ts) (k epoch : Int) : Tm × Int := if (1 ≤ k ∧ k ≤ 99) ∧ (0 ≤ epoch ∧ epoch ≤ 1073741824) then (inT (X k) epoch, 0) else (zeroT, 2)
theorem get_hold (h : Hold bs w sa b r n c X) (k epoch : Int) :
    Calls Tryz.prog 17 #[.pointer (some ⟨b, 0, none⟩), .int .i64 k, .int .i64 epoch] w fun e w' => ∃ v, e = .returned (.tuple #[v, .int .i64 (getR X k epoch).2]) ∧ TmV w' (fun i => w.heap.size ≤ i) (getR X k epoch).1 v ∧
      Hold bs w' sa b r n c X ∧ Kpt (fun i => i = b ∨ i = r ∨ i = n) w w' := by
  obtain ⟨m, hv, hs, rfl⟩ := h
  have hg : getT m k epoch = getR X k epoch := by
    unfold getR
    by_cases hg : (1 ≤ k ∧ k ≤ 99) ∧ (0 ≤ epoch ∧ epoch ≤ 1073741824)
    · rw [(hs k hg.1).getT hg.1 hg.2, if_pos hg]
    · rw [getT_bad hg, if_neg hg]
  refine (f30_any _ bs w sa b r n m hv k epoch (fun _ => trivial) (fun hn => by have := (hs k hn).sz; omega)).mono ?_
  rintro e w' ⟨v, rfl, hv', kk, hm⟩
  rw [hg] at hv'
  exact ⟨v, by rw [hg], hv', ⟨_, hm, AllSim.got hs k epoch, by rw [getM_calls]⟩, kk.mono (fun i e => .inr (.inl e))⟩
end
end Go.Proofs.YtkpmabknjdgkmaaGreatDoor
