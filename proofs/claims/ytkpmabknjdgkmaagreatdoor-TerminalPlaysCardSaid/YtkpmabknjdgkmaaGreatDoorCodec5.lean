/- codec's Parse and Reader. -/
import Derived.Test.YtkpmabknjdgkmaaGreatDoorCodec4
import Derived.BigQuiet
import Derived.Deep.QuietTactic
namespace Go.Proofs.YtkpmabknjdgkmaaGreatDoor
open Go.RowKit

theorem grp_lt : ∀ (l : List UInt8) (i u : Nat), i ≤ 9 → u < 128 ^ i → (grp i u l).1 < 9223372036854775808
  | [], i, u, _, _ => by simp [grp]
  | c :: l, i, u, hi, hu => by
    unfold grp
    split
    · simp
    · have hp := pow128_le (i := i) (by omega)
      have hmul : c.toNat % 128 * 128 ^ i ≤ 127 * 128 ^ i := Nat.mul_le_mul_right _ (by have := Nat.mod_lt c.toNat (show 128 > 0 by decide); omega)
      split
      · split
        · simp
        · simp only; omega
      · exact grp_lt l (i + 1) _ (by omega) (by rw [Nat.pow_succ]; omega)
theorem grp_size : ∀ (l : List UInt8) (i u : Nat), (grp i u l).2.2 = 0 → (grp i u l).2.1 ≤ i + l.length ∧ i < (grp i u l).2.1
  | [], i, u, h => by
    simp only [grp] at h
    split at h <;> simp at h
  | c :: l, i, u, h => by
    unfold grp at h ⊢
    split at h
    · simp at h
    · rename_i h9
      rw [if_neg h9]
      split at h
      · rename_i hc
        rw [if_pos hc]
        split at h
        · simp at h
        · rename_i h0
          rw [if_neg h0]
          simp
      · rename_i hc
        rw [if_neg hc]
        have := grp_size l (i + 1) _ h
        simp only [List.length_cons]
        omega

set_option maxRecDepth 100000 in
set_option maxHeartbeats 400000 in
theorem f170_any (A : Option Addr) (n c : Nat) (D : Nat → Prop) (l : List UInt8) (w : World) (hr : Rd w D 1 A n (l.map byteV)) (hn : n ≤ maxLen) :
    Calls Tryz.prog 86 #[.slice A n c] w fun e w' => e = .returned (.tuple #[.int .i64 (grp 0 0 l).1, .int .i64 (grp 0 0 l).2.1, .int .i64 (grp 0 0 l).2.2]) ∧ w = w' := by
  have hc := f216_any A n c D l w hr hn
  have hlt := grp_lt l 0 0 (by omega) (by simp)
  generalize hg : grp 0 0 l = g at hc hlt
  obtain ⟨g1, g2, g3⟩ := g
  simp only at hc hlt
  have HC := Lib.hid hc; clear hc hr hg
  go_enter Tryz.func86, Tryz.ntmps86
  go_wp2_with fail
  refine HC.out.mono ?_
  rintro e w1 ⟨rfl, rfl⟩
  go_wp2_with fail
  refine bodyPost_ret (v := .tuple #[.int .i64 g1, .int .i64 g2, .int .i64 g3]) (by simp [results, Tryz.results86, go_sem]) rfl ⟨rfl, rfl⟩

/-- A Reader at block b: the bytes that are left, and the error. -/
structure Rdr (w : World) (b : Nat) (l : List UInt8) (at_ : Nat) (err : Int) : Prop where
  le : at_ ≤ l.length
  size : l.length ≤ 1099511627776
  blk : ∃ g c, l.length ≤ c ∧ c ≤ maxLen ∧ g ≠ b ∧ Blk w b 143 #[.slice (some ⟨g, 0, none⟩) l.length c, .int .i64 (at_ : Int), .int .i64 err] ∧ Rd w (fun i => i = g) 1 (some ⟨g, 0, none⟩) l.length (l.map byteV) ∧ ∃ cur, Blk w g 5 cur

theorem Rdr.kpt {w w' : World} {b at_ : Nat} {l : List UInt8} {err : Int} (h : Rdr w b l at_ err) (k : Kpt Non w w') : Rdr w' b l at_ err := by
  obtain ⟨g, c, h1, h2, h3, h4, h5, cur, h6⟩ := h.blk
  exact ⟨h.le, h.size, g, c, h1, h2, h3, h4.kpt k (fun e => e), h5.kpt k (fun _ _ e => e), cur, h6.kpt k (fun e => e)⟩
/-- What may change is none of the Reader's two blocks. -/
theorem Rdr.keep {S : Nat → Prop} {w w' : World} {b at_ : Nat} {l : List UInt8} {err : Int} (h : Rdr w b l at_ err) (k : Kpt S w w') (hb : ¬ S b) (hg : ∀ g cur, Blk w g 5 cur → ¬ S g) : Rdr w' b l at_ err := by
  obtain ⟨g, c, h1, h2, h3, h4, h5, cur, h6⟩ := h.blk
  have hn := hg g cur h6
  exact ⟨h.le, h.size, g, c, h1, h2, h3, h4.kpt k hb, h5.kpt k (fun i hi e => by have hi' : i = g := hi; subst hi'; exact hn e), cur, h6.kpt k hn⟩

theorem own_some {w : World} {base n size : Nat} {e : TypeId} {v : Value} {xs : List Value} (h : w.ownsRow base e size v n xs) (hne : v ≠ .slice none 0 0) : ∃ g c, v = .slice (some ⟨g, 0, none⟩) n c ∧ n ≤ c ∧ c ≤ maxLen := by
  rcases h.2 with ⟨hv, _⟩ | ⟨g, cap, cur, hv, _, _, h1, h2, _⟩
  · exact absurd hv hne
  · exact ⟨g, cap, hv, h1, h2⟩

set_option maxRecDepth 100000 in
set_option maxHeartbeats 1000000 in
theorem f109_any (g n c : Nat) (D : Nat → Prop) (l : List UInt8) (w : World) (hr : Rd w D 1 (some ⟨g, 0, none⟩) n (l.map byteV)) (hn : n ≤ 1099511627776) (_hc : n ≤ c) :
    Calls Tryz.prog 60 #[.slice (some ⟨g, 0, none⟩) n c] w fun e w' => ∃ b, e = .returned (.pointer (some ⟨b, 0, none⟩)) ∧ w.heap.size ≤ b ∧ Rdr w' b l 0 0 ∧ Kpt Non w w' := by
  have hl : l.length = n := by have := hr.1; simpa using this
  obtain ⟨i0, hi, hz, hz0, hz1⟩ := info_parts info5
  have HI := Lib.hid hi; have HZ := Lib.hid hz; have HZ0 := Lib.hid hz0; have HZ1 := Lib.hid hz1; clear hi hz hz0 hz1
  have HR := Lib.hid hr; clear hr
  have HL := Lib.hid hl; clear hl
  have hnews : ∀ (o : Obj) j u, (l.map byteV)[j]? = some u → (w.alloc o).cell? ((⟨g, 0, none⟩ : Addr).add j) = some u := fun o j u hu => by
    rcases Nat.eq_zero_or_pos n with h0 | h0
    · have : (l.map byteV) = [] := List.eq_nil_of_length_eq_zero (by rw [List.length_map, HL.out, h0])
      rw [this] at hu
      simp at hu
    · obtain ⟨ad', e', _, hh⟩ := (HR.out.alloc o).2 h0
      injection e' with e'
      subst e'
      exact hh j u hu
  have HN := Lib.hid hnews; clear hnews
  go_enter Tryz.func60, Tryz.ntmps60
  go_wp2_with (refine wpList_append_own _ rfl _ _ 81 rfl w.heap.size 5 i0 _ 1 1 Tryz.underlying81 HI.out HZ.out HZ0.out HZ1.out (by rfl) (by omega) (.slice (some ⟨w.heap.size, 0, none⟩) 0 0) 0 [] rfl (World.ownsRow_lit w #[] 0 (Nat.le_refl _) (by simp [maxLen]) rfl) ⟨g, 0, none⟩ n c (l.map byteV) rfl HR.out.1 (HN.out _) (one_bytes _) (by simp only [maxLen]; omega) (by omega) (by simp) ?_; intro v1 w1 ho hg hnil; obtain ⟨g1, c1, rfl, hcc1, hcc2⟩ := own_some ho (by simp [hnil]); have HO1 := Lib.hid ho; have HG1 := Lib.hid hg; have HNil := Lib.hid hnil; clear ho hg hnil)
  go_ret
  have hb1 : w.heap.size ≤ g1 ∧ g1 < w1.heap.size := by
    have := HO1.out.lt g1 rfl
    exact ⟨this.1, this.2⟩
  have ho := HO1.out
  simp only [Nat.zero_add, List.nil_append] at ho
  refine ⟨w1.heap.size, rfl, by omega, ⟨Nat.zero_le _, by rw [HL.out]; exact hn, g1, c1, by rw [HL.out]; omega, hcc2, by omega, ?_, ?_, ?_⟩, ?_⟩
  · have := Blk.new w1 143 #[.slice (some ⟨g1, 0, none⟩) l.length c1, .int .i64 0, .int .i64 0]
    rw [HL.out] at this ⊢
    simpa using this
  · rw [HL.out]
    exact ⟨by rw [List.length_map, HL.out]; omega, fun _ => ⟨_, rfl, rfl, fun j u hu => own_cells (ho.alloc _) j u hu⟩⟩
  · rcases ho.2 with ⟨hv, _⟩ | ⟨g', cap, cur, hv, _, hh, _⟩
    · cases hv
    · have : g' = g1 := by injection hv with hv; injection hv with hv; injection hv with hv; exact hv.symm
      subst this
      exact ⟨cur, (show Blk w1 g' 5 cur from hh).alloc _⟩
  · exact Kpt.alloc (Kpt.app (Kpt.alloc (Kpt.refl Non w) _) HG1.out (by simp [Value.ownBlock])) _
end Go.Proofs.YtkpmabknjdgkmaaGreatDoor
