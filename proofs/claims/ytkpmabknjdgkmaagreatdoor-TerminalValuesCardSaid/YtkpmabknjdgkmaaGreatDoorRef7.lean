/- The reference's Decode, as a plain function; it answers what Decode answers. No condition. -/
import Derived.Test.YtkpmabknjdgkmaaGreatDoorRef6
import Derived.Test.YtkpmabknjdgkmaaGreatDoorLaw1
namespace Go.Proofs.YtkpmabknjdgkmaaGreatDoor
open Go.RowKit

def pieces : Nat → List UInt8 → List ByteArray × List UInt8
  | 0, r => ([], r)
  | n + 1, r => (strB (pieceT r).1 :: (pieces n (pieceT r).2).1, (pieces n (pieceT r).2).2)
/-- What the reference's Decode guesses: the terminal, and what is left. -/
def guessT (l : List UInt8) : Tm × List UInt8 :=
  (⟨(takeT l).1, strB (pieceT (takeT l).2).1, (pieces (takeT (pieceT (takeT l).2).2).1.toNat (takeT (pieceT (takeT l).2).2).2).1, strB (pieceT (pieces (takeT (pieceT (takeT l).2).2).1.toNat (takeT (pieceT (takeT l).2).2).2).2).1⟩,
    (pieceT (pieces (takeT (pieceT (takeT l).2).2).1.toNat (takeT (pieceT (takeT l).2).2).2).2).2)
def guessN (l : List UInt8) : Int := (takeT (pieceT (takeT l).2).2).1
def refDec (l : List UInt8) : Tm × Int :=
  if guessN l < 0 ∨ 16 < guessN l then (zeroT, 3)
  else if chkT (guessT l).1 = 0 ∧ encT (guessT l).1 = l ∧ (guessT l).2 = [] then ((guessT l).1, 0) else (zeroT, 3)

theorem takeT_nat (n : Nat) (rest : List UInt8) (h : n < 9223372036854775808) : takeT (natB n ++ rest) = ((n : Int), rest) := by
  unfold takeT
  rw [grp_natB0 n rest h, if_pos rfl, List.drop_left]
theorem pieceT_text (s : ByteArray) (rest : List UInt8) (h : s.size < 9223372036854775808) : pieceT (textB s ++ rest) = (bytesOf s, rest) := by
  unfold pieceT textB
  rw [List.append_assoc, takeT_nat _ _ h]
  have hl := len_bytesOf s
  simp only
  rw [if_neg (by rw [List.length_append]; omega), Int.toNat_natCast, List.take_left' hl, List.drop_left' hl]
theorem pieces_flat (rest : List UInt8) : ∀ ts : List ByteArray, (∀ s ∈ ts, s.size < 9223372036854775808) → pieces ts.length (ts.flatMap textB ++ rest) = (ts, rest)
  | [], _ => rfl
  | s :: ts, h => by
    have h1 : pieceT ((s :: ts).flatMap textB ++ rest) = (bytesOf s, ts.flatMap textB ++ rest) := by
      rw [List.flatMap_cons, List.append_assoc]
      exact pieceT_text s _ (h s (by simp))
    simp only [List.length_cons, pieces, h1]
    rw [pieces_flat rest ts (fun s' h' => h s' (by simp [h']))]
    simp [strB_bytesOf]
theorem guess_enc {t : Tm} (h : chkT t = 0) : guessT (encT t) = (t, []) ∧ guessN (encT t) = t.typed.length := by
  obtain ⟨h1, h2, h3, h4, h5, h6⟩ := chkT_ok h
  have hv := valid_size h2
  have hln := fun s hs => lineErr_ok (linesErr_ok h4 s hs)
  have e1 : takeT (encT t) = ((t.epoch.toNat : Int), textB t.session ++ (natB t.typed.length ++ (t.typed.flatMap textB ++ (textB t.screen ++ [])))) := by
    have := takeT_nat t.epoch.toNat (textB t.session ++ (natB t.typed.length ++ (t.typed.flatMap textB ++ (textB t.screen ++ [])))) (by omega)
    rw [← this]
    simp [encT]
  have e2 := pieceT_text t.session (natB t.typed.length ++ (t.typed.flatMap textB ++ (textB t.screen ++ []))) (by omega)
  have e3 := takeT_nat t.typed.length (t.typed.flatMap textB ++ (textB t.screen ++ [])) (by omega)
  have e4 := pieces_flat (textB t.screen ++ []) t.typed (fun s hs => by have := hln s hs; omega)
  have e5 := pieceT_text t.screen [] (by omega)
  unfold guessT guessN
  simp only [e1, e2, e3, e4, e5, Int.toNat_natCast, strB_bytesOf]
  refine ⟨?_, trivial⟩
  obtain ⟨t1, t2, t3, t4⟩ := t
  simp only [Prod.mk.injEq, Tm.mk.injEq, and_true] at *
  exact Int.toNat_of_nonneg h1.1

/-- Bytes that are read as a number are that number's own. -/
theorem grp_back : ∀ (l : List UInt8) (i u : Nat), i ≤ 9 → (grp i u l).2.2 = 0 → ∃ m, (grp i u l).1 = u + m * 128 ^ i ∧ i < (grp i u l).2.1 ∧ l = natB m ++ l.drop ((grp i u l).2.1 - i) ∧ (0 < i → 0 < m)
  | [], i, u, hi, h => by
    simp only [grp] at h
    split at h <;> simp at h
  | c :: l, i, u, hi, h => by
    unfold grp at h ⊢
    by_cases h9 : i = 9
    · rw [if_pos h9] at h; simp at h
    · rw [if_neg h9] at h ⊢
      have hc256 := UInt8.toNat_lt c
      by_cases hc : c.toNat < 128
      · rw [if_pos hc] at h ⊢
        by_cases h0 : c.toNat = 0 ∧ 0 < i
        · rw [if_pos h0] at h; simp at h
        · rw [if_neg h0]
          refine ⟨c.toNat, by simp only [Nat.mod_eq_of_lt hc], by simp, ?_, fun hi => by omega⟩
          rw [natB_small hc]
          simp
      · rw [if_neg hc] at h ⊢
        obtain ⟨m, e1, e2, e3, e4⟩ := grp_back l (i + 1) _ (by omega) h
        have hm := e4 (by omega)
        refine ⟨c.toNat % 128 + 128 * m, ?_, by omega, ?_, fun _ => by omega⟩
        · rw [e1, Nat.pow_succ, Nat.add_mul, Nat.add_assoc, Nat.mul_comm 128 m, Nat.mul_assoc, Nat.mul_comm (128 ^ i) 128]
        · have hb : natB (c.toNat % 128 + 128 * m) = c :: natB m := by
            rw [natB_big (by omega), show (c.toNat % 128 + 128 * m) / 128 = m by omega, show (c.toNat % 128 + 128 * m) % 128 + 128 = c.toNat by omega]
            simp
          rw [hb, List.cons_append]
          have e5 : (grp (i + 1) (u + c.toNat % 128 * 128 ^ i) l).2.1 - i = ((grp (i + 1) (u + c.toNat % 128 * 128 ^ i) l).2.1 - (i + 1)) + 1 := by omega
          rw [e5, List.drop_succ_cons]
          exact congrArg (c :: ·) e3
theorem grp_back0 {l : List UInt8} (h : (grp 0 0 l).2.2 = 0) : l = natB (grp 0 0 l).1 ++ l.drop (grp 0 0 l).2.1 := by
  obtain ⟨m, e1, _, e3, _⟩ := grp_back l 0 0 (by omega) h
  simp only [Nat.pow_zero, Nat.mul_one, Nat.zero_add, Nat.sub_zero] at e1 e3
  rw [e1]
  exact e3
theorem numAns_back {most : Nat} {l : List UInt8} (h : (numAns most l).2.2 = 0) : l = natB (numAns most l).1 ++ l.drop (numAns most l).2.1 := by
  unfold numAns at h ⊢
  split
  · rename_i h1
    rw [if_pos h1] at h
    simp at h
  · rename_i h1
    rw [if_neg h1] at h
    exact grp_back0 h
theorem rdNum_back {most a : Nat} {e : Int} {l : List UInt8} (h : (rdNum most a e l).2.2 = 0) : e = 0 ∧ l.drop a = natB (rdNum most a e l).1 ++ l.drop (rdNum most a e l).2.1 := by
  unfold rdNum at h ⊢
  split
  · rename_i h1
    rw [if_pos h1] at h
    split
    · rename_i h2
      refine ⟨h1, ?_⟩
      have := numAns_back h2
      rw [List.drop_drop] at this
      exact this
    · rename_i h2
      rw [if_neg h2] at h
      exact absurd h h2
  · rename_i h1
    rw [if_neg h1] at h
    exact absurd h h1
theorem textAns_back {most : Nat} {l : List UInt8} (h : (textAns most l).2.2 = 0) : l = textB (strB (textAns most l).1) ++ l.drop (textAns most l).2.1 := by
  unfold textAns at h ⊢
  split
  · rename_i h0
    rw [if_pos h0] at h
    split
    · rename_i h1
      rw [if_pos h1] at h
      simp at h
    · rename_i h1
      rw [if_neg h1] at h
      split
      · rename_i h2
        rw [if_pos h2] at h
        simp at h
      · rename_i h2
        simp only
        have hb := grp_back0 h0
        unfold textB
        rw [bytesOf_strB, strB_size, List.length_take, List.length_drop, Nat.min_eq_left (by omega), List.append_assoc, ← List.drop_drop, List.take_append_drop]
        exact hb
  · rename_i h0
    rw [if_neg h0] at h
    exact absurd h h0
theorem rdText_back {most a : Nat} {e : Int} {l : List UInt8} (h : (rdText most a e l).2.2 = 0) : e = 0 ∧ l.drop a = textB (strB (rdText most a e l).1) ++ l.drop (rdText most a e l).2.1 := by
  unfold rdText at h ⊢
  split
  · rename_i h1
    rw [if_pos h1] at h
    split
    · rename_i h2
      refine ⟨h1, ?_⟩
      have := textAns_back h2
      rw [List.drop_drop] at this
      exact this
    · rename_i h2
      rw [if_neg h2] at h
      exact absurd h h2
  · rename_i h1
    rw [if_neg h1] at h
    exact absurd h h1
theorem rdMany_back {l : List UInt8} : ∀ {n a : Nat} {e : Int}, (rdMany l n a e).2.2 = 0 → e = 0 ∧ l.drop a = (rdMany l n a e).1.flatMap textB ++ l.drop (rdMany l n a e).2.1
  | 0, a, e, h => by simp only [rdMany] at h ⊢; exact ⟨h, by simp⟩
  | n + 1, a, e, h => by
    simp only [rdMany] at h ⊢
    obtain ⟨h1, h2⟩ := rdMany_back h
    obtain ⟨h3, h4⟩ := rdText_back h1
    refine ⟨h3, ?_⟩
    rw [h4, h2]
    simp
theorem rdTm_back {l : List UInt8} (h : (rdTm l).2.2 = 0) (ha : (rdTm l).2.1 = l.length) : encT (rdTm l).1 = l := by
  unfold rdTm at h ha ⊢
  simp only at h ha ⊢
  obtain ⟨e1, d1⟩ := rdText_back h
  obtain ⟨e2, d2⟩ := rdMany_back e1
  obtain ⟨e3, d3⟩ := rdNum_back e2
  obtain ⟨e4, d4⟩ := rdText_back e3
  obtain ⟨e5, d5⟩ := rdNum_back e4
  rw [List.drop_zero] at d5
  have hc : (rdMany l (rdNum 16 (rdText 64 (rdNum 1073741824 0 0 l).2.1 (rdNum 1073741824 0 0 l).2.2 l).2.1 (rdText 64 (rdNum 1073741824 0 0 l).2.1 (rdNum 1073741824 0 0 l).2.2 l).2.2 l).1 (rdNum 16 (rdText 64 (rdNum 1073741824 0 0 l).2.1 (rdNum 1073741824 0 0 l).2.2 l).2.1 (rdText 64 (rdNum 1073741824 0 0 l).2.1 (rdNum 1073741824 0 0 l).2.2 l).2.2 l).2.1 (rdNum 16 (rdText 64 (rdNum 1073741824 0 0 l).2.1 (rdNum 1073741824 0 0 l).2.2 l).2.1 (rdText 64 (rdNum 1073741824 0 0 l).2.1 (rdNum 1073741824 0 0 l).2.2 l).2.2 l).2.2).1.length = _ := rdMany_len l _ _ _
  rw [ha, List.drop_length, List.append_nil] at d1
  unfold encT
  simp only
  rw [Int.toNat_natCast, hc, List.append_assoc, List.append_assoc, List.append_assoc, ← d1, ← d2, ← d3, ← d4, ← d5]

theorem refDec_eq (l : List UInt8) : refDec l = decT l := by
  by_cases hd : decOk l = true
  · have h := hd
    unfold decOk at h
    simp only [Bool.and_eq_true, decide_eq_true_eq] at h
    obtain ⟨⟨h1, h2⟩, h3⟩ := h
    have he := rdTm_back h1 h2
    have hg := guess_enc h3
    rw [he] at hg
    obtain ⟨c1, c2, c3, c4, c5, c6⟩ := chkT_ok h3
    unfold refDec decT
    rw [if_pos hd, if_neg (by rw [hg.2]; omega), hg.1, if_pos ⟨h3, he, rfl⟩]
  · unfold decT
    rw [if_neg hd]
    unfold refDec
    split
    · rfl
    · split
      · rename_i h
        obtain ⟨h1, h2, h3⟩ := h
        have := rdTm_enc h1
        rw [h2] at this
        refine absurd ?_ hd
        unfold decOk
        rw [this]
        simp [h1]
      · rfl
end Go.Proofs.YtkpmabknjdgkmaaGreatDoor
