/- Plain facts on terminals: Decode answers what Encode wrote; the operations leave a terminal that is checked. No condition. -/
import Derived.Test.YtkpmabknjdgkmaaGreatDoorTerm12
namespace Go.Proofs.YtkpmabknjdgkmaaGreatDoor
open Go.RowKit

theorem grp_natB (rest : List UInt8) : ∀ (k i u n : Nat), i + k = 8 → n < 128 ^ (k + 1) → (i = 0 ∨ 0 < n) → grp i u (natB n ++ rest) = (u + n * 128 ^ i, i + (natB n).length, 0)
  | k, i, u, n, hk, hn, h0 => by
    by_cases h : n < 128
    · have hc : (UInt8.ofNat n).toNat = n := by simp; omega
      rw [natB_small h]
      simp only [List.cons_append, List.nil_append]
      unfold grp
      rw [if_neg (by omega), hc, if_pos h, if_neg (by omega)]
      simp [Nat.mod_eq_of_lt h]
    · match k with
      | 0 => exact absurd (by simpa using hn) h
      | k + 1 =>
        have hc : (UInt8.ofNat (n % 128 + 128)).toNat = n % 128 + 128 := by simp; omega
        rw [natB_big h, List.cons_append]
        unfold grp
        rw [if_neg (by omega), hc, if_neg (by omega)]
        rw [grp_natB rest k (i + 1) _ (n / 128) (by omega) (by rw [Nat.pow_succ] at hn; omega) (.inr (by omega))]
        have e1 : (n % 128 + 128) % 128 = n % 128 := by omega
        have e2 : n / 128 * 128 ^ (i + 1) = (128 * (n / 128)) * 128 ^ i := by
          rw [Nat.pow_succ, Nat.mul_comm 128 (n / 128), Nat.mul_assoc, Nat.mul_comm (128 ^ i) 128]
        have e3 : n % 128 * 128 ^ i + n / 128 * 128 ^ (i + 1) = n * 128 ^ i := by
          rw [e2, ← Nat.add_mul, Nat.mod_add_div]
        rw [e1, Nat.add_assoc, e3, List.length_cons]
        simp only [Prod.mk.injEq, true_and, and_true]
        omega

theorem grp_natB0 (n : Nat) (rest : List UInt8) (h : n < 9223372036854775808) : grp 0 0 (natB n ++ rest) = (n, (natB n).length, 0) := by
  have := grp_natB rest 8 0 0 n rfl (by rw [show (128 : Nat) ^ (8 + 1) = 9223372036854775808 by decide]; exact h) (.inl rfl)
  simpa using this

theorem textAns_textB (most : Nat) (s : ByteArray) (rest : List UInt8) (h : s.size ≤ most) (hm : most ≤ 16777216) : textAns most (textB s ++ rest) = (bytesOf s, (textB s).length, 0) := by
  have hl := len_bytesOf s
  unfold textAns textB
  rw [List.append_assoc, grp_natB0 _ _ (by omega)]
  simp only
  rw [if_pos trivial, if_neg (by omega), if_neg (by rw [List.length_append, List.length_append]; omega), List.drop_left, List.take_left' hl, List.length_append, hl]

theorem rdNum_at {most n a : Nat} {pre rest l : List UInt8} (hl : l = pre ++ (natB n ++ rest)) (ha : a = pre.length) (hn : n ≤ most) (hm : most ≤ 1073741824) : rdNum most a 0 l = (n, a + (natB n).length, 0) := by
  subst hl ha
  unfold rdNum
  rw [if_pos rfl, List.drop_left]
  have : numAns most (natB n ++ rest) = (n, (natB n).length, 0) := by
    unfold numAns
    rw [grp_natB0 _ _ (by omega), if_neg (by simp only; omega)]
  rw [this]
  simp
theorem rdText_at {most a : Nat} {s : ByteArray} {pre rest l : List UInt8} (hl : l = pre ++ (textB s ++ rest)) (ha : a = pre.length) (hn : s.size ≤ most) (hm : most ≤ 16777216) : rdText most a 0 l = (bytesOf s, a + (textB s).length, 0) := by
  subst hl ha
  unfold rdText
  rw [if_pos rfl, List.drop_left, textAns_textB most s rest hn hm]
  simp
theorem strB_bytesOf (s : ByteArray) : strB (bytesOf s) = s := by cases s; simp [strB, bytesOf]
theorem bytesOf_strB (l : List UInt8) : bytesOf (strB l) = l := by simp [strB, bytesOf]
theorem rdMany_at {rest l : List UInt8} : ∀ {ts : List ByteArray} {pre : List UInt8} {a : Nat}, l = pre ++ (ts.flatMap textB ++ rest) → a = pre.length → (∀ s ∈ ts, s.size ≤ 1024) → rdMany l ts.length a 0 = (ts, a + (ts.flatMap textB).length, 0)
  | [], pre, a, _, _, _ => by simp [rdMany]
  | s :: ts, pre, a, hl, ha, hs => by
    have h1 : rdText 1024 a 0 l = (bytesOf s, a + (textB s).length, 0) := rdText_at (rest := ts.flatMap textB ++ rest) (by rw [hl]; simp) ha (hs s (by simp)) (by omega)
    have h2 := rdMany_at (l := l) (rest := rest) (ts := ts) (pre := pre ++ textB s) (a := a + (textB s).length) (by rw [hl]; simp) (by rw [ha]; simp) (fun s' h' => hs s' (by simp [h']))
    simp only [List.length_cons, rdMany, h1, h2, strB_bytesOf]
    simp [Nat.add_assoc]

theorem lparts_len : ∀ (m pos : Nat) (r : List UInt8), (∀ p ∈ lparts m pos r, p.err = 0) → r.length ≤ 7 * m
  | 0, pos, r, h => absurd (h ⟨0, pos, 9⟩ (by simp [lparts])) (by simp)
  | m + 1, pos, r, h => by
    unfold lparts at h
    by_cases h1 : r = []
    · subst h1; simp
    rw [if_neg h1] at h
    by_cases h2 : digs r = 0
    · rw [if_pos h2] at h
      exact absurd (show (6 : Int) = 0 from h _ (List.mem_cons_self ..)) (by decide)
    rw [if_neg h2] at h
    by_cases h3 : r.head? = some 48
    · rw [if_pos h3] at h
      exact absurd (show (3 : Int) = 0 from h _ (List.mem_cons_self ..)) (by decide)
    rw [if_neg h3] at h
    by_cases h4 : 6 < digs r
    · rw [if_pos h4] at h
      exact absurd (show (2 : Int) = 0 from h _ (List.mem_cons_self ..)) (by decide)
    rw [if_neg h4] at h
    by_cases h5 : digs r = r.length
    · omega
    rw [if_neg h5] at h
    by_cases h6 : r[digs r]? = some 46
    · rw [if_pos h6] at h
      have := lparts_len m (pos + digs r + 1) (r.drop (digs r + 1)) (fun p hp => h p (List.mem_cons_of_mem _ hp))
      rw [List.length_drop] at this
      omega
    · rw [if_neg h6] at h
      exact absurd (h ⟨0, pos + digs r, 6⟩ (by simp)) (by simp)
theorem valid_len {l : List UInt8} (h : validB l = true) : l.length ≤ 56 := by
  unfold validB at h
  have h := of_decide_eq_true h
  unfold lparse at h
  cases hf : (partsOf l).find? (fun p => decide (p.err ≠ 0)) with
  | some p =>
    rw [hf] at h
    have := List.find?_some hf
    exact absurd h (of_decide_eq_true this)
  | none =>
    by_cases h0 : l = []
    · subst h0; simp
    · have := List.find?_eq_none.1 hf
      unfold partsOf at this
      rw [if_neg h0] at this
      exact lparts_len 8 0 l (fun p hp => by
        have := this p hp
        simpa using this)
theorem valid_size {s : ByteArray} (h : validB (bytesOf s) = true) : s.size ≤ 56 := by rw [← len_bytesOf]; exact valid_len h

theorem rdTm_enc {t : Tm} (h : chkT t = 0) : rdTm (encT t) = (t, (encT t).length, 0) := by
  obtain ⟨h1, h2, h3, h4, h5, h6⟩ := chkT_ok h
  have hv := valid_size h2
  have hln := fun s hs => lineErr_ok (linesErr_ok h4 s hs)
  have ea : rdNum 1073741824 0 0 (encT t) = (t.epoch.toNat, 0 + (natB t.epoch.toNat).length, 0) := rdNum_at (pre := []) (rest := textB t.session ++ (natB t.typed.length ++ (t.typed.flatMap textB ++ textB t.screen))) (by simp [encT]) rfl (by omega) (by omega)
  have eb : rdText 64 (0 + (natB t.epoch.toNat).length) 0 (encT t) = _ := rdText_at (pre := natB t.epoch.toNat) (s := t.session) (rest := natB t.typed.length ++ (t.typed.flatMap textB ++ textB t.screen)) (by simp [encT]) (by simp) (by omega) (by omega)
  have ec : rdNum 16 (0 + (natB t.epoch.toNat).length + (textB t.session).length) 0 (encT t) = _ := rdNum_at (pre := natB t.epoch.toNat ++ textB t.session) (n := t.typed.length) (rest := t.typed.flatMap textB ++ textB t.screen) (by simp [encT]) (by simp) h3 (by omega)
  have ed : rdMany (encT t) t.typed.length (0 + (natB t.epoch.toNat).length + (textB t.session).length + (natB t.typed.length).length) 0 = _ := rdMany_at (pre := natB t.epoch.toNat ++ textB t.session ++ natB t.typed.length) (rest := textB t.screen) (by simp [encT]) (by simp; omega) hln
  have ee : rdText 2048 (0 + (natB t.epoch.toNat).length + (textB t.session).length + (natB t.typed.length).length + (t.typed.flatMap textB).length) 0 (encT t) = _ := rdText_at (pre := natB t.epoch.toNat ++ textB t.session ++ natB t.typed.length ++ t.typed.flatMap textB) (s := t.screen) (rest := []) (by simp [encT]) (by simp; omega) h6 (by omega)
  unfold rdTm
  simp only [ea, eb, ec, ed, ee, strB_bytesOf]
  obtain ⟨t1, t2, t3, t4⟩ := t
  simp only [Prod.mk.injEq, Tm.mk.injEq, and_true] at *
  refine ⟨Int.toNat_of_nonneg h1.1, ?_⟩
  simp [encT]
  omega

theorem decT_enc {t : Tm} (h : chkT t = 0) : decT (bytesOf (strB (encT t))) = (t, 0) := by
  rw [bytesOf_strB]
  unfold decT decOk
  rw [rdTm_enc h]
  simp [h]

theorem chkT_mk {ep : Int} {ss sc : ByteArray} {ls : List ByteArray} (h1 : 0 ≤ ep ∧ ep ≤ 1073741824) (h2 : validB (bytesOf ss) = true) (h3 : ls.length ≤ 16) (h4 : linesErr ls = 0) (h5 : ¬ (ss.size = 0 ∧ 0 < ls.length)) (h6 : sc.size ≤ 2048) : chkT ⟨ep, ss, ls, sc⟩ = 0 := by
  unfold chkT
  simp only
  rw [if_pos h1, if_pos h2, if_neg (by omega), if_pos h4, if_neg h5, if_neg (by omega)]
theorem chkT_of {t : Tm} (h1 : 0 ≤ t.epoch ∧ t.epoch ≤ 1073741824) (h2 : validB (bytesOf t.session) = true) (h3 : t.typed.length ≤ 16) (h4 : linesErr t.typed = 0) (h5 : ¬ (t.session.size = 0 ∧ 0 < t.typed.length)) (h6 : t.screen.size ≤ 2048) : chkT t = 0 := by
  unfold chkT
  rw [if_pos h1, if_pos h2, if_neg (by omega), if_pos h4, if_neg h5, if_neg (by omega)]

theorem valid_es : validB (bytesOf es) = true := by rfl
theorem size_es : es.size = 0 := rfl
theorem scr_size (l : List UInt8) : (strB (scr l)).size ≤ 2048 := by
  rw [strB_size, scr, List.length_drop]; omega
theorem linesErr_snoc : ∀ {l : List ByteArray} {s : ByteArray}, linesErr l = 0 → lineErr s = 0 → linesErr (l ++ [s]) = 0
  | [], s, _, h => by simp [linesErr, h]
  | x :: l, s, h1, h2 => by
    simp only [List.cons_append, linesErr] at h1 ⊢
    split at h1
    · rename_i hx
      rw [if_pos hx]; exact linesErr_snoc h1 h2
    · rename_i hx
      exact absurd h1 hx
theorem linesErr_tail {x : ByteArray} {l : List ByteArray} (h : linesErr (x :: l) = 0) : linesErr l = 0 := by
  simp only [linesErr] at h
  split at h
  · exact h
  · rename_i hx; exact absurd h hx

theorem chk_empty {epoch : Int} (h : 0 ≤ epoch ∧ epoch ≤ 1073741824) : chkT (emptyT epoch) = 0 := chkT_of h valid_es (by simp [emptyT]) rfl (by simp [emptyT]) (by simp [emptyT, size_es])
theorem chk_zero : chkT zeroT = 0 := chkT_of (by simp [zeroT]) valid_es (by simp [zeroT]) rfl (by simp [zeroT]) (by simp [zeroT, size_es])

/-- A method that leaves a checked terminal checked. -/
def Nice (f : Tm → Tm × Int) : Prop := ∀ t, chkT t = 0 → chkT (f t).1 = 0

theorem nice_begin (who : ByteArray) : Nice (beginT who) := by
  intro t h
  obtain ⟨h1, h2, h3, h4, h5, h6⟩ := chkT_ok h
  unfold beginT
  split
  · rename_i hw
    split
    · exact h
    · exact chkT_of h1 hw.1 (by simp) rfl (by simp) (by simp [size_es])
  · exact h
theorem nice_end (who : ByteArray) : Nice (endT who) := by
  intro t h
  obtain ⟨h1, h2, h3, h4, h5, h6⟩ := chkT_ok h
  unfold endT
  split
  · exact chkT_of h1 valid_es (by simp) rfl (by simp) h6
  · exact h
theorem nice_shown (text : ByteArray) : Nice (shownF text) := by
  intro t h
  obtain ⟨h1, h2, h3, h4, h5, h6⟩ := chkT_ok h
  have := chkT_mk (sc := strB (scr (bytesOf t.screen ++ bytesOf text))) h1 h2 h3 h4 h5 (scr_size _)
  unfold shownF shownT
  exact this
theorem nice_typed (text : ByteArray) : Nice (typedT text) := by
  intro t h
  obtain ⟨h1, h2, h3, h4, h5, h6⟩ := chkT_ok h
  unfold typedT
  split
  · rename_i hl
    split
    · exact h
    · rename_i hs
      split
      · exact h
      · have := chkT_mk (sc := strB (scr (bytesOf t.screen ++ bytesOf (text ++ nl)))) h1 h2 (ls := t.typed ++ [text]) (by simp; omega) (linesErr_snoc h4 hl) (fun e => hs e.1) (scr_size _)
        unfold shownT
        exact this
  · exact h
theorem nice_read (who : ByteArray) : Nice (readT who) := by
  intro t h
  obtain ⟨h1, h2, h3, h4, h5, h6⟩ := chkT_ok h
  unfold readT
  split
  · rename_i hw
    split
    · exact h
    · rename_i x l hl
      rw [hl] at h3 h4
      exact chkT_of h1 h2 (by simp at h3 ⊢; omega) (linesErr_tail h4) (fun e => hw.1 e.1) h6
  · exact h

theorem tmOk_chk {t : Tm} (h : chkT t = 0) : TmOk t := by
  obtain ⟨h1, h2, h3, h4, h5, h6⟩ := chkT_ok h
  exact ⟨by have := valid_size h2; omega, fun s hs => by have := lineErr_ok (linesErr_ok h4 s hs); omega, by omega, by omega⟩

theorem flat_len {k : Nat} : ∀ {l : List ByteArray}, (∀ s ∈ l, (textB s).length ≤ k) → (l.flatMap textB).length ≤ l.length * k
  | [], _ => by simp
  | s :: l, h => by
    have := flat_len (l := l) (fun s hs => h s (by simp [hs]))
    have h1 := h s (by simp)
    rw [List.flatMap_cons, List.length_append, List.length_cons, Nat.add_mul]
    omega
theorem encT_len {t : Tm} (h : chkT t = 0) : (encT t).length ≤ 65536 := by
  obtain ⟨h1, h2, h3, h4, h5, h6⟩ := chkT_ok h
  have l1 := natB_len 4 t.epoch.toNat (by rw [show (128 : Nat) ^ (4 + 1) = 34359738368 by decide]; omega)
  have l2 := textB_len (n := 56) (valid_size h2) (by omega)
  have l3 := natB_len 0 t.typed.length (by rw [show (128 : Nat) ^ (0 + 1) = 128 by decide]; omega)
  have l4 := flat_len (k := 1029) (l := t.typed) (fun s hs => textB_len (n := 1024) (lineErr_ok (linesErr_ok h4 s hs)) (by omega))
  have l5 := textB_len (n := 2048) h6 (by omega)
  have l6 : t.typed.length * 1029 ≤ 16 * 1029 := Nat.mul_le_mul_right _ h3
  simp only [encT, List.length_append]
  omega
end Go.Proofs.YtkpmabknjdgkmaaGreatDoor
