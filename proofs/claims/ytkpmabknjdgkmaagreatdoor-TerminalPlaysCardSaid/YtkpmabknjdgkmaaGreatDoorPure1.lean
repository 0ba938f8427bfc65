/- Plain definitions, without the program: what package lineage computes of a text. -/
namespace Go.Proofs.YtkpmabknjdgkmaaGreatDoor

def isDig (c : UInt8) : Bool := 48 ≤ c && c ≤ 57
/-- How many digits stand at the beginning. -/
def digs (l : List UInt8) : Nat := (l.takeWhile isDig).length
/-- The number that digits spell. -/
def numOf (l : List UInt8) : Int := l.foldl (fun n c => 10 * n + ((c.toNat : Int) - 48)) 0

/-- An ordinal of a text, or the offset and the kind of an error. -/
structure LPart where
  ord : Int
  pos : Int
  err : Int

/-- The parts of what is left of a text, 'm' more being permitted; 'pos' is the offset. -/
def lparts : Nat → Nat → List UInt8 → List LPart
  | 0, pos, _ => [⟨0, pos, 9⟩]
  | m + 1, pos, r =>
    if r = [] then [⟨0, pos, 4⟩]
    else if digs r = 0 then [⟨0, pos, 6⟩]
    else if r.head? = some 48 then [⟨0, pos, 3⟩]
    else if 6 < digs r then [⟨0, pos, 2⟩]
    else ⟨numOf (r.take (digs r)), pos, 0⟩ ::
      (if digs r = r.length then [] else if r[digs r]? = some 46 then lparts m (pos + digs r + 1) (r.drop (digs r + 1)) else [⟨0, pos + digs r, 6⟩])

def partsOf (l : List UInt8) : List LPart := if l = [] then [] else lparts 8 0 l

/-- What parse returns. -/
def lparse (l : List UInt8) : List Int × Int × Int :=
  match (partsOf l).find? (fun p => decide (p.err ≠ 0)) with
  | some p => ([], p.pos, p.err)
  | none => ((partsOf l).map (·.ord), 0, 0)

theorem digs_le (l : List UInt8) : digs l ≤ l.length := (List.takeWhile_prefix isDig).length_le

theorem digs_all {l : List UInt8} {k : Nat} (h : k < digs l) : ∃ c, l[k]? = some c ∧ isDig c = true := by
  have hp := List.takeWhile_prefix (l := l) isDig
  obtain ⟨c, hc⟩ : ∃ c, (l.takeWhile isDig)[k]? = some c := ⟨_, List.getElem?_eq_getElem h⟩
  refine ⟨c, ?_, ?_⟩
  · obtain ⟨t, ht⟩ := hp
    rw [← ht, List.getElem?_append_left h]; exact hc
  · have := List.all_takeWhile (l := l) (p := isDig)
    rw [List.all_eq_true] at this
    exact this c (List.mem_of_getElem? hc)

theorem digs_end {l : List UInt8} {c : UInt8} (h : l[digs l]? = some c) : isDig c = false := by
  induction l with
  | nil => simp at h
  | cons a l ih =>
    unfold digs at h ih
    by_cases ha : isDig a = true
    · simp [ha] at h
      exact ih h
    · simp [ha] at h
      subst h
      simpa using ha

/-- Counting: k digits have been seen; the next one is one, or it is not. -/
theorem digs_eq {l : List UInt8} {k : Nat} (h1 : ∀ j, j < k → ∃ c, l[j]? = some c ∧ isDig c = true) (h2 : ∀ c, l[k]? = some c → isDig c = false) : digs l = k := by
  induction k generalizing l with
  | zero =>
    cases l with
    | nil => rfl
    | cons a l => have := h2 a (by simp); simp [digs, this]
  | succ k ih =>
    cases l with
    | nil => obtain ⟨c, hc, _⟩ := h1 0 (by omega); simp at hc
    | cons a l =>
      obtain ⟨c, hc, hd⟩ := h1 0 (by omega)
      simp at hc
      subst hc
      have := ih (l := l) (fun j hj => by have := h1 (j + 1) (by omega); simpa using this) (fun c hc => h2 c (by simpa using hc))
      unfold digs at this ⊢
      simp [hd, this]

theorem numOf_snoc (l : List UInt8) (c : UInt8) : numOf (l ++ [c]) = 10 * numOf l + ((c.toNat : Int) - 48) := by simp [numOf, List.foldl_append]

theorem numOf_go (l : List UInt8) : ∀ n : Int, 0 ≤ n → (∀ c ∈ l, isDig c = true) →
    0 ≤ l.foldl (fun n c => 10 * n + ((c.toNat : Int) - 48)) n ∧ l.foldl (fun n c => 10 * n + ((c.toNat : Int) - 48)) n < (n + 1) * 10 ^ l.length := by
  induction l with
  | nil => intro n hn _; simp; omega
  | cons c l ih =>
    intro n hn h
    have hc := h c (by simp)
    simp only [isDig, Bool.and_eq_true, decide_eq_true_eq, UInt8.le_iff_toNat_le] at hc
    simp at hc
    obtain ⟨h1, h2⟩ := ih (10 * n + ((c.toNat : Int) - 48)) (by omega) (fun d hd => h d (by simp [hd]))
    refine ⟨h1, Int.lt_of_lt_of_le h2 ?_⟩
    rw [List.length_cons, Int.pow_succ, Int.mul_comm (10 ^ l.length) 10, ← Int.mul_assoc]
    exact Int.mul_le_mul_of_nonneg_right (by omega) (Int.le_of_lt (Int.pow_pos (by decide)))
/-- A number of at most n digits. -/
theorem numOf_lt (l : List UInt8) (h : ∀ c ∈ l, isDig c = true) : 0 ≤ numOf l ∧ numOf l < 10 ^ l.length := by
  have := numOf_go l 0 (by omega) h
  simpa [numOf] using this
end Go.Proofs.YtkpmabknjdgkmaaGreatDoor
