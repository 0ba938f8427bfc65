import Derived.Test.YtkpmabknjdgkmaaGreatDoorLin1
import Derived.RangeFuncNested
import Derived.RangeFuncBound
import Derived.RangeFuncCalls
import Derived.RangeFuncLeaves
import Derived.RangeFuncBox
import Derived.Shelf.Abstract
import Derived.Shelf.RegionOpen
import Derived.OwnWalkIn
import Derived.TacticsInMore
import Derived.LoopNIn
import Derived.LoopIn
namespace Go.Proofs.YtkpmabknjdgkmaaGreatDoor
open Go.RowKit Go.Shelf

set_option maxRecDepth 100000 in
set_option maxHeartbeats 400000 in
theorem f215_digits (s : ByteArray) (w : World) (h1 : 1 ≤ s.size) (h2 : s.size ≤ 6) (hd : ∀ j (h : j < s.size), 48 ≤ s[j].toNat ∧ s[j].toNat ≤ 57) :
    Calls Tryz.prog 111 #[.string s] w fun e w' => e = .returned (.tuple #[.int .i64 (numOf s.data.toList), .nilIface]) ∧ Kpt Non w w' := by
  have HD := Lib.hid hd; clear hd
  go_enter Tryz.func111, Tryz.ntmps111
  go_wp2_with (go_at_call 128; refine (f234_digits s _ h1 h2 HD.out).mono ?_; rintro e w1 ⟨rfl, hk⟩)
  go_ret2
  exact ⟨rfl, hk⟩

attribute [local go_sem] Oper.semAt_some

def LPart.val (p : LPart) : Array Value := #[.agg #[.int .i64 p.ord, .int .i64 p.pos, .int .i64 p.err]]

theorem isEmpty_false {s : ByteArray} (h : s.size ≠ 0) : s.toList.isEmpty = false := by
  rw [ByteArray.toList_eq]
  cases hl : s.data.toList with
  | nil => exact absurd (by have := congrArg List.length hl; simpa using this) h
  | cons a b => rfl
theorem isEmpty_true {s : ByteArray} (h : s.size = 0) : s.toList.isEmpty = true := by
  rw [ByteArray.toList_eq, List.isEmpty_iff]
  exact List.eq_nil_of_length_eq_zero (by simpa using h)

/-- What a round keeps: what lay below n₀, every box of a part, every box of a string. -/
structure KpP (n₀ : Nat) (A B : World) : Prop where
  below : Below n₀ A B
  parts : ∀ (i : Nat) (cs : Array Value) (t : TypeId) (fr : Nat × Nat), (t = 138 ∨ t = 9) → A.heap[i]? = some (Obj.cells cs t fr) → B.heap[i]? = some (Obj.cells cs t fr)

theorem KpP.t {n₀ : Nat} {A B C : World} (h : KpP n₀ A B) (k : KpP n₀ B C) : KpP n₀ A C := ⟨h.below.trans k.below, fun i cs t fr ht hi => k.parts i cs t fr ht (h.parts i cs t fr ht hi)⟩
theorem KpP.b {n₀ : Nat} {w : World} (hn : n₀ ≤ w.heap.size) (W : World) (l : Nat) (o o' : Obj) (hl : w.heap.size ≤ l) (h : W.heap[l]? = some o) (hc : o.isCells = false) (hw : o.isWalk = false) : KpP n₀ W (W.putObj l o') :=
  ⟨belowK_b hn W l o o' hl h hc hw, fun i cs t fr _ hi => (World.putObj_heap_other (by rintro rfl; rw [h] at hi; cases hi; cases hc)).trans hi⟩

theorem extract_list (s : ByteArray) (a b : Nat) : (s.extract a b).data.toList = (s.data.toList.drop a).take (b - a) := by
  obtain ⟨⟨l⟩⟩ := s
  have e := ByteArray.extract_mk l a b
  rw [show (ByteArray.mk { toList := l }) = ByteArray.mk l.toArray from rfl, e]

theorem digs_bytes (s : ByteArray) (p j : Nat) (h : ∀ i, i < j → ∃ c, (s.data.toList.drop p)[i]? = some c ∧ isDig c = true) : ∀ i (h : i < (s.extract p (p + j)).size), 48 ≤ (s.extract p (p + j))[i].toNat ∧ (s.extract p (p + j))[i].toNat ≤ 57 := by
  intro i hi
  have hl := getElem_toList (s.extract p (p + j)) i hi
  rw [extract_list, Nat.add_sub_cancel_left, List.getElem?_take] at hl
  have hij : i < j := by simp at hi; omega
  rw [if_pos hij] at hl
  obtain ⟨c, hc, hd⟩ := h i hij
  rw [hl] at hc
  cases hc
  simpa [isDig, UInt8.le_iff_toNat_le] using hd

theorem lparts_pre {m p j : Nat} {r : List UInt8} {num : Int} (pre : List LPart) (h : (r ≠ [] → j ≠ 0 → r.head? ≠ some 48 → ¬ 6 < j → j ≠ r.length → r[j]? = some 46 → lparts (m + 1) p r = ⟨numOf (r.take j), p, 0⟩ :: lparts m (p + j + 1) (r.drop (j + 1))) ∧
    (r ≠ [] → j ≠ 0 → r.head? ≠ some 48 → ¬ 6 < j → j ≠ r.length → r[j]? ≠ some 46 → lparts (m + 1) p r = [⟨numOf (r.take j), p, 0⟩, ⟨0, (p : Int) + j, 6⟩]))
    (h1 : r ≠ []) (h2 : j ≠ 0) (h3 : r.head? ≠ some 48) (h4 : ¬ 6 < j) (h5 : j ≠ r.length) (hn : num = numOf (r.take j)) : pre ++ [⟨num, p, 0⟩] <+: pre ++ lparts (m + 1) p r := by
  subst hn
  by_cases h6 : r[j]? = some 46
  · rw [h.1 h1 h2 h3 h4 h5 h6]; exact ⟨lparts m (p + j + 1) (r.drop (j + 1)), by simp⟩
  · rw [h.2 h1 h2 h3 h4 h5 h6]; exact ⟨[⟨0, (p : Int) + j, 6⟩], by simp⟩

theorem grownBy_of_kpt {w w' : World} (h : Kpt Non w w') : w.grownBy w' none := ⟨h.os, h.tape, h.output, h.size, fun i hi _ => h.block i hi (fun e => e)⟩

theorem lparts_cases {m p : Nat} {r : List UInt8} {j : Nat} (hd : digs r = j) :
    (r = [] → lparts (m + 1) p r = [⟨0, p, 4⟩]) ∧ (r ≠ [] → j = 0 → lparts (m + 1) p r = [⟨0, p, 6⟩]) ∧ (r ≠ [] → j ≠ 0 → r.head? = some 48 → lparts (m + 1) p r = [⟨0, p, 3⟩]) ∧
    (r ≠ [] → j ≠ 0 → r.head? ≠ some 48 → 6 < j → lparts (m + 1) p r = [⟨0, p, 2⟩]) ∧
    (r ≠ [] → j ≠ 0 → r.head? ≠ some 48 → ¬ 6 < j → j = r.length → lparts (m + 1) p r = [⟨numOf (r.take j), p, 0⟩]) ∧
    (r ≠ [] → j ≠ 0 → r.head? ≠ some 48 → ¬ 6 < j → j ≠ r.length → r[j]? = some 46 → lparts (m + 1) p r = ⟨numOf (r.take j), p, 0⟩ :: lparts m (p + j + 1) (r.drop (j + 1))) ∧
    (r ≠ [] → j ≠ 0 → r.head? ≠ some 48 → ¬ 6 < j → j ≠ r.length → r[j]? ≠ some 46 → lparts (m + 1) p r = [⟨numOf (r.take j), p, 0⟩, ⟨0, (p : Int) + j, 6⟩]) := by
  subst hd
  refine ⟨fun h => ?_, fun h1 h2 => ?_, fun h1 h2 h3 => ?_, fun h1 h2 h3 h4 => ?_, fun h1 h2 h3 h4 h5 => ?_, fun h1 h2 h3 h4 h5 h6 => ?_, fun h1 h2 h3 h4 h5 h6 => ?_⟩ <;> rw [lparts]
  · rw [if_pos h]
  · rw [if_neg h1, if_pos h2]
  · rw [if_neg h1, if_neg h2, if_pos h3]
  · rw [if_neg h1, if_neg h2, if_neg h3, if_pos h4]
  · rw [if_neg h1, if_neg h2, if_neg h3, if_neg h4, if_pos h5]
  · rw [if_neg h1, if_neg h2, if_neg h3, if_neg h4, if_neg h5, if_pos h6]
  · rw [if_neg h1, if_neg h2, if_neg h3, if_neg h4, if_neg h5, if_neg h6]

set_option maxRecDepth 100000 in
set_option maxHeartbeats 4000000 in
theorem f214_in (n l Bn n₀ : Nat) (hn : 3 ≤ n) (s : ByteArray) (hs : s.size ≤ 140737488351232) (J Jx : List LPart → World → Prop) (W : World) (hJ : AbidesFrom W.heap.size J)
    (hY : ∀ pre x W, J pre W → pre.length < 10 → YieldAt Fence.wide (n - 1) Tryz.prog l (LPart.val x) W fun e W' =>
      (e = .returned (.bool true) ∧ J (pre ++ [x]) W' ∧ KpP n₀ W W') ∨ (e = .returned (.bool false) ∧ Jx (pre ++ [x]) W'))
    (hBk : Blk W Bn 9 #[.string s]) (h0 : J [] W) :
    CallsIn Fence.wide n Tryz.prog 110 #[.func (.yield l) #[] #[], .pointer (some ⟨Bn, 0, none⟩)] W fun e W' => (∃ v, e = .returned v) ∧
      ((∃ ys, ys = partsOf s.data.toList ∧ J ys W') ∨ (∃ pre, pre <+: partsOf s.data.toList ∧ Jx pre W')) := by
  have HJ := Lib.hid hJ; clear hJ
  have hBn : W.cell? ⟨Bn, 0, none⟩ = some (.string s) := hBk.cell 0
  have HBk0 := Lib.hid hBk; clear hBk
  have HY := Lib.hid hY; clear hY
  refine callsIn_of_wp Tryz.func110 rfl trivial ?_ rfl
  simp only [Tryz.ntmps110, List.size_toArray, List.length_cons, List.length_nil, Nat.reduceAdd, Nat.reduceSub, Array.replicate_succ, Array.replicate_zero, List.push_toArray, List.append_toArray, List.nil_append, List.cons_append]
  by_cases hs0 : s.size = 0
  · have e1 := isEmpty_true hs0
    have HP := Lib.hid (show partsOf s.data.toList = [] by unfold partsOf; rw [if_pos]; exact List.eq_nil_of_length_eq_zero (by simpa using hs0))
    clear hs0
    gi_wp2
    gi_loopw [3, 4] (fun a m wr => a = .int .i64 0 ∧ m = .int .i64 0 ∧ W = wr) (fun _ _ _ => 0)
    case atStart => exact ⟨rfl, rfl, rfl⟩
    case round =>
      obtain ⟨rfl, rfl, rfl⟩ := hrel
      gi_wp2
      go_end0
      exact ⟨⟨_, rfl⟩, .inl ⟨[], HP.out.symm, h0⟩⟩
  · have e1 := isEmpty_false hs0
    have HP := Lib.hid (show partsOf s.data.toList = lparts 8 0 s.data.toList by unfold partsOf; rw [if_neg (fun e => hs0 (by have := congrArg List.length e; simpa using this))])
    gi_wp2
    gi_loopw [3, 4] (fun a m wr => ∃ (k p : Nat) (pre : List LPart), a = .int .i64 p ∧ m = .int .i64 k ∧ k ≤ 8 ∧ p ≤ s.size ∧ Hid (partsOf s.data.toList = pre ++ lparts (8 - k) p (s.data.toList.drop p)) ∧ Hid (pre.length = k) ∧ Hid (J pre wr) ∧ Hid (Blk wr Bn 9 #[.string s]))
      (fun _ m _ => 9 - (intOf m).toNat)
    case atStart => exact ⟨0, 0, [], rfl, rfl, by omega, by omega, Lib.hid (by simpa using HP.out), Lib.hid rfl, Lib.hid h0, HBk0⟩
    case round =>
      obtain ⟨k, p, pre, rfl, rfl, hk, hp, HE, HL, HJs, HBk⟩ := hrel
      have hBr : wr.cell? ⟨Bn, 0, none⟩ = some (.string s) := HBk.out.cell 0
      have hBa := cell_alloc_ hBr
      gi_wp2
      gi_loop [6] (fun d => ∃ j : Nat, d = .int .i64 j ∧ p + j ≤ s.size ∧ Hid (∀ i, i < j → ∃ c, (s.data.toList.drop p)[i]? = some c ∧ isDig c = true)) (fun d => s.size - (intOf d).toNat)
      case atStart => exact ⟨0, rfl, by omega, Lib.hid (fun i hi => absurd hi (by omega))⟩
      case round =>
        obtain ⟨j, rfl, hj, HD⟩ := hrel
        by_cases hin : p + j < s.size ∧ isDig (s.data.toList[p + j]?.getD 0) = true
        · obtain ⟨hin, hdg⟩ := hin
          have hd : 48 ≤ s[p + j].toNat ∧ s[p + j].toNat ≤ 57 := by
            rw [getElem_toList s _ hin] at hdg
            simpa [isDig, UInt8.le_iff_toNat_le] using hdg
          have HD' := Lib.hid hdg
          clear hdg
          gi_wp2
          refine ⟨⟨j + 1, by go_num, by omega, Lib.hid (fun i hi => ?_)⟩, by simp [intOf]; omega⟩
          by_cases hij : i = j
          · subst hij
            exact ⟨s[p + i], by rw [List.getElem?_drop, getElem_toList s _ hin], by have := HD'.out; rw [getElem_toList s _ hin] at this; exact this⟩
          · exact HD.out i (by omega)
        · have HJ' := Lib.hid (show digs (s.data.toList.drop p) = j from digs_eq HD.out (fun c hc => by
            rw [List.getElem?_drop] at hc
            have hlt' : p + j < s.size := by have := (List.getElem?_eq_some_iff.1 hc).1; simpa using this
            have : ¬ isDig (s.data.toList[p + j]?.getD 0) = true := fun e => hin ⟨hlt', e⟩
            rw [hc] at this
            simpa using this))
          have hq : s.size ≤ p + j ∨ ∃ h : p + j < s.size, s[p + j].toNat < 48 ∨ 57 < s[p + j].toNat := by
            rcases Nat.lt_or_ge (p + j) s.size with h | h
            · right
              refine ⟨h, ?_⟩
              have : ¬ isDig (s.data.toList[p + j]?.getD 0) = true := fun e => hin ⟨h, e⟩
              rw [getElem_toList s _ h] at this
              simp only [Option.getD_some, isDig, Bool.and_eq_true, decide_eq_true_eq, UInt8.le_iff_toNat_le] at this
              simp at this
              omega
            · left; omega
          have HC := Lib.hid (lparts_cases (m := 7 - k) (p := p) HJ'.out)
          have hsz : (s.data.toList.drop p).length = s.size - p := by simp
          have yl : ∀ o e : Int, YieldAt Fence.wide (n - 1) Tryz.prog l #[.agg #[.int .i64 o, .int .i64 p, .int .i64 e]] (wr.alloc (.cells #[.int .i64 o, .int .i64 p, .int .i64 e] 138)) fun e' W' =>
              (e' = .returned (.bool true) ∧ J (pre ++ [⟨o, p, e⟩]) W' ∧ KpP n₀ (wr.alloc (.cells #[.int .i64 o, .int .i64 p, .int .i64 e] 138)) W') ∨ (e' = .returned (.bool false) ∧ Jx (pre ++ [⟨o, p, e⟩]) W') :=
            fun o e => HY.out pre ⟨o, p, e⟩ _ (HJ.out pre _ _ none HJs.out (World.grownBy_alloc _ _ _) (by simp)) (by rw [HL.out]; omega)
          clear hin
          rcases hq with hq | ⟨hq1, hq2 | hq2⟩
          · by_cases hk8 : k = 8
            · subst hk8
              obtain ⟨fn, tmps, assign, body, hy, hR⟩ := yl 0 9
              gi_wp2
              refine ⟨fun _ => by omega, hR.mono ?_⟩
              rintro e W3 (⟨rfl, hJ3, hk3⟩ | ⟨rfl, hJx3⟩)
              · have hp2 : W3.cell? ⟨wr.heap.size, 2, none⟩ = some (.int .i64 9) := by
                  have := hk3.parts _ _ _ _ (.inl rfl) (heap_alloc_new wr (.cells #[.int .i64 0, .int .i64 p, .int .i64 9] 138))
                  simp [World.cell?, this]
                gi_wp2
                refine bodyPost_ret (results_none rfl _ _ _) rfl ?_
                exact ⟨⟨_, rfl⟩, .inl ⟨_, by rw [HE.out]; rfl, hJ3⟩⟩
              · gi_wp2
                refine bodyPost_ret (results_none rfl _ _ _) rfl ?_
                exact ⟨⟨_, rfl⟩, .inr ⟨_, ⟨[], by rw [HE.out, List.append_nil]; rfl⟩, hJx3⟩⟩
            · have h8 : 8 - k = (7 - k) + 1 := by omega
              have H8 := Lib.hid h8; clear h8
              have hkk : ((k : Int) == 8) = false := by rw [beq_eq_false_iff_ne]; omega
              by_cases hps : p = s.size
              · have HL0 := Lib.hid (HC.out.1 (List.eq_nil_of_length_eq_zero (by omega)))
                have h4 : ((p : Int) == (s.size : Int)) = true := by rw [beq_iff_eq]; omega
                clear hps
                obtain ⟨fn, tmps, assign, body, hy, hR⟩ := yl 0 4
                gi_wp2
                refine ⟨fun _ => by omega, hR.mono ?_⟩
                rintro e W3 (⟨rfl, hJ3, hk3⟩ | ⟨rfl, hJx3⟩)
                · have hp2 : W3.cell? ⟨wr.heap.size, 2, none⟩ = some (.int .i64 4) := by
                    have := hk3.parts _ _ _ _ (.inl rfl) (heap_alloc_new wr (.cells #[.int .i64 0, .int .i64 p, .int .i64 4] 138))
                    simp [World.cell?, this]
                  gi_wp2
                  refine bodyPost_ret (results_none rfl _ _ _) rfl ?_
                  exact ⟨⟨_, rfl⟩, .inl ⟨_, by rw [HE.out, H8.out, HL0.out], hJ3⟩⟩
                · gi_wp2
                  refine bodyPost_ret (results_none rfl _ _ _) rfl ?_
                  exact ⟨⟨_, rfl⟩, .inr ⟨_, ⟨[], by rw [HE.out, H8.out, HL0.out, List.append_nil]⟩, hJx3⟩⟩
              · have hr : s.data.toList.drop p ≠ [] := by intro e; rw [e] at hsz; simp at hsz; omega
                have h4 : ((p : Int) == (s.size : Int)) = false := by rw [beq_eq_false_iff_ne]; omega
                have hpl : p < s.size := by omega
                have HR := Lib.hid hr; clear hr hps
                by_cases hj0 : j = 0
                · have HL0 := Lib.hid (HC.out.2.1 HR.out hj0)
                  have h6 : ((j : Int) == 0) = true := by rw [beq_iff_eq]; omega
                  clear hj0
                  obtain ⟨fn, tmps, assign, body, hy, hR⟩ := yl 0 6
                  gi_wp2
                  refine ⟨fun _ => by omega, hR.mono ?_⟩
                  rintro e W3 (⟨rfl, hJ3, hk3⟩ | ⟨rfl, hJx3⟩)
                  · have hp2 : W3.cell? ⟨wr.heap.size, 2, none⟩ = some (.int .i64 6) := by
                      have := hk3.parts _ _ _ _ (.inl rfl) (heap_alloc_new wr (.cells #[.int .i64 0, .int .i64 p, .int .i64 6] 138))
                      simp [World.cell?, this]
                    gi_wp2
                    refine bodyPost_ret (results_none rfl _ _ _) rfl ?_
                    exact ⟨⟨_, rfl⟩, .inl ⟨_, by rw [HE.out, H8.out, HL0.out], hJ3⟩⟩
                  · gi_wp2
                    refine bodyPost_ret (results_none rfl _ _ _) rfl ?_
                    exact ⟨⟨_, rfl⟩, .inr ⟨_, ⟨[], by rw [HE.out, H8.out, HL0.out, List.append_nil]⟩, hJx3⟩⟩
                · have h6 : ((j : Int) == 0) = false := by rw [beq_eq_false_iff_ne]; omega
                  have HJ0 := Lib.hid hj0
                  have hj1 : 0 < j := by omega
                  clear hj0
                  have HH := Lib.hid (show (s.data.toList.drop p).head? = some s[p] by rw [List.head?_drop, getElem_toList s p hpl])
                  by_cases h0 : s[p].toNat = 48
                  · have HL0 := Lib.hid (HC.out.2.2.1 HR.out HJ0.out (by rw [HH.out]; congr 1; exact UInt8.toNat_inj.1 h0))
                    have h3 : ((s[p].toNat : Int) == 48) = true := by rw [beq_iff_eq]; omega
                    clear h0
                    obtain ⟨fn, tmps, assign, body, hy, hR⟩ := yl 0 3
                    gi_wp2
                    refine ⟨fun _ => by omega, hR.mono ?_⟩
                    rintro e W3 (⟨rfl, hJ3, hk3⟩ | ⟨rfl, hJx3⟩)
                    · have hp2 : W3.cell? ⟨wr.heap.size, 2, none⟩ = some (.int .i64 3) := by
                        have := hk3.parts _ _ _ _ (.inl rfl) (heap_alloc_new wr (.cells #[.int .i64 0, .int .i64 p, .int .i64 3] 138))
                        simp [World.cell?, this]
                      gi_wp2
                      refine bodyPost_ret (results_none rfl _ _ _) rfl ?_
                      exact ⟨⟨_, rfl⟩, .inl ⟨_, by rw [HE.out, H8.out, HL0.out], hJ3⟩⟩
                    · gi_wp2
                      refine bodyPost_ret (results_none rfl _ _ _) rfl ?_
                      exact ⟨⟨_, rfl⟩, .inr ⟨_, ⟨[], by rw [HE.out, H8.out, HL0.out, List.append_nil]⟩, hJx3⟩⟩
                  · have HH0 := Lib.hid (show (s.data.toList.drop p).head? ≠ some 48 by rw [HH.out]; intro e; apply h0; have := Option.some.inj e; rw [this]; rfl)
                    have h3 : ((s[p].toNat : Int) == 48) = false := by rw [beq_eq_false_iff_ne]; omega
                    clear h0
                    by_cases hj6 : 6 < j
                    · have HL0 := Lib.hid (HC.out.2.2.2.1 HR.out HJ0.out HH0.out hj6)
                      obtain ⟨fn, tmps, assign, body, hy, hR⟩ := yl 0 2
                      gi_wp2
                      refine ⟨fun _ => by omega, hR.mono ?_⟩
                      rintro e W3 (⟨rfl, hJ3, hk3⟩ | ⟨rfl, hJx3⟩)
                      · have hp2 : W3.cell? ⟨wr.heap.size, 2, none⟩ = some (.int .i64 2) := by
                          have := hk3.parts _ _ _ _ (.inl rfl) (heap_alloc_new wr (.cells #[.int .i64 0, .int .i64 p, .int .i64 2] 138))
                          simp [World.cell?, this]
                        gi_wp2
                        refine bodyPost_ret (results_none rfl _ _ _) rfl ?_
                        exact ⟨⟨_, rfl⟩, .inl ⟨_, by rw [HE.out, H8.out, HL0.out], hJ3⟩⟩
                      · gi_wp2
                        refine bodyPost_ret (results_none rfl _ _ _) rfl ?_
                        exact ⟨⟨_, rfl⟩, .inr ⟨_, ⟨[], by rw [HE.out, H8.out, HL0.out, List.append_nil]⟩, hJx3⟩⟩
                    · have hj6' : j ≤ 6 := by omega
                      have HDD := Lib.hid (digs_bytes s p j HD.out)
                      have HC2 := Lib.hid HC.out.2.2.2.2; clear HC yl
                      clear hj6
                      have hdig : ∀ i (h : i < (s.extract p (p + j)).size), 48 ≤ (s.extract p (p + j))[i].toNat ∧ (s.extract p (p + j))[i].toNat ≤ 57 := fun i h => HDD.out i h
                      have HNum := Lib.hid (show (s.extract p (p + j)).data.toList = (s.data.toList.drop p).take j by rw [extract_list, Nat.add_sub_cancel_left])
                      have hesz : (s.extract p (p + j)).size = j := by simp; omega
                      have HX := Lib.hid (f215_digits (s.extract p (p + j)) (wr.alloc (.cells #[.int .i64 0, .int .i64 p, .int .i64 0] 138)) (by rw [hesz]; omega) (by rw [hesz]; omega) hdig)
                      rw [HNum.out] at HX
                      clear hdig hesz
                      obtain ⟨num, hnum⟩ : ∃ num, num = numOf ((s.data.toList.drop p).take j) := ⟨_, rfl⟩
                      rw [← hnum] at HX
                      have HM := Lib.hid hnum; clear hnum
                      gi_wp2_with (refine ⟨trivial, fun _ => by omega, ?_⟩; gi_at_call 111; refine (callsIn_wide.2 HX.out).mono ?_; rintro e w2 ⟨rfl, hk2⟩; have hb2 := hk2.heap (heap_alloc_new wr (.cells #[.int .i64 0, .int .i64 p, .int .i64 0] 138)) (fun e => e); have hc0 := Blk.cell (w := w2) hb2 0; have hc1 := Blk.cell (w := w2) hb2 1; have hc2 := Blk.cell (w := w2) hb2 2; have hf0 := Blk.frozen (w := w2) hb2 0; simp only [List.getElem?_toArray, List.getElem?_cons_zero, List.getElem?_cons_succ] at hc0 hc1 hc2; have HB2 := Lib.hid (Blk.set_ (w := w2) hb2 0 (.int .i64 num)); have HK2 := Lib.hid hk2; clear hk2 hb2; obtain ⟨fn, tmps, assign, body, hy, hR⟩ := HY.out pre ⟨num, p, 0⟩ (w2.setCell ⟨wr.heap.size, 0, none⟩ (.int .i64 num)) (HJ.out pre _ _ none HJs.out (grownBy_of_kpt ((((Kpt.refl Non wr).alloc _).trans HK2.out (fun _ e _ => e)).setCell (p := ⟨wr.heap.size, 0, none⟩) (fun h => absurd h (by simp)) _)) (by simp)) (by rw [HL.out]; omega); dsimp only [LPart.val] at hy)
                      refine ⟨fun _ => by omega, hR.mono ?_⟩
                      rintro e W3 (⟨rfl, hJ3, hk3⟩ | ⟨rfl, hJx3⟩)
                      · have hp2 : W3.cell? ⟨wr.heap.size, 2, none⟩ = some (.int .i64 0) := by
                          have := hk3.parts _ _ _ _ (.inl rfl) HB2.out
                          simp [World.cell?, this]
                        have hB3 : Blk W3 Bn 9 #[.string s] := hk3.parts _ _ _ _ (.inr rfl) (((HBk.out.alloc _).kpt HK2.out (fun e => e)).far (p := ⟨wr.heap.size, 0, none⟩) (by have := HBk.out.lt; simp; omega) _)
                        have hs3 : W3.cell? ⟨Bn, 0, none⟩ = some (.string s) := hB3.cell 0
                        have HB3 := Lib.hid hB3; clear hB3
                        gi_wp2
                        refine bodyPost_ret (results_none rfl _ _ _) rfl ?_
                        exact ⟨⟨_, rfl⟩, .inl ⟨_, by rw [HE.out, H8.out, HC2.out.1 HR.out HJ0.out HH0.out (by omega) (by omega), ← HM.out], hJ3⟩⟩
                      · gi_wp2
                        refine bodyPost_ret (results_none rfl _ _ _) rfl ?_
                        exact ⟨⟨_, rfl⟩, .inr ⟨_, ⟨[], by rw [HE.out, H8.out, HC2.out.1 HR.out HJ0.out HH0.out (by omega) (by omega), ← HM.out, List.append_nil]⟩, hJx3⟩⟩
          · by_cases hk8 : k = 8
            · subst hk8
              obtain ⟨fn, tmps, assign, body, hy, hR⟩ := yl 0 9
              gi_wp2
              refine ⟨fun _ => by omega, hR.mono ?_⟩
              rintro e W3 (⟨rfl, hJ3, hk3⟩ | ⟨rfl, hJx3⟩)
              · have hp2 : W3.cell? ⟨wr.heap.size, 2, none⟩ = some (.int .i64 9) := by
                  have := hk3.parts _ _ _ _ (.inl rfl) (heap_alloc_new wr (.cells #[.int .i64 0, .int .i64 p, .int .i64 9] 138))
                  simp [World.cell?, this]
                gi_wp2
                refine bodyPost_ret (results_none rfl _ _ _) rfl ?_
                exact ⟨⟨_, rfl⟩, .inl ⟨_, by rw [HE.out]; rfl, hJ3⟩⟩
              · gi_wp2
                refine bodyPost_ret (results_none rfl _ _ _) rfl ?_
                exact ⟨⟨_, rfl⟩, .inr ⟨_, ⟨[], by rw [HE.out, List.append_nil]; rfl⟩, hJx3⟩⟩
            · have h8 : 8 - k = (7 - k) + 1 := by omega
              have H8 := Lib.hid h8; clear h8
              have hkk : ((k : Int) == 8) = false := by rw [beq_eq_false_iff_ne]; omega
              by_cases hps : p = s.size
              · have HL0 := Lib.hid (HC.out.1 (List.eq_nil_of_length_eq_zero (by omega)))
                have h4 : ((p : Int) == (s.size : Int)) = true := by rw [beq_iff_eq]; omega
                clear hps
                obtain ⟨fn, tmps, assign, body, hy, hR⟩ := yl 0 4
                gi_wp2
                refine ⟨fun _ => by omega, hR.mono ?_⟩
                rintro e W3 (⟨rfl, hJ3, hk3⟩ | ⟨rfl, hJx3⟩)
                · have hp2 : W3.cell? ⟨wr.heap.size, 2, none⟩ = some (.int .i64 4) := by
                    have := hk3.parts _ _ _ _ (.inl rfl) (heap_alloc_new wr (.cells #[.int .i64 0, .int .i64 p, .int .i64 4] 138))
                    simp [World.cell?, this]
                  gi_wp2
                  refine bodyPost_ret (results_none rfl _ _ _) rfl ?_
                  exact ⟨⟨_, rfl⟩, .inl ⟨_, by rw [HE.out, H8.out, HL0.out], hJ3⟩⟩
                · gi_wp2
                  refine bodyPost_ret (results_none rfl _ _ _) rfl ?_
                  exact ⟨⟨_, rfl⟩, .inr ⟨_, ⟨[], by rw [HE.out, H8.out, HL0.out, List.append_nil]⟩, hJx3⟩⟩
              · have hr : s.data.toList.drop p ≠ [] := by intro e; rw [e] at hsz; simp at hsz; omega
                have h4 : ((p : Int) == (s.size : Int)) = false := by rw [beq_eq_false_iff_ne]; omega
                have hpl : p < s.size := by omega
                have HR := Lib.hid hr; clear hr hps
                by_cases hj0 : j = 0
                · have HL0 := Lib.hid (HC.out.2.1 HR.out hj0)
                  have h6 : ((j : Int) == 0) = true := by rw [beq_iff_eq]; omega
                  clear hj0
                  obtain ⟨fn, tmps, assign, body, hy, hR⟩ := yl 0 6
                  gi_wp2
                  refine ⟨fun _ => by omega, hR.mono ?_⟩
                  rintro e W3 (⟨rfl, hJ3, hk3⟩ | ⟨rfl, hJx3⟩)
                  · have hp2 : W3.cell? ⟨wr.heap.size, 2, none⟩ = some (.int .i64 6) := by
                      have := hk3.parts _ _ _ _ (.inl rfl) (heap_alloc_new wr (.cells #[.int .i64 0, .int .i64 p, .int .i64 6] 138))
                      simp [World.cell?, this]
                    gi_wp2
                    refine bodyPost_ret (results_none rfl _ _ _) rfl ?_
                    exact ⟨⟨_, rfl⟩, .inl ⟨_, by rw [HE.out, H8.out, HL0.out], hJ3⟩⟩
                  · gi_wp2
                    refine bodyPost_ret (results_none rfl _ _ _) rfl ?_
                    exact ⟨⟨_, rfl⟩, .inr ⟨_, ⟨[], by rw [HE.out, H8.out, HL0.out, List.append_nil]⟩, hJx3⟩⟩
                · have h6 : ((j : Int) == 0) = false := by rw [beq_eq_false_iff_ne]; omega
                  have HJ0 := Lib.hid hj0
                  have hj1 : 0 < j := by omega
                  clear hj0
                  have HH := Lib.hid (show (s.data.toList.drop p).head? = some s[p] by rw [List.head?_drop, getElem_toList s p hpl])
                  by_cases h0 : s[p].toNat = 48
                  · have HL0 := Lib.hid (HC.out.2.2.1 HR.out HJ0.out (by rw [HH.out]; congr 1; exact UInt8.toNat_inj.1 h0))
                    have h3 : ((s[p].toNat : Int) == 48) = true := by rw [beq_iff_eq]; omega
                    clear h0
                    obtain ⟨fn, tmps, assign, body, hy, hR⟩ := yl 0 3
                    gi_wp2
                    refine ⟨fun _ => by omega, hR.mono ?_⟩
                    rintro e W3 (⟨rfl, hJ3, hk3⟩ | ⟨rfl, hJx3⟩)
                    · have hp2 : W3.cell? ⟨wr.heap.size, 2, none⟩ = some (.int .i64 3) := by
                        have := hk3.parts _ _ _ _ (.inl rfl) (heap_alloc_new wr (.cells #[.int .i64 0, .int .i64 p, .int .i64 3] 138))
                        simp [World.cell?, this]
                      gi_wp2
                      refine bodyPost_ret (results_none rfl _ _ _) rfl ?_
                      exact ⟨⟨_, rfl⟩, .inl ⟨_, by rw [HE.out, H8.out, HL0.out], hJ3⟩⟩
                    · gi_wp2
                      refine bodyPost_ret (results_none rfl _ _ _) rfl ?_
                      exact ⟨⟨_, rfl⟩, .inr ⟨_, ⟨[], by rw [HE.out, H8.out, HL0.out, List.append_nil]⟩, hJx3⟩⟩
                  · have HH0 := Lib.hid (show (s.data.toList.drop p).head? ≠ some 48 by rw [HH.out]; intro e; apply h0; have := Option.some.inj e; rw [this]; rfl)
                    have h3 : ((s[p].toNat : Int) == 48) = false := by rw [beq_eq_false_iff_ne]; omega
                    clear h0
                    by_cases hj6 : 6 < j
                    · have HL0 := Lib.hid (HC.out.2.2.2.1 HR.out HJ0.out HH0.out hj6)
                      obtain ⟨fn, tmps, assign, body, hy, hR⟩ := yl 0 2
                      gi_wp2
                      refine ⟨fun _ => by omega, hR.mono ?_⟩
                      rintro e W3 (⟨rfl, hJ3, hk3⟩ | ⟨rfl, hJx3⟩)
                      · have hp2 : W3.cell? ⟨wr.heap.size, 2, none⟩ = some (.int .i64 2) := by
                          have := hk3.parts _ _ _ _ (.inl rfl) (heap_alloc_new wr (.cells #[.int .i64 0, .int .i64 p, .int .i64 2] 138))
                          simp [World.cell?, this]
                        gi_wp2
                        refine bodyPost_ret (results_none rfl _ _ _) rfl ?_
                        exact ⟨⟨_, rfl⟩, .inl ⟨_, by rw [HE.out, H8.out, HL0.out], hJ3⟩⟩
                      · gi_wp2
                        refine bodyPost_ret (results_none rfl _ _ _) rfl ?_
                        exact ⟨⟨_, rfl⟩, .inr ⟨_, ⟨[], by rw [HE.out, H8.out, HL0.out, List.append_nil]⟩, hJx3⟩⟩
                    · have hj6' : j ≤ 6 := by omega
                      have HDD := Lib.hid (digs_bytes s p j HD.out)
                      have HC2 := Lib.hid HC.out.2.2.2.2; clear HC yl
                      clear hj6
                      have hdig : ∀ i (h : i < (s.extract p (p + j)).size), 48 ≤ (s.extract p (p + j))[i].toNat ∧ (s.extract p (p + j))[i].toNat ≤ 57 := fun i h => HDD.out i h
                      have HNum := Lib.hid (show (s.extract p (p + j)).data.toList = (s.data.toList.drop p).take j by rw [extract_list, Nat.add_sub_cancel_left])
                      have hesz : (s.extract p (p + j)).size = j := by simp; omega
                      have HX := Lib.hid (f215_digits (s.extract p (p + j)) (wr.alloc (.cells #[.int .i64 0, .int .i64 p, .int .i64 0] 138)) (by rw [hesz]; omega) (by rw [hesz]; omega) hdig)
                      rw [HNum.out] at HX
                      clear hdig hesz
                      obtain ⟨num, hnum⟩ : ∃ num, num = numOf ((s.data.toList.drop p).take j) := ⟨_, rfl⟩
                      rw [← hnum] at HX
                      have HM := Lib.hid hnum; clear hnum
                      gi_wp2_with (refine ⟨trivial, fun _ => by omega, ?_⟩; gi_at_call 111; refine (callsIn_wide.2 HX.out).mono ?_; rintro e w2 ⟨rfl, hk2⟩; have hb2 := hk2.heap (heap_alloc_new wr (.cells #[.int .i64 0, .int .i64 p, .int .i64 0] 138)) (fun e => e); have hc0 := Blk.cell (w := w2) hb2 0; have hc1 := Blk.cell (w := w2) hb2 1; have hc2 := Blk.cell (w := w2) hb2 2; have hf0 := Blk.frozen (w := w2) hb2 0; simp only [List.getElem?_toArray, List.getElem?_cons_zero, List.getElem?_cons_succ] at hc0 hc1 hc2; have HB2 := Lib.hid (Blk.set_ (w := w2) hb2 0 (.int .i64 num)); have HK2 := Lib.hid hk2; clear hk2 hb2; obtain ⟨fn, tmps, assign, body, hy, hR⟩ := HY.out pre ⟨num, p, 0⟩ (w2.setCell ⟨wr.heap.size, 0, none⟩ (.int .i64 num)) (HJ.out pre _ _ none HJs.out (grownBy_of_kpt ((((Kpt.refl Non wr).alloc _).trans HK2.out (fun _ e _ => e)).setCell (p := ⟨wr.heap.size, 0, none⟩) (fun h => absurd h (by simp)) _)) (by simp)) (by rw [HL.out]; omega); dsimp only [LPart.val] at hy)
                      refine ⟨fun _ => by omega, hR.mono ?_⟩
                      rintro e W3 (⟨rfl, hJ3, hk3⟩ | ⟨rfl, hJx3⟩)
                      · have hp2 : W3.cell? ⟨wr.heap.size, 2, none⟩ = some (.int .i64 0) := by
                          have := hk3.parts _ _ _ _ (.inl rfl) HB2.out
                          simp [World.cell?, this]
                        have hB3 : Blk W3 Bn 9 #[.string s] := hk3.parts _ _ _ _ (.inr rfl) (((HBk.out.alloc _).kpt HK2.out (fun e => e)).far (p := ⟨wr.heap.size, 0, none⟩) (by have := HBk.out.lt; simp; omega) _)
                        have hs3 : W3.cell? ⟨Bn, 0, none⟩ = some (.string s) := hB3.cell 0
                        have HB3 := Lib.hid hB3; clear hB3
                        have HS := Lib.hid (show (s.data.toList.drop p)[j]? = some s[p + j] by rw [List.getElem?_drop, getElem_toList s _ hq1])
                        by_cases h46 : s[p + j].toNat = 46
                        · have ht : ((s[p + j].toNat : Int) == 46) = true := by rw [beq_iff_eq]; omega
                          have HE2 := Lib.hid (show partsOf s.data.toList = (pre ++ [⟨num, p, 0⟩]) ++ lparts (8 - (k + 1)) (p + j + 1) (s.data.toList.drop (p + j + 1)) by
                            rw [HE.out, H8.out, HC2.out.2.1 HR.out HJ0.out HH0.out (by omega) (by omega) (by rw [HS.out]; congr 1; exact UInt8.toNat_inj.1 h46), ← HM.out, List.drop_drop, show 7 - k = 8 - (k + 1) from by omega, show p + (j + 1) = p + j + 1 from by omega, List.append_assoc]; rfl)
                          clear h46
                          gi_wp2
                          go_roundw
                          case rel => exact ⟨k + 1, p + j + 1, _, by go_num, by go_num, by omega, by omega, HE2, Lib.hid (by rw [List.length_append, HL.out]; rfl), Lib.hid hJ3, HB3⟩
                          case measure => simp [intOf]; omega
                        · have ht : ((s[p + j].toNat : Int) == 46) = false := by rw [beq_eq_false_iff_ne]; omega
                          have HE2 := Lib.hid (show partsOf s.data.toList = (pre ++ [⟨num, p, 0⟩]) ++ [⟨0, (p : Int) + j, 6⟩] by
                            rw [HE.out, H8.out, HC2.out.2.2 HR.out HJ0.out HH0.out (by omega) (by omega) (by rw [HS.out]; intro e; apply h46; have := Option.some.inj e; rw [this]; rfl), ← HM.out, List.append_assoc]; rfl)
                          clear h46
                          obtain ⟨fn2, tmps2, assign2, body2, hy2, hR2⟩ := HY.out _ ⟨0, (p : Int) + j, 6⟩ _ hJ3 (by rw [List.length_append, HL.out]; simp; omega)
                          dsimp only [LPart.val] at hy2
                          gi_wp2
                          refine ⟨fun _ => by omega, hR2.mono ?_⟩
                          rintro e W4 (⟨rfl, hJ4, hk4⟩ | ⟨rfl, hJx4⟩)
                          · gi_wp2
                            refine bodyPost_ret (results_none rfl _ _ _) rfl ?_
                            exact ⟨⟨_, rfl⟩, .inl ⟨_, HE2.out.symm, hJ4⟩⟩
                          · gi_wp2
                            refine bodyPost_ret (results_none rfl _ _ _) rfl ?_
                            exact ⟨⟨_, rfl⟩, .inr ⟨_, by rw [HE2.out]; exact List.prefix_refl _, hJx4⟩⟩
                      · gi_wp2
                        refine bodyPost_ret (results_none rfl _ _ _) rfl ?_
                        exact ⟨⟨_, rfl⟩, .inr ⟨_, by rw [HE.out, H8.out]; exact lparts_pre pre HC2.out.2 HR.out HJ0.out HH0.out (by omega) (by omega) HM.out, hJx3⟩⟩
          · by_cases hk8 : k = 8
            · subst hk8
              obtain ⟨fn, tmps, assign, body, hy, hR⟩ := yl 0 9
              gi_wp2
              refine ⟨fun _ => by omega, hR.mono ?_⟩
              rintro e W3 (⟨rfl, hJ3, hk3⟩ | ⟨rfl, hJx3⟩)
              · have hp2 : W3.cell? ⟨wr.heap.size, 2, none⟩ = some (.int .i64 9) := by
                  have := hk3.parts _ _ _ _ (.inl rfl) (heap_alloc_new wr (.cells #[.int .i64 0, .int .i64 p, .int .i64 9] 138))
                  simp [World.cell?, this]
                gi_wp2
                refine bodyPost_ret (results_none rfl _ _ _) rfl ?_
                exact ⟨⟨_, rfl⟩, .inl ⟨_, by rw [HE.out]; rfl, hJ3⟩⟩
              · gi_wp2
                refine bodyPost_ret (results_none rfl _ _ _) rfl ?_
                exact ⟨⟨_, rfl⟩, .inr ⟨_, ⟨[], by rw [HE.out, List.append_nil]; rfl⟩, hJx3⟩⟩
            · have h8 : 8 - k = (7 - k) + 1 := by omega
              have H8 := Lib.hid h8; clear h8
              have hkk : ((k : Int) == 8) = false := by rw [beq_eq_false_iff_ne]; omega
              by_cases hps : p = s.size
              · have HL0 := Lib.hid (HC.out.1 (List.eq_nil_of_length_eq_zero (by omega)))
                have h4 : ((p : Int) == (s.size : Int)) = true := by rw [beq_iff_eq]; omega
                clear hps
                obtain ⟨fn, tmps, assign, body, hy, hR⟩ := yl 0 4
                gi_wp2
                refine ⟨fun _ => by omega, hR.mono ?_⟩
                rintro e W3 (⟨rfl, hJ3, hk3⟩ | ⟨rfl, hJx3⟩)
                · have hp2 : W3.cell? ⟨wr.heap.size, 2, none⟩ = some (.int .i64 4) := by
                    have := hk3.parts _ _ _ _ (.inl rfl) (heap_alloc_new wr (.cells #[.int .i64 0, .int .i64 p, .int .i64 4] 138))
                    simp [World.cell?, this]
                  gi_wp2
                  refine bodyPost_ret (results_none rfl _ _ _) rfl ?_
                  exact ⟨⟨_, rfl⟩, .inl ⟨_, by rw [HE.out, H8.out, HL0.out], hJ3⟩⟩
                · gi_wp2
                  refine bodyPost_ret (results_none rfl _ _ _) rfl ?_
                  exact ⟨⟨_, rfl⟩, .inr ⟨_, ⟨[], by rw [HE.out, H8.out, HL0.out, List.append_nil]⟩, hJx3⟩⟩
              · have hr : s.data.toList.drop p ≠ [] := by intro e; rw [e] at hsz; simp at hsz; omega
                have h4 : ((p : Int) == (s.size : Int)) = false := by rw [beq_eq_false_iff_ne]; omega
                have hpl : p < s.size := by omega
                have HR := Lib.hid hr; clear hr hps
                by_cases hj0 : j = 0
                · have HL0 := Lib.hid (HC.out.2.1 HR.out hj0)
                  have h6 : ((j : Int) == 0) = true := by rw [beq_iff_eq]; omega
                  clear hj0
                  obtain ⟨fn, tmps, assign, body, hy, hR⟩ := yl 0 6
                  gi_wp2
                  refine ⟨fun _ => by omega, hR.mono ?_⟩
                  rintro e W3 (⟨rfl, hJ3, hk3⟩ | ⟨rfl, hJx3⟩)
                  · have hp2 : W3.cell? ⟨wr.heap.size, 2, none⟩ = some (.int .i64 6) := by
                      have := hk3.parts _ _ _ _ (.inl rfl) (heap_alloc_new wr (.cells #[.int .i64 0, .int .i64 p, .int .i64 6] 138))
                      simp [World.cell?, this]
                    gi_wp2
                    refine bodyPost_ret (results_none rfl _ _ _) rfl ?_
                    exact ⟨⟨_, rfl⟩, .inl ⟨_, by rw [HE.out, H8.out, HL0.out], hJ3⟩⟩
                  · gi_wp2
                    refine bodyPost_ret (results_none rfl _ _ _) rfl ?_
                    exact ⟨⟨_, rfl⟩, .inr ⟨_, ⟨[], by rw [HE.out, H8.out, HL0.out, List.append_nil]⟩, hJx3⟩⟩
                · have h6 : ((j : Int) == 0) = false := by rw [beq_eq_false_iff_ne]; omega
                  have HJ0 := Lib.hid hj0
                  have hj1 : 0 < j := by omega
                  clear hj0
                  have HH := Lib.hid (show (s.data.toList.drop p).head? = some s[p] by rw [List.head?_drop, getElem_toList s p hpl])
                  by_cases h0 : s[p].toNat = 48
                  · have HL0 := Lib.hid (HC.out.2.2.1 HR.out HJ0.out (by rw [HH.out]; congr 1; exact UInt8.toNat_inj.1 h0))
                    have h3 : ((s[p].toNat : Int) == 48) = true := by rw [beq_iff_eq]; omega
                    clear h0
                    obtain ⟨fn, tmps, assign, body, hy, hR⟩ := yl 0 3
                    gi_wp2
                    refine ⟨fun _ => by omega, hR.mono ?_⟩
                    rintro e W3 (⟨rfl, hJ3, hk3⟩ | ⟨rfl, hJx3⟩)
                    · have hp2 : W3.cell? ⟨wr.heap.size, 2, none⟩ = some (.int .i64 3) := by
                        have := hk3.parts _ _ _ _ (.inl rfl) (heap_alloc_new wr (.cells #[.int .i64 0, .int .i64 p, .int .i64 3] 138))
                        simp [World.cell?, this]
                      gi_wp2
                      refine bodyPost_ret (results_none rfl _ _ _) rfl ?_
                      exact ⟨⟨_, rfl⟩, .inl ⟨_, by rw [HE.out, H8.out, HL0.out], hJ3⟩⟩
                    · gi_wp2
                      refine bodyPost_ret (results_none rfl _ _ _) rfl ?_
                      exact ⟨⟨_, rfl⟩, .inr ⟨_, ⟨[], by rw [HE.out, H8.out, HL0.out, List.append_nil]⟩, hJx3⟩⟩
                  · have HH0 := Lib.hid (show (s.data.toList.drop p).head? ≠ some 48 by rw [HH.out]; intro e; apply h0; have := Option.some.inj e; rw [this]; rfl)
                    have h3 : ((s[p].toNat : Int) == 48) = false := by rw [beq_eq_false_iff_ne]; omega
                    clear h0
                    by_cases hj6 : 6 < j
                    · have HL0 := Lib.hid (HC.out.2.2.2.1 HR.out HJ0.out HH0.out hj6)
                      obtain ⟨fn, tmps, assign, body, hy, hR⟩ := yl 0 2
                      gi_wp2
                      refine ⟨fun _ => by omega, hR.mono ?_⟩
                      rintro e W3 (⟨rfl, hJ3, hk3⟩ | ⟨rfl, hJx3⟩)
                      · have hp2 : W3.cell? ⟨wr.heap.size, 2, none⟩ = some (.int .i64 2) := by
                          have := hk3.parts _ _ _ _ (.inl rfl) (heap_alloc_new wr (.cells #[.int .i64 0, .int .i64 p, .int .i64 2] 138))
                          simp [World.cell?, this]
                        gi_wp2
                        refine bodyPost_ret (results_none rfl _ _ _) rfl ?_
                        exact ⟨⟨_, rfl⟩, .inl ⟨_, by rw [HE.out, H8.out, HL0.out], hJ3⟩⟩
                      · gi_wp2
                        refine bodyPost_ret (results_none rfl _ _ _) rfl ?_
                        exact ⟨⟨_, rfl⟩, .inr ⟨_, ⟨[], by rw [HE.out, H8.out, HL0.out, List.append_nil]⟩, hJx3⟩⟩
                    · have hj6' : j ≤ 6 := by omega
                      have HDD := Lib.hid (digs_bytes s p j HD.out)
                      have HC2 := Lib.hid HC.out.2.2.2.2; clear HC yl
                      clear hj6
                      have hdig : ∀ i (h : i < (s.extract p (p + j)).size), 48 ≤ (s.extract p (p + j))[i].toNat ∧ (s.extract p (p + j))[i].toNat ≤ 57 := fun i h => HDD.out i h
                      have HNum := Lib.hid (show (s.extract p (p + j)).data.toList = (s.data.toList.drop p).take j by rw [extract_list, Nat.add_sub_cancel_left])
                      have hesz : (s.extract p (p + j)).size = j := by simp; omega
                      have HX := Lib.hid (f215_digits (s.extract p (p + j)) (wr.alloc (.cells #[.int .i64 0, .int .i64 p, .int .i64 0] 138)) (by rw [hesz]; omega) (by rw [hesz]; omega) hdig)
                      rw [HNum.out] at HX
                      clear hdig hesz
                      obtain ⟨num, hnum⟩ : ∃ num, num = numOf ((s.data.toList.drop p).take j) := ⟨_, rfl⟩
                      rw [← hnum] at HX
                      have HM := Lib.hid hnum; clear hnum
                      gi_wp2_with (refine ⟨trivial, fun _ => by omega, ?_⟩; gi_at_call 111; refine (callsIn_wide.2 HX.out).mono ?_; rintro e w2 ⟨rfl, hk2⟩; have hb2 := hk2.heap (heap_alloc_new wr (.cells #[.int .i64 0, .int .i64 p, .int .i64 0] 138)) (fun e => e); have hc0 := Blk.cell (w := w2) hb2 0; have hc1 := Blk.cell (w := w2) hb2 1; have hc2 := Blk.cell (w := w2) hb2 2; have hf0 := Blk.frozen (w := w2) hb2 0; simp only [List.getElem?_toArray, List.getElem?_cons_zero, List.getElem?_cons_succ] at hc0 hc1 hc2; have HB2 := Lib.hid (Blk.set_ (w := w2) hb2 0 (.int .i64 num)); have HK2 := Lib.hid hk2; clear hk2 hb2; obtain ⟨fn, tmps, assign, body, hy, hR⟩ := HY.out pre ⟨num, p, 0⟩ (w2.setCell ⟨wr.heap.size, 0, none⟩ (.int .i64 num)) (HJ.out pre _ _ none HJs.out (grownBy_of_kpt ((((Kpt.refl Non wr).alloc _).trans HK2.out (fun _ e _ => e)).setCell (p := ⟨wr.heap.size, 0, none⟩) (fun h => absurd h (by simp)) _)) (by simp)) (by rw [HL.out]; omega); dsimp only [LPart.val] at hy)
                      refine ⟨fun _ => by omega, hR.mono ?_⟩
                      rintro e W3 (⟨rfl, hJ3, hk3⟩ | ⟨rfl, hJx3⟩)
                      · have hp2 : W3.cell? ⟨wr.heap.size, 2, none⟩ = some (.int .i64 0) := by
                          have := hk3.parts _ _ _ _ (.inl rfl) HB2.out
                          simp [World.cell?, this]
                        have hB3 : Blk W3 Bn 9 #[.string s] := hk3.parts _ _ _ _ (.inr rfl) (((HBk.out.alloc _).kpt HK2.out (fun e => e)).far (p := ⟨wr.heap.size, 0, none⟩) (by have := HBk.out.lt; simp; omega) _)
                        have hs3 : W3.cell? ⟨Bn, 0, none⟩ = some (.string s) := hB3.cell 0
                        have HB3 := Lib.hid hB3; clear hB3
                        have HS := Lib.hid (show (s.data.toList.drop p)[j]? = some s[p + j] by rw [List.getElem?_drop, getElem_toList s _ hq1])
                        by_cases h46 : s[p + j].toNat = 46
                        · exfalso; omega
                        · have ht : ((s[p + j].toNat : Int) == 46) = false := by rw [beq_eq_false_iff_ne]; omega
                          have HE2 := Lib.hid (show partsOf s.data.toList = (pre ++ [⟨num, p, 0⟩]) ++ [⟨0, (p : Int) + j, 6⟩] by
                            rw [HE.out, H8.out, HC2.out.2.2 HR.out HJ0.out HH0.out (by omega) (by omega) (by rw [HS.out]; intro e; apply h46; have := Option.some.inj e; rw [this]; rfl), ← HM.out, List.append_assoc]; rfl)
                          clear h46
                          obtain ⟨fn2, tmps2, assign2, body2, hy2, hR2⟩ := HY.out _ ⟨0, (p : Int) + j, 6⟩ _ hJ3 (by rw [List.length_append, HL.out]; simp; omega)
                          dsimp only [LPart.val] at hy2
                          gi_wp2
                          refine ⟨fun _ => by omega, hR2.mono ?_⟩
                          rintro e W4 (⟨rfl, hJ4, hk4⟩ | ⟨rfl, hJx4⟩)
                          · gi_wp2
                            refine bodyPost_ret (results_none rfl _ _ _) rfl ?_
                            exact ⟨⟨_, rfl⟩, .inl ⟨_, HE2.out.symm, hJ4⟩⟩
                          · gi_wp2
                            refine bodyPost_ret (results_none rfl _ _ _) rfl ?_
                            exact ⟨⟨_, rfl⟩, .inr ⟨_, by rw [HE2.out]; exact List.prefix_refl _, hJx4⟩⟩
                      · gi_wp2
                        refine bodyPost_ret (results_none rfl _ _ _) rfl ?_
                        exact ⟨⟨_, rfl⟩, .inr ⟨_, by rw [HE.out, H8.out]; exact lparts_pre pre HC2.out.2 HR.out HJ0.out HH0.out (by omega) (by omega) HM.out, hJx3⟩⟩
end Go.Proofs.YtkpmabknjdgkmaaGreatDoor
