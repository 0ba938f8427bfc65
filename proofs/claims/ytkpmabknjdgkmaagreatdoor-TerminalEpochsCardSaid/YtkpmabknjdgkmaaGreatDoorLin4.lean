/- The walks of package lineage's Valid, Ordinals, common, Within. -/
import Derived.Test.YtkpmabknjdgkmaaGreatDoorLin3
import Derived.Deep.DeepCutAuto
namespace Go.Proofs.YtkpmabknjdgkmaaGreatDoor
open Go.RowKit

def validB (l : List UInt8) : Bool := decide ((lparse l).2.2 = 0)
def ordsOf (l : List UInt8) : List Int := (lparse l).1
/-- How many ordinals two lists have in common at their beginnings. -/
def commonLen : List Int → List Int → Nat
  | a :: l, b :: m => if a = b then commonLen l m + 1 else 0
  | _, _ => 0
def withinB (n a : List UInt8) : Bool := validB n && validB a && decide (commonLen (ordsOf n) (ordsOf a) = (ordsOf a).length)

set_option maxHeartbeats 400000 in
theorem f31_any (s : ByteArray) (hs : s.size ≤ 140737488351232) (w : World) :
    Calls Tryz.prog 18 #[.string s] w fun e w' => e = .returned (.bool (validB s.data.toList)) ∧ Kpt Non w w' := by
  go_enter Tryz.func18, Tryz.ntmps18
  go_wp2_with (go_at_call 49; refine (f98_any s hs _).mono ?_; rintro e w1 ⟨v, rfl, hv, hk⟩; have HK := Lib.hid hk; clear hk)
  go_ret
  exact ⟨rfl, HK.out⟩

set_option maxHeartbeats 400000 in
theorem f100_any (s : ByteArray) (hs : s.size ≤ 140737488351232) (w : World) :
    Calls Tryz.prog 51 #[.string s] w fun e w' => ∃ v, e = .returned v ∧ w'.ownsRow w.heap.size 3 1 v (ordsOf s.data.toList).length ((ordsOf s.data.toList).map (Value.int .i64)) ∧ Kpt Non w w' := by
  go_enter Tryz.func51, Tryz.ntmps51
  go_wp2_with (go_at_call 49; refine (f98_any s hs _).mono ?_; rintro e w1 ⟨v, rfl, hv, hk⟩; have HK := Lib.hid hk; clear hk)
  go_ret
  exact ⟨v, rfl, hv, HK.out⟩

theorem commonLen_le (a b : List Int) : commonLen a b ≤ a.length ∧ commonLen a b ≤ b.length := by
  induction a generalizing b with
  | nil => simp [commonLen]
  | cons x a ih =>
    cases b with
    | nil => simp [commonLen]
    | cons y b =>
      have := ih b
      simp only [commonLen]
      split <;> simp <;> omega

/-- Where the common part ends. -/
theorem commonLen_eq {a b : List Int} {k : Nat} (h : ∀ j, j < k → ∃ x, a[j]? = some x ∧ b[j]? = some x) (he : ¬ ∃ x, a[k]? = some x ∧ b[k]? = some x) : commonLen a b = k := by
  induction k generalizing a b with
  | zero =>
    cases a with
    | nil => rfl
    | cons x a =>
      cases b with
      | nil => rfl
      | cons y b =>
        simp only [commonLen]
        rw [if_neg]
        intro e; apply he; exact ⟨x, by simp, by simp [e]⟩
  | succ k ih =>
    obtain ⟨x, h1, h2⟩ := h 0 (by omega)
    cases a with
    | nil => simp at h1
    | cons y a =>
      cases b with
      | nil => simp at h2
      | cons z b =>
        simp at h1 h2
        subst h1 h2
        simp only [commonLen, if_true]
        rw [ih (fun j hj => by have := h (j + 1) (by omega); simpa using this) (by simpa using he)]

set_option maxHeartbeats 1000000 in
theorem f101_any (A B : Option Addr) (n m c d : Nat) (xs ys : List Int) (w : World) (D E : Nat → Prop) (hx : Rd w D 1 A n (xs.map (Value.int .i64))) (hy : Rd w E 1 B m (ys.map (Value.int .i64))) (hn : n ≤ maxLen) (_hm : m ≤ maxLen) :
    Calls Tryz.prog 52 #[.slice A n c, .slice B m d] w fun e w' => e = .returned (.int .i64 (commonLen xs ys)) ∧ ∃ q, w' = w.drewN q := by
  have hxl : xs.length = n := by have := hx.1; simpa using this
  have hyl : ys.length = m := by have := hy.1; simpa using this
  have HXL := Lib.hid hxl; have HYL := Lib.hid hyl; clear hxl hyl
  unfold maxLen at hn _hm
  have HX := Lib.hid hx; have HY := Lib.hid hy; clear hx hy
  go_enter Tryz.func52, Tryz.ntmps52
  go_wp2
  go_loopw [5] (fun i wr => ∃ k : Nat, i = .int .i64 k ∧ k ≤ n ∧ Hid (∀ j, j < k → ∃ x, xs[j]? = some x ∧ ys[j]? = some x) ∧ Hid (∃ q, wr = w.drewN q)) (fun i _ => n - (intOf i).toNat)
  case atStart => exact ⟨0, rfl, Nat.zero_le _, Lib.hid (fun j hj => absurd hj (by omega)), Lib.hid ⟨0, rfl⟩⟩
  case round =>
    obtain ⟨k, rfl, hk, HC, HW⟩ := hrel
    by_cases h1 : k < n
    · by_cases h2 : k < m
      · have ⟨q, hq⟩ := HW.out
        obtain ⟨ad, u, rfl, _, hu, hcell⟩ := (HX.out).at_ h1
        obtain ⟨ad', u', rfl, _, hu', hcell'⟩ := (HY.out).at_ h2
        rw [List.getElem?_map] at hu hu'
        obtain ⟨x, hx, rfl⟩ := Option.map_eq_some_iff.1 hu
        obtain ⟨y, hy, rfl⟩ := Option.map_eq_some_iff.1 hu'
        have hc1 : wr.cell? (ad.add k) = some (.int .i64 x) := by rw [hq]; exact hcell
        have hc2 : wr.cell? (ad'.add k) = some (.int .i64 y) := by rw [hq]; exact hcell'
        have HXk := Lib.hid hx; have HYk := Lib.hid hy
        clear hu hu' hx hy hcell hcell' hq
        have h1' : ((k : Int) < (n : Int)) := by omega
        have h2' : ((k : Int) < (m : Int)) := by omega
        by_cases hxy : x = y
        · have ht : (x == y) = true := by rw [beq_iff_eq]; exact hxy
          have HXY := Lib.hid hxy; clear hxy
          go_wp2_with fail
          go_quiet (fail)
          go_wp2_with fail
          refine ⟨⟨k + 1, by go_num, by omega, Lib.hid (fun j hj => ?_), Lib.hid ?_⟩, by simp [intOf]; omega⟩
          · by_cases e : j = k
            · subst e; exact ⟨x, HXk.out, by rw [HXY.out]; exact HYk.out⟩
            · exact HC.out j (by omega)
          · obtain ⟨q', hq'⟩ := HW.out; exact ⟨q' + nq, by rw [hq', World.drewN_drewN]⟩
        · have ht : (x == y) = false := by rw [beq_eq_false_iff_ne]; exact hxy
          have HE := Lib.hid (commonLen_eq HC.out (fun ⟨z, hz1, hz2⟩ => hxy (by rw [HXk.out] at hz1; rw [HYk.out] at hz2; cases hz1; cases hz2; rfl)))
          clear hxy
          go_wp2_with fail
          go_quiet (fail)
          go_wp2_with fail
          go_ret
          exact ⟨by rw [HE.out]; rfl, by obtain ⟨q', hq'⟩ := HW.out; exact ⟨q' + nq, by rw [hq', World.drewN_drewN]⟩⟩
      · have h1' : ((k : Int) < (n : Int)) := by omega
        have h2' : decide ((k : Int) < (m : Int)) = false := by simp; omega
        have HE := Lib.hid (commonLen_eq HC.out (fun ⟨z, hz1, hz2⟩ => h2 (by have := (List.getElem?_eq_some_iff.1 hz2).1; rw [HYL.out] at this; exact this)))
        go_wp2_with fail
        go_quiet (fail)
        go_wp2_with fail
        go_ret
        exact ⟨by rw [HE.out]; rfl, by obtain ⟨q', hq'⟩ := HW.out; exact ⟨q' + nq, by rw [hq', World.drewN_drewN]⟩⟩
    · have h1' : decide ((k : Int) < (n : Int)) = false := by simp; omega
      have HE := Lib.hid (commonLen_eq HC.out (fun ⟨z, hz1, hz2⟩ => h1 (by have := (List.getElem?_eq_some_iff.1 hz1).1; rw [HXL.out] at this; exact this)))
      go_wp2_with fail
      go_quiet (fail)
      go_wp2_with fail
      go_ret
      exact ⟨by rw [HE.out]; rfl, by obtain ⟨q', hq'⟩ := HW.out; exact ⟨q' + nq, by rw [hq', World.drewN_drewN]⟩⟩

set_option maxHeartbeats 400000 in
theorem f33_any (s t : ByteArray) (hs : s.size ≤ 140737488351232) (ht : t.size ≤ 140737488351232) (w : World) :
    Calls Tryz.prog 20 #[.string s, .string t] w fun e w' => e = .returned (.bool (withinB s.data.toList t.data.toList)) ∧ Kpt Non w w' := by
  have e1 := f31_any s hs
  have e2 := f31_any t ht
  have e3 := f100_any s hs
  have e4 := f100_any t ht
  obtain ⟨x, hx⟩ : ∃ x, x = validB s.data.toList := ⟨_, rfl⟩
  obtain ⟨y, hy⟩ : ∃ y, y = validB t.data.toList := ⟨_, rfl⟩
  have HR := Lib.hid (show withinB s.data.toList t.data.toList = (x && y && decide (commonLen (ordsOf s.data.toList) (ordsOf t.data.toList) = (ordsOf t.data.toList).length)) by rw [hx, hy]; rfl)
  rw [← hx] at e1
  rw [← hy] at e2
  clear hx hy
  have E1 := Lib.hid e1; have E2 := Lib.hid e2; have E3 := Lib.hid e3; have E4 := Lib.hid e4
  clear e1 e2 e3 e4
  cases x
  · go_enter Tryz.func20, Tryz.ntmps20
    go_wp2_with fail
    refine (E1.out _).mono ?_; rintro e w1 ⟨rfl, k1⟩
    have K1 := Lib.hid k1; clear k1
    go_wp2_with fail
    go_ret
    exact ⟨by rw [HR.out]; rfl, K1.out⟩
  · cases y
    · go_enter Tryz.func20, Tryz.ntmps20
      go_wp2_with fail
      refine (E1.out _).mono ?_; rintro e w1 ⟨rfl, k1⟩
      have K1 := Lib.hid k1; clear k1
      go_wp2_with fail
      refine (E2.out _).mono ?_; rintro e w2 ⟨rfl, k2⟩
      have K2 := Lib.hid k2; clear k2
      go_wp2_with fail
      go_ret
      exact ⟨by rw [HR.out]; rfl, K1.out.trans K2.out (fun _ e _ => e)⟩
    · go_enter Tryz.func20, Tryz.ntmps20
      go_wp2_with fail
      refine (E1.out _).mono ?_; rintro e w1 ⟨rfl, k1⟩
      have K1 := Lib.hid k1; clear k1
      go_wp2_with fail
      refine (E2.out _).mono ?_; rintro e w2 ⟨rfl, k2⟩
      have K2 := Lib.hid k2; clear k2
      go_wp2_with fail
      refine (E4.out _).mono ?_; rintro e w3 ⟨v, rfl, hv, k3⟩
      have K3 := Lib.hid k3; clear k3
      obtain ⟨A, c, rfl, hc1, hc2⟩ := own_slice hv
      have HV := Lib.hid hv; clear hv
      go_wp2_with fail
      refine (E3.out _).mono ?_; rintro e w4 ⟨v', rfl, hv', k4⟩
      have K4 := Lib.hid k4; clear k4
      obtain ⟨A', c', rfl, hc1', hc2'⟩ := own_slice hv'
      have HV' := Lib.hid hv'; clear hv'
      go_wp2_with fail
      refine (f101_any _ _ _ _ _ _ _ _ _ _ _ (Rd.of_own HV'.out) ((Rd.of_own HV.out).kpt K4.out (fun _ _ e => e)) (by omega) (by omega)).mono ?_
      rintro e w5 ⟨rfl, q, rfl⟩
      go_wp2_with fail
      go_ret
      refine ⟨?_, ?_⟩
      · rw [HR.out]
        simp
        rw [Bool.eq_iff_iff, beq_iff_eq, decide_eq_true_iff]
        omega
      · exact ((K1.out.trans K2.out (fun _ e _ => e)).trans K3.out (fun _ e _ => e)).trans (K4.out.drewN q) (fun _ e _ => e)
end Go.Proofs.YtkpmabknjdgkmaaGreatDoor
