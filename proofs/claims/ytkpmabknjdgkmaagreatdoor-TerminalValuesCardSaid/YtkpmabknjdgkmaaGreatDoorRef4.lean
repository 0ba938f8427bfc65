/- The reference's codec, read: groups and Parse of package replevinref01; take and piece of package replevinref36. No condition but that sizes fit the machine. -/
import Derived.Test.YtkpmabknjdgkmaaGreatDoorRef2
import Derived.Test.YtkpmabknjdgkmaaGreatDoorCodec7
namespace Go.Proofs.YtkpmabknjdgkmaaGreatDoor
open Go.RowKit

theorem hv_drop {l : List UInt8} {j e : Nat} {x : UInt8} (hx : l[j]? = some x) (hj : j ≤ e) : hv ((l.take (e + 1)).drop j) = x.toNat % 128 + 128 * hv ((l.take (e + 1)).drop (j + 1)) := by
  have hlt := (List.getElem?_eq_some_iff.1 hx).1
  have h : (l.take (e + 1))[j]? = some x := by rw [List.getElem?_take, if_pos (by omega)]; exact hx
  have hlt2 := (List.getElem?_eq_some_iff.1 h).1
  rw [List.drop_eq_getElem_cons hlt2]
  have : (l.take (e + 1))[j] = x := (List.getElem?_eq_some_iff.1 h).2
  rw [this]
  rfl
theorem hv_drop_lt (l : List UInt8) (e j : Nat) (hj : j ≤ e) (he : e ≤ 8) : hv ((l.take (e + 1)).drop (j + 1)) < 72057594037927936 := by
  refine Nat.lt_of_lt_of_le (hv_lt _) ?_
  have h1 : ((l.take (e + 1)).drop (j + 1)).length ≤ 8 := by
    rw [List.length_drop, List.length_take]; omega
  have h2 := Nat.pow_le_pow_right (show 128 > 0 by decide) h1
  rw [show (128 : Nat) ^ 8 = 72057594037927936 by decide] at h2
  exact h2

set_option maxRecDepth 100000 in
set_option maxHeartbeats 2000000 in
theorem f217_any (A : Option Addr) (n c : Nat) (D : Nat → Prop) (l : List UInt8) (w : World) (hr : Rd w D 1 A n (l.map byteV)) (hn : n ≤ 1099511627776) :
    Calls Tryz.prog 113 #[.slice A n c, .int .i64 9] w fun e w' => e = .returned (.tuple #[.int .u64 ((grp 0 0 l).1 : Int), .int .i64 ((grp 0 0 l).2.1 : Int), .int .i64 (grp 0 0 l).2.2]) ∧ w = w' := by
  have hl : l.length = n := by have := hr.1; simpa using this
  have HR := Lib.hid hr; have HLen := Lib.hid hl; clear hr hl
  have fin : ∀ (g : Nat × Nat × Int), grp 0 0 l = g → (Ending.returned (.tuple #[.int .u64 (g.1 : Int), .int .i64 (g.2.1 : Int), .int .i64 g.2.2]) = .returned (.tuple #[.int .u64 ((grp 0 0 l).1 : Int), .int .i64 ((grp 0 0 l).2.1 : Int), .int .i64 (grp 0 0 l).2.2]) ∧ w = w) := fun g hg => ⟨by rw [hg], rfl⟩
  have Fin := Lib.hid fin; clear fin
  go_enter Tryz.func113, Tryz.ntmps113
  go_wp2_with fail
  go_loopw [7] (fun x7 wr => ∃ e : Nat, x7 = .int .i64 e ∧ e ≤ n ∧ e ≤ 9 ∧ w = wr ∧ Hid (∀ k, k < e → ∃ c, l[k]? = some c ∧ 128 ≤ c.toNat)) (fun x7 _ => n - (intOf x7).toNat)
  case atStart => exact ⟨0, rfl, Nat.zero_le _, Nat.zero_le _, rfl, Lib.hid (fun k hk => absurd hk (by omega))⟩
  case round =>
    obtain ⟨e, rfl, hen, he9, rfl, HC⟩ := hrel
    by_cases h1 : e < n
    · have h1' : (e : Int) < (n : Int) := by omega
      by_cases h2 : e < 9
      · have h2' : (e : Int) < 9 := by omega
        have h2'' : ((e : Int) == 9) = false := by rw [beq_eq_false_iff_ne]; omega
        have h1'' : ((e : Int) == (n : Int)) = false := by rw [beq_eq_false_iff_ne]; omega
        obtain ⟨ad, u, rfl, _, hu, hcell⟩ := HR.out.at_ h1
        rw [List.getElem?_map] at hu
        obtain ⟨x, hx, rfl⟩ := Option.map_eq_some_iff.1 hu
        clear hu
        unfold byteV at hcell
        have hb := UInt8.toNat_lt x
        have HX := Lib.hid hx; clear hx
        by_cases h3 : (128 : Int) ≤ (x.toNat : Int)
        · go_wp2_with fail
          refine ⟨⟨e + 1, by go_num, by omega, by omega, trivial, Lib.hid (fun k hk => ?_)⟩, by simp [intOf]; omega⟩
          by_cases hke : k < e
          · exact HC.out k hke
          · obtain rfl : k = e := by omega
            exact ⟨x, HX.out, by omega⟩
        · have h3n : x.toNat < 128 := by omega
          by_cases h4 : 0 < e ∧ x.toNat = 0
          · have h4a : (0 : Int) < (e : Int) := by omega
            have h4b : ((x.toNat : Int) == 0) = true := by rw [beq_iff_eq]; omega
            have hg := grp_zero e l 0 0 HC.out HX.out (by omega) h4.2 (by omega)
            have HG := Lib.hid hg; clear hg h4
            go_wp2_with fail
            exact bodyPost_ret (v := .tuple #[.int .u64 0, .int .i64 0, .int .i64 3]) (by simp [results, Tryz.results113, go_sem]) rfl ⟨(Fin.out (0, 0, 3) HG.out).1, rfl⟩
          · have hg := grp_hv e l 0 0 HC.out HX.out h3n (by omega) (fun e' => h4 ⟨by omega, e'.1⟩)
            have HG := Lib.hid hg; clear hg
            have hcont : ∀ (k : Nat), k ≤ e + 1 → ∃ K, K = k := fun k _ => ⟨k, rfl⟩
            clear hcont
            by_cases h5 : 0 < e
            · have h4a : (0 : Int) < (e : Int) := by omega
              have h4b : ((x.toNat : Int) == 0) = false := by rw [beq_eq_false_iff_ne]; omega
              clear h4
              go_wp2_with fail
              go_loopw [8, 9] (fun x8 x9 wr => ∃ k : Nat, x8 = .int .u64 ((hv ((l.take (e + 1)).drop k) : Nat) : Int) ∧ x9 = .int .i64 ((k : Int) - 1) ∧ k ≤ e + 1 ∧ w = wr) (fun _ x9 _ => (intOf x9 + 1).toNat)
              case atStart => exact ⟨e + 1, by rw [List.drop_eq_nil_of_le (by rw [List.length_take]; omega)]; rfl, by simp, by omega, rfl⟩
              case round =>
                obtain ⟨k, rfl, rfl, hk, rfl⟩ := hrel
                cases k with
                | zero =>
                  go_wp2_with fail
                  refine bodyPost_ret (v := .tuple #[.int .u64 ((hv (l.take (e + 1)) : Nat) : Int), .int .i64 ((e + 1 : Nat) : Int), .int .i64 0]) (by simp [results, Tryz.results113, go_sem]) rfl ⟨(Fin.out (hv (l.take (e + 1)), e + 1, 0) (by rw [HG.out]; simp)).1, rfl⟩
                | succ j =>
                  obtain ⟨ad2, u2, e2, _, hu2, hcell2⟩ := HR.out.at_ (k := j) (by omega)
                  injection e2 with e2
                  subst e2
                  rw [List.getElem?_map] at hu2
                  obtain ⟨y, hy, rfl⟩ := Option.map_eq_some_iff.1 hu2
                  clear hu2
                  unfold byteV at hcell2
                  have hbound := hv_drop_lt l e j (by omega) (by omega)
                  have hstep := hv_drop hy (show j ≤ e by omega)
                  generalize hv ((l.take (e + 1)).drop (j + 1)) = N at hbound hstep ⊢
                  have HStep := Lib.hid hstep; clear hstep hy
                  have hby := UInt8.toNat_lt y
                  rw [show ((j + 1 : Nat) : Int) - 1 = (j : Int) by omega]
                  have hj0 : (0 : Int) ≤ (j : Int) := by omega
                  have hjn : (j : Int) < (n : Int) := by omega
                  go_wp2_with fail
                  refine ⟨⟨j, ?_, rfl, by omega, trivial⟩, by simp [intOf]⟩
                  rw [HStep.out]
                  congr 1
                  omega
            · have h4a : ¬ (0 : Int) < (e : Int) := by omega
              clear h4
              go_wp2_with fail
              go_loopw [8, 9] (fun x8 x9 wr => ∃ k : Nat, x8 = .int .u64 ((hv ((l.take (e + 1)).drop k) : Nat) : Int) ∧ x9 = .int .i64 ((k : Int) - 1) ∧ k ≤ e + 1 ∧ w = wr) (fun _ x9 _ => (intOf x9 + 1).toNat)
              case atStart => exact ⟨e + 1, by rw [List.drop_eq_nil_of_le (by rw [List.length_take]; omega)]; rfl, by simp, by omega, rfl⟩
              case round =>
                obtain ⟨k, rfl, rfl, hk, rfl⟩ := hrel
                cases k with
                | zero =>
                  go_wp2_with fail
                  refine bodyPost_ret (v := .tuple #[.int .u64 ((hv (l.take (e + 1)) : Nat) : Int), .int .i64 ((e + 1 : Nat) : Int), .int .i64 0]) (by simp [results, Tryz.results113, go_sem]) rfl ⟨(Fin.out (hv (l.take (e + 1)), e + 1, 0) (by rw [HG.out]; simp)).1, rfl⟩
                | succ j =>
                  obtain ⟨ad2, u2, e2, _, hu2, hcell2⟩ := HR.out.at_ (k := j) (by omega)
                  injection e2 with e2
                  subst e2
                  rw [List.getElem?_map] at hu2
                  obtain ⟨y, hy, rfl⟩ := Option.map_eq_some_iff.1 hu2
                  clear hu2
                  unfold byteV at hcell2
                  have hbound := hv_drop_lt l e j (by omega) (by omega)
                  have hstep := hv_drop hy (show j ≤ e by omega)
                  generalize hv ((l.take (e + 1)).drop (j + 1)) = N at hbound hstep ⊢
                  have HStep := Lib.hid hstep; clear hstep hy
                  have hby := UInt8.toNat_lt y
                  rw [show ((j + 1 : Nat) : Int) - 1 = (j : Int) by omega]
                  have hj0 : (0 : Int) ≤ (j : Int) := by omega
                  have hjn : (j : Int) < (n : Int) := by omega
                  go_wp2_with fail
                  refine ⟨⟨j, ?_, rfl, by omega, trivial⟩, by simp [intOf]⟩
                  rw [HStep.out]
                  congr 1
                  omega
      · have he : e = 9 := by omega
        have h2' : ¬ (e : Int) < 9 := by omega
        have h2'' : ((e : Int) == 9) = true := by rw [beq_iff_eq]; omega
        have hg := grp_long e l 0 0 HC.out (by omega)
        have HG := Lib.hid hg; have HE := Lib.hid he; clear hg he
        go_wp2_with fail
        exact bodyPost_ret (v := .tuple #[.int .u64 0, .int .i64 0, .int .i64 3]) (by simp [results, Tryz.results113, go_sem]) rfl ⟨(Fin.out (0, 0, 3) HG.out).1, rfl⟩
    · have h1' : ¬ (e : Int) < (n : Int) := by omega
      by_cases he : e = 9
      · have h2'' : ((e : Int) == 9) = true := by rw [beq_iff_eq]; omega
        have hg := grp_long e l 0 0 HC.out (by omega)
        have HG := Lib.hid hg; have HE := Lib.hid he; clear hg he
        go_wp2_with fail
        exact bodyPost_ret (v := .tuple #[.int .u64 0, .int .i64 0, .int .i64 3]) (by simp [results, Tryz.results113, go_sem]) rfl ⟨(Fin.out (0, 0, 3) HG.out).1, rfl⟩
      · have h2'' : ((e : Int) == 9) = false := by rw [beq_eq_false_iff_ne]; omega
        have h1'' : ((e : Int) == (n : Int)) = true := by rw [beq_iff_eq]; omega
        have hg := grp_short e l 0 0 HC.out (by rw [HLen.out]; omega) (by omega)
        have HG := Lib.hid hg; clear hg
        go_wp2_with fail
        exact bodyPost_ret (v := .tuple #[.int .u64 0, .int .i64 0, .int .i64 28]) (by simp [results, Tryz.results113, go_sem]) rfl ⟨(Fin.out (0, 0, 28) HG.out).1, rfl⟩

set_option maxRecDepth 100000 in
set_option maxHeartbeats 400000 in
theorem f174_any (A : Option Addr) (n c : Nat) (D : Nat → Prop) (l : List UInt8) (w : World) (hr : Rd w D 1 A n (l.map byteV)) (hn : n ≤ 1099511627776) :
    Calls Tryz.prog 90 #[.slice A n c] w fun e w' => e = .returned (.tuple #[.int .i64 (grp 0 0 l).1, .int .i64 (grp 0 0 l).2.1, .int .i64 (grp 0 0 l).2.2]) ∧ w = w' := by
  have hc := f217_any A n c D l w hr hn
  have hlt := grp_lt l 0 0 (by omega) (by simp)
  generalize hg : grp 0 0 l = g at hc hlt
  obtain ⟨g1, g2, g3⟩ := g
  simp only at hc hlt
  have HC := Lib.hid hc; clear hc hr hg
  go_enter Tryz.func90, Tryz.ntmps90
  go_wp2_with fail
  refine HC.out.mono ?_
  rintro e w1 ⟨rfl, rfl⟩
  go_wp2_with fail
  refine bodyPost_ret (v := .tuple #[.int .i64 g1, .int .i64 g2, .int .i64 g3]) (by simp [results, Tryz.results90, go_sem]) rfl ⟨rfl, rfl⟩

/-- What take returns: the number, or -1; and the rest. -/
def takeT (l : List UInt8) : Int × List UInt8 := if (grp 0 0 l).2.2 = 0 then ((grp 0 0 l).1, l.drop (grp 0 0 l).2.1) else (-1, [])
/-- What piece returns. -/
def pieceT (l : List UInt8) : List UInt8 × List UInt8 :=
  if (takeT l).1 < 0 ∨ ((takeT l).2.length : Int) < (takeT l).1 then ([], []) else ((takeT l).2.take (takeT l).1.toNat, (takeT l).2.drop (takeT l).1.toNat)
end Go.Proofs.YtkpmabknjdgkmaaGreatDoor
