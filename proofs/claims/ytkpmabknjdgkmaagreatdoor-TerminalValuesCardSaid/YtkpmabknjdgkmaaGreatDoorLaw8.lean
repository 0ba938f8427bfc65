/- The law TerminalValues: its walk. No condition but that sizes fit the machine. -/
import Derived.Test.YtkpmabknjdgkmaaGreatDoorLaw4
import Derived.Test.YtkpmabknjdgkmaaGreatDoorRef8
import Derived.Test.YtkpmabknjdgkmaaGreatDoorRef9
import Derived.Test.YtkpmabknjdgkmaaGreatDoorRef10
import Derived.Deep.QuietTactic
import Derived.BigQuiet
namespace Go.Proofs.YtkpmabknjdgkmaaGreatDoor
open Go.RowKit

theorem dec_typed (l : List UInt8) : (decT l).1.typed.length ≤ 1048576 := by
  unfold decT
  split
  · rename_i h
    unfold decOk at h
    simp only [Bool.and_eq_true, decide_eq_true_eq] at h
    have := (chkT_ok h.2).2.2.1
    simp only
    omega
  · simp [zeroT]

/-- The two boxed terminals of the law, in all later worlds. -/
def Two (w0 : World) (w : World) (t u : Tm) (A : Option Addr) (c : Nat) (B : Option Addr) (d : Nat) (D E : Nat → Prop) : Prop :=
  ∀ w', Kpt Non w w' → (w'.cell? ⟨w0.heap.size, 0, none⟩ = some (.int .i64 t.epoch) ∧ w'.cell? ⟨w0.heap.size, 1, none⟩ = some (.string t.session) ∧ w'.cell? ⟨w0.heap.size, 2, none⟩ = some (.slice A t.typed.length c) ∧ w'.cell? ⟨w0.heap.size, 3, none⟩ = some (.string t.screen) ∧
    w'.cell? ⟨w0.heap.size + 1, 0, none⟩ = some (.int .i64 u.epoch) ∧ w'.cell? ⟨w0.heap.size + 1, 1, none⟩ = some (.string u.session) ∧ w'.cell? ⟨w0.heap.size + 1, 2, none⟩ = some (.slice B u.typed.length d) ∧ w'.cell? ⟨w0.heap.size + 1, 3, none⟩ = some (.string u.screen)) ∧
    TmV w' D t (.agg #[.int .i64 t.epoch, .string t.session, .slice A t.typed.length c, .string t.screen]) ∧ TmV w' E u (.agg #[.int .i64 u.epoch, .string u.session, .slice B u.typed.length d, .string u.screen])

theorem two_boxes {w : World} {t u : Tm} {A B : Option Addr} {c d : Nat} {D E : Nat → Prop} (ht : TmV w D t (.agg #[.int .i64 t.epoch, .string t.session, .slice A t.typed.length c, .string t.screen])) (hu : TmV w E u (.agg #[.int .i64 u.epoch, .string u.session, .slice B u.typed.length d, .string u.screen])) :
    Two w ((w.alloc (.cells #[.int .i64 t.epoch, .string t.session, .slice A t.typed.length c, .string t.screen] 44)).alloc (.cells #[.int .i64 u.epoch, .string u.session, .slice B u.typed.length d, .string u.screen] 44)) t u A c B d D E := fun w' k => by
  have b3 := ((Blk.new w 44 #[.int .i64 t.epoch, .string t.session, .slice A t.typed.length c, .string t.screen]).alloc (.cells #[.int .i64 u.epoch, .string u.session, .slice B u.typed.length d, .string u.screen] 44)).kpt k (fun e => e)
  have b4 := (Blk.new (w.alloc (.cells #[.int .i64 t.epoch, .string t.session, .slice A t.typed.length c, .string t.screen] 44)) 44 #[.int .i64 u.epoch, .string u.session, .slice B u.typed.length d, .string u.screen]).kpt k (fun e => e)
  simp only [World.size_alloc] at b4
  have kk : Kpt Non w w' := Kpt.trans (Kpt.alloc (Kpt.alloc (Kpt.refl _ _) _) _) k (fun _ e _ => e)
  exact ⟨⟨b3.cell 0, b3.cell 1, b3.cell 2, b3.cell 3, b4.cell 0, b4.cell 1, b4.cell 2, b4.cell 3⟩, ht.kpt kk (fun _ _ e => e), hu.kpt kk (fun _ _ e => e)⟩

section
variable {t u : Tm} {A B : Option Addr} {c d : Nat} {D E : Nat → Prop} {s : ByteArray} {w : World}
set_option maxRecDepth 100000 in
set_option maxHeartbeats 2000000 in
/-- A size beyond the bound: the answer is known's. -/
theorem f5_great (ht : TmV w D t (.agg #[.int .i64 t.epoch, .string t.session, .slice A t.typed.length c, .string t.screen])) (hu : TmV w E u (.agg #[.int .i64 u.epoch, .string u.session, .slice B u.typed.length d, .string u.screen]))
    (h : 20 < t.typed.length ∨ 20 < u.typed.length ∨ 2100 < t.screen.size ∨ 100 < t.session.size ∨ 3000 < s.size) :
    Calls Tryz.prog 5 #[.agg #[.int .i64 t.epoch, .string t.session, .slice A t.typed.length c, .string t.screen], .agg #[.int .i64 u.epoch, .string u.session, .slice B u.typed.length d, .string u.screen], .string s] w fun e w' => e = .returned (.bool true) ∧ Kpt Non w w' := by
  have H2 := Lib.hid (two_boxes ht hu)
  have k0 : Kpt Non w ((w.alloc (.cells #[.int .i64 t.epoch, .string t.session, .slice A t.typed.length c, .string t.screen] 44)).alloc (.cells #[.int .i64 u.epoch, .string u.session, .slice B u.typed.length d, .string u.screen] 44)) := Kpt.alloc (Kpt.alloc (Kpt.refl _ _) _) _
  have K0 := Lib.hid k0
  clear ht hu k0
  by_cases h1 : (20 : Int) < (t.typed.length : Int)
  · clear h
    go_enter Tryz.func5, Tryz.ntmps5
    go_wp2_with fail
    refine (f24_any _).mono ?_
    rintro e w1 ⟨rfl, k1⟩
    obtain ⟨⟨p0, p1, p2, p3, q0, q1, q2, q3⟩, -⟩ := H2.out _ k1
    have K1 := Lib.hid k1; clear k1
    go_wp2_with fail
    refine (f24_any _).mono ?_
    rintro e w2 ⟨rfl, k2⟩
    have K2 := Lib.hid k2; clear k2
    go_wp2_with fail
    go_ret
    exact ⟨rfl, Kpt.trans (Kpt.trans K0.out K1.out (fun _ e _ => e)) K2.out (fun _ e _ => e)⟩
  by_cases h2 : (20 : Int) < (u.typed.length : Int)
  · clear h
    go_enter Tryz.func5, Tryz.ntmps5
    go_wp2_with fail
    refine (f24_any _).mono ?_
    rintro e w1 ⟨rfl, k1⟩
    obtain ⟨⟨p0, p1, p2, p3, q0, q1, q2, q3⟩, -⟩ := H2.out _ k1
    have K1 := Lib.hid k1; clear k1
    go_wp2_with fail
    refine (f24_any _).mono ?_
    rintro e w2 ⟨rfl, k2⟩
    have K2 := Lib.hid k2; clear k2
    go_wp2_with fail
    go_ret
    exact ⟨rfl, Kpt.trans (Kpt.trans K0.out K1.out (fun _ e _ => e)) K2.out (fun _ e _ => e)⟩
  by_cases h3 : (2100 : Int) < (t.screen.size : Int)
  · clear h
    go_enter Tryz.func5, Tryz.ntmps5
    go_wp2_with fail
    refine (f24_any _).mono ?_
    rintro e w1 ⟨rfl, k1⟩
    obtain ⟨⟨p0, p1, p2, p3, q0, q1, q2, q3⟩, -⟩ := H2.out _ k1
    have K1 := Lib.hid k1; clear k1
    go_wp2_with fail
    refine (f24_any _).mono ?_
    rintro e w2 ⟨rfl, k2⟩
    have K2 := Lib.hid k2; clear k2
    go_wp2_with fail
    go_ret
    exact ⟨rfl, Kpt.trans (Kpt.trans K0.out K1.out (fun _ e _ => e)) K2.out (fun _ e _ => e)⟩
  by_cases h4 : (100 : Int) < (t.session.size : Int)
  · clear h
    go_enter Tryz.func5, Tryz.ntmps5
    go_wp2_with fail
    refine (f24_any _).mono ?_
    rintro e w1 ⟨rfl, k1⟩
    obtain ⟨⟨p0, p1, p2, p3, q0, q1, q2, q3⟩, -⟩ := H2.out _ k1
    have K1 := Lib.hid k1; clear k1
    go_wp2_with fail
    refine (f24_any _).mono ?_
    rintro e w2 ⟨rfl, k2⟩
    have K2 := Lib.hid k2; clear k2
    go_wp2_with fail
    go_ret
    exact ⟨rfl, Kpt.trans (Kpt.trans K0.out K1.out (fun _ e _ => e)) K2.out (fun _ e _ => e)⟩
  have h5 : (3000 : Int) < (s.size : Int) := by omega
  clear h
  go_enter Tryz.func5, Tryz.ntmps5
  go_wp2_with fail
  refine (f24_any _).mono ?_
  rintro e w1 ⟨rfl, k1⟩
  obtain ⟨⟨p0, p1, p2, p3, q0, q1, q2, q3⟩, -⟩ := H2.out _ k1
  have K1 := Lib.hid k1; clear k1
  go_wp2_with fail
  refine (f24_any _).mono ?_
  rintro e w2 ⟨rfl, k2⟩
  have K2 := Lib.hid k2; clear k2
  go_wp2_with fail
  go_ret
  exact ⟨rfl, Kpt.trans (Kpt.trans K0.out K1.out (fun _ e _ => e)) K2.out (fun _ e _ => e)⟩

theorem TmV.rd {w : World} {D : Nat → Prop} {t : Tm} {A : Option Addr} {c : Nat} {e1 e2 e3 : Value} (h : TmV w D t (.agg #[e1, e2, .slice A t.typed.length c, e3])) : t.typed.length ≤ c ∧ c ≤ maxLen ∧ Rd w D 1 A t.typed.length (t.typed.map Value.string) := by
  obtain ⟨A', c', e, h1, h2, h3⟩ := h
  simp only [Value.agg.injEq, Array.mk.injEq, List.cons.injEq, Value.slice.injEq, and_true, true_and] at e
  obtain ⟨_, _, ⟨rfl, rfl⟩, _⟩ := e
  exact ⟨h1, h2, h3⟩
theorem Two.next {w0 w w1 : World} {t u : Tm} {A : Option Addr} {c : Nat} {B : Option Addr} {d : Nat} {D E : Nat → Prop} (h : Two w0 w t u A c B d D E) (k : Kpt Non w w1) : Two w0 w1 t u A c B d D E := fun w' k' => h w' (Kpt.trans k k' (fun _ e _ => e))
theorem f43_self (a : Tm) (va vb : Value) (D E : Nat → Prop) (w : World) (ha : TmV w D a va) (hb : TmV w E a vb) (hl : a.typed.length ≤ 1048576) :
    Calls Tryz.prog 30 #[va, vb] w fun e w' => e = .returned (.bool true) ∧ Kpt Non w w' := by
  have := f43_any a a va vb D E w ha hb hl
  simpa using this
theorem f45_self (a : Tm) (va vb : Value) (D E : Nat → Prop) (w : World) (ha : TmV w D a va) (hb : TmV w E a vb) (hl : a.typed.length ≤ 1048576) :
    Calls Tryz.prog 32 #[va, vb] w fun e w' => e = .returned (.bool true) ∧ Kpt Non w w' := by
  have := f45_any a a va vb D E w ha hb hl
  simpa using this

theorem f37_two {w0 w1 : World} (h : Two w0 w1 t u A c B d D E) (h1 : t.typed.length ≤ 20) (h2 : u.typed.length ≤ 20) :
    (∀ w', Kpt Non w1 w' → Calls Tryz.prog 24 #[.agg #[.int .i64 t.epoch, .string t.session, .slice A t.typed.length c, .string t.screen]] w' fun e w'' => ∃ v', e = .returned v' ∧ TmV w'' (fun i => w'.heap.size ≤ i) t v' ∧ Kpt Non w' w'') ∧
    (∀ w', Kpt Non w1 w' → Calls Tryz.prog 24 #[.agg #[.int .i64 u.epoch, .string u.session, .slice B u.typed.length d, .string u.screen]] w' fun e w'' => ∃ v', e = .returned v' ∧ TmV w'' (fun i => w'.heap.size ≤ i) u v' ∧ Kpt Non w' w'') :=
  ⟨fun w' k => f37_any t _ D w' (h w' k).2.1 h1, fun w' k => f37_any u _ E w' (h w' k).2.2 h2⟩

/-- What the two Encodes and Checks answer of a terminal. -/
theorem encs (ok : TmOk t) (hss : t.session.size ≤ 16777216) : ∃ (aa : ByteArray) (ee : Int), chkT t = ee ∧ (if chkT t = 0 then strB (encT t) else es) = aa ∧
    (∀ w v D, TmV w D t v → Calls Tryz.prog 23 #[v] w fun e w' => e = .returned (.tuple #[.string aa, .int .i64 ee]) ∧ Kpt Non w w') ∧ (∀ w v D, TmV w D t v → Calls Tryz.prog 25 #[v] w fun e w' => e = .returned (.tuple #[.string aa, .int .i64 ee]) ∧ Kpt Non w w') ∧
    (∀ w v D, TmV w D t v → Calls Tryz.prog 28 #[v] w fun e w' => e = .returned (.int .i64 ee) ∧ Kpt Non w w') ∧ (∀ w v D, TmV w D t v → Calls Tryz.prog 29 #[v] w fun e w' => e = .returned (.int .i64 ee) ∧ Kpt Non w w') :=
  ⟨_, _, rfl, rfl, fun w v D h => f36_any t v D w h ok hss, fun w v D h => f38_any t v D w h ok hss, fun w v D h => f41_any t v D w h ok, fun w v D h => f42_any t v D w h ok⟩

/-- What the two Decodes answer of a text. -/
theorem decs (hs : s.size ≤ 1000000) : ∃ (x : Tm) (g : Int), decT (bytesOf s) = (x, g) ∧ x.typed.length ≤ 1048576 ∧
    (∀ w, Calls Tryz.prog 26 #[.string s] w fun e w' => ∃ A c, e = .returned (.tuple #[.agg #[.int .i64 x.epoch, .string x.session, .slice A x.typed.length c, .string x.screen], .int .i64 g]) ∧ TmV w' (fun i => w.heap.size ≤ i) x (.agg #[.int .i64 x.epoch, .string x.session, .slice A x.typed.length c, .string x.screen]) ∧ Kpt Non w w') ∧
    (∀ w, Calls Tryz.prog 27 #[.string s] w fun e w' => ∃ A c, e = .returned (.tuple #[.agg #[.int .i64 x.epoch, .string x.session, .slice A x.typed.length c, .string x.screen], .int .i64 g]) ∧ TmV w' (fun i => w.heap.size ≤ i) x (.agg #[.int .i64 x.epoch, .string x.session, .slice A x.typed.length c, .string x.screen]) ∧ Kpt Non w w') := by
  refine ⟨_, _, rfl, dec_typed _, fun w => (f39_any s w (by omega)).mono ?_, fun w => ?_⟩
  · rintro e w' ⟨v, rfl, ⟨A, c, rfl, r⟩, k⟩
    exact ⟨A, c, rfl, ⟨A, c, rfl, r⟩, k⟩
  · have := f40_any s w hs
    rw [refDec_eq] at this
    refine this.mono ?_
    rintro e w' ⟨v, rfl, ⟨A, c, rfl, r⟩, k⟩
    exact ⟨A, c, rfl, ⟨A, c, rfl, r⟩, k⟩

set_option maxRecDepth 100000 in
set_option maxHeartbeats 20000000 in
/-- Sizes within the bounds. -/
theorem f5_small (ht : TmV w D t (.agg #[.int .i64 t.epoch, .string t.session, .slice A t.typed.length c, .string t.screen])) (hu : TmV w E u (.agg #[.int .i64 u.epoch, .string u.session, .slice B u.typed.length d, .string u.screen]))
    (ok : ∀ x ∈ t.typed, x.size ≤ 140737488351232) (h1 : ¬ (20 : Int) < (t.typed.length : Int)) (h2 : ¬ (20 : Int) < (u.typed.length : Int)) (h3 : ¬ (2100 : Int) < (t.screen.size : Int)) (h4 : ¬ (100 : Int) < (t.session.size : Int)) (h5 : ¬ (3000 : Int) < (s.size : Int)) :
    Calls Tryz.prog 5 #[.agg #[.int .i64 t.epoch, .string t.session, .slice A t.typed.length c, .string t.screen], .agg #[.int .i64 u.epoch, .string u.session, .slice B u.typed.length d, .string u.screen], .string s] w fun e w' => e = .returned (.bool true) ∧ Kpt Non w w' := by
  have H20 := Lib.hid (two_boxes ht hu)
  have k0 : Kpt Non w ((w.alloc (.cells #[.int .i64 t.epoch, .string t.session, .slice A t.typed.length c, .string t.screen] 44)).alloc (.cells #[.int .i64 u.epoch, .string u.session, .slice B u.typed.length d, .string u.screen] 44)) := Kpt.alloc (Kpt.alloc (Kpt.refl _ _) _) _
  have K0 := Lib.hid k0
  have HOk := Lib.hid ok
  obtain ⟨x, g, hdec, hxt, e39, e40⟩ := decs (s := s) (by omega)
  have E39 := Lib.hid e39; have E40 := Lib.hid e40
  clear ht hu k0 ok e39 e40 hdec
  go_enter Tryz.func5, Tryz.ntmps5
  go_wp2_with fail
  refine (f24_any _).mono ?_
  rintro e w1 ⟨rfl, k1⟩
  have H2 := Lib.hid (Two.next H20.out k1)
  have K1 := Lib.hid (Kpt.trans K0.out k1 (fun _ e _ => e))
  clear H20 K0 k1
  obtain ⟨⟨p0, p1, p2, p3, q0, q1, q2, q3⟩, -⟩ := H2.out _ (Kpt.refl _ _)
  go_wp2_with fail
  clear p0 p1 p2 p3 q0 q1 q2 q3
  go_loopw [7] (fun xi wr => ∃ k : Nat, xi = .int .i64 k ∧ k ≤ t.typed.length ∧ Hid (∀ x ∈ t.typed.take k, x.size ≤ 1100) ∧ Hid (Kpt Non w1 wr)) (fun xi _ => t.typed.length - (intOf xi).toNat)
  case atStart => exact ⟨0, rfl, Nat.zero_le _, Lib.hid (by simp), Lib.hid (Kpt.refl _ _)⟩
  case round =>
    obtain ⟨k, rfl, hk, HA, HK⟩ := hrel
    obtain ⟨⟨p0, p1, p2, p3, q0, q1, q2, q3⟩, htv, -⟩ := H2.out _ HK.out
    by_cases hlt : k < t.typed.length
    · have hlt' : (k : Int) < (t.typed.length : Int) := by omega
      obtain ⟨hc1, hc2, hrd⟩ := TmV.rd htv
      obtain ⟨ad, v0, rfl, _, hv0, hcell⟩ := hrd.at_ hlt
      rw [List.getElem?_map] at hv0
      obtain ⟨y, hy, rfl⟩ := Option.map_eq_some_iff.1 hv0
      have hys := HOk.out y (List.mem_of_getElem? hy)
      have hS : ∀ w', Kpt Non wr w' → (w'.cell? ⟨w.heap.size, 2, none⟩ = some (.slice (some ad) t.typed.length c) ∧ w'.cell? (ad.add k) = some (.string y)) := fun w' kk => ⟨kk.cellv p2 (fun e => e), kk.cellv hcell (fun e => e)⟩
      have HS := Lib.hid hS
      have HY := Lib.hid hy
      clear hv0 hy hS htv hrd p0 p1 p3 q0 q1 q2 q3
      by_cases hb : (1100 : Int) < (y.size : Int)
      · go_wp2_with fail
        go_ret
        exact ⟨rfl, Kpt.trans K1.out HK.out (fun _ e _ => e)⟩
      · go_wp2_with fail
        go_region_held3 (fun w' => w'.cell? ⟨w.heap.size, 2, none⟩ = some (.slice (some ad) t.typed.length c) ∧ w'.cell? (ad.add k) = some (.string y))
          (first | (refine HS.out _ ?_; ((repeat (first | with_reducible exact Kpt.refl _ _ | with_reducible apply Kpt.alloc | with_reducible apply Kpt.drew | with_reducible apply Kpt.drewN | (refine Kpt.trans (S' := Non) ?_ (by first | assumption | (apply Lib.Hid.out; assumption)) (fun _ e _ => e)))); done)))
          (first | (go_at_call 21; refine (f34_any y hys _).mono ?_; rintro e w2 ⟨rfl, k2⟩) | (go_at_call 22; refine (f35_any y hys _).mono ?_; rintro e w3 ⟨rfl, k3⟩) | fail)
        go_wp2_with fail
        have kk : Kpt Non wr w3 := by ((repeat (first | with_reducible exact Kpt.refl _ _ | with_reducible apply Kpt.alloc | with_reducible apply Kpt.drew | with_reducible apply Kpt.drewN | (refine Kpt.trans (S' := Non) ?_ (by first | assumption | (apply Lib.Hid.out; assumption)) (fun _ e _ => e)))); done)
        refine ⟨⟨k + 1, by go_num, by omega, Lib.hid ?_, Lib.hid (Kpt.trans HK.out kk (fun _ e _ => e))⟩, by simp [intOf]; omega⟩
        intro z hz
        rw [List.take_add_one, HY.out] at hz
        rcases List.mem_append.1 hz with hz | hz
        · exact HA.out z hz
        · simp at hz; subst hz; omega
    · have hlt' : ¬ (k : Int) < (t.typed.length : Int) := by omega
      clear htv
      have hAll : ∀ x ∈ t.typed, x.size ≤ 1100 := fun z hz => HA.out z (by rw [List.take_of_length_le (by omega)]; exact hz)
      have hokt : TmOk t := ⟨by omega, fun z hz => by have := hAll z hz; omega, by omega, by omega⟩
      obtain ⟨aa, ee, hee, haa, e36, e38, e41, e42⟩ := encs hokt (by omega)
      have e37 := f37_two (Two.next H2.out HK.out) (by omega) (by omega)
      have E37t := Lib.hid e37.1; have E37u := Lib.hid e37.2; have E36 := Lib.hid e36; have E38 := Lib.hid e38; have E41 := Lib.hid e41; have E42 := Lib.hid e42
      have HEE := Lib.hid hee; have HAA := Lib.hid haa; have HO := Lib.hid hokt
      have H3 := Lib.hid (Two.next H2.out HK.out)
      have K1r := Lib.hid (Kpt.trans K1.out HK.out (fun _ e _ => e))
      clear hAll hokt e37 e36 e38 e41 e42 hee haa HK H2 K1
      go_wp2_with fail
      refine (E37t.out _ (Kpt.refl _ _)).mono ?_
      rintro e wa ⟨va, rfl, hva, ka⟩
      have HVa := Lib.hid hva; clear hva
      go_wp2_with fail
      refine (E36.out _ _ _ HVa.out).mono ?_
      rintro e wb ⟨rfl, kb⟩
      have K2 := Lib.hid (Kpt.trans ka kb (fun _ e _ => e)); clear ka kb HVa
      clear p0 p1 p2 p3 q0 q1 q2 q3
      obtain ⟨⟨p0, p1, p2, p3, q0, q1, q2, q3⟩, -, -⟩ := H3.out _ K2.out
      go_wp2_with fail
      refine (E38.out _ _ _ (H3.out _ K2.out).2.1).mono ?_
      rintro e wc ⟨rfl, kc⟩
      clear p0 p1 p2 p3 q0 q1 q2 q3
      go_wp2_with fail
      refine (E39.out _).mono ?_
      rintro e wd ⟨Ax, cx, rfl, hx, kd⟩
      have K3 := Lib.hid (Kpt.trans (Kpt.trans K2.out kc (fun _ e _ => e)) kd (fun _ e _ => e)); have HX := Lib.hid hx; clear kc kd K2 hx
      go_wp2_with fail
      refine (E40.out _).mono ?_
      rintro e we ⟨Ay, cy, rfl, hy, ke⟩
      have KE := Lib.hid ke; have HY := Lib.hid hy; clear ke hy
      have hall : ∀ w', Kpt Non (we.alloc (.cells #[.int .i64 x.epoch, .string x.session, .slice Ay x.typed.length cy, .string x.screen] 44)) w' →
          (w'.cell? ⟨w.heap.size, 0, none⟩ = some (.int .i64 t.epoch) ∧ w'.cell? ⟨w.heap.size, 1, none⟩ = some (.string t.session) ∧ w'.cell? ⟨w.heap.size, 2, none⟩ = some (.slice A t.typed.length c) ∧ w'.cell? ⟨w.heap.size, 3, none⟩ = some (.string t.screen) ∧
          w'.cell? ⟨w.heap.size + 1, 0, none⟩ = some (.int .i64 u.epoch) ∧ w'.cell? ⟨w.heap.size + 1, 1, none⟩ = some (.string u.session) ∧ w'.cell? ⟨w.heap.size + 1, 2, none⟩ = some (.slice B u.typed.length d) ∧ w'.cell? ⟨w.heap.size + 1, 3, none⟩ = some (.string u.screen) ∧
          w'.cell? ⟨wd.heap.size, 0, none⟩ = some (.int .i64 x.epoch) ∧ w'.cell? ⟨wd.heap.size, 1, none⟩ = some (.string x.session) ∧ w'.cell? ⟨wd.heap.size, 2, none⟩ = some (.slice Ax x.typed.length cx) ∧ w'.cell? ⟨wd.heap.size, 3, none⟩ = some (.string x.screen) ∧
          w'.cell? ⟨we.heap.size, 0, none⟩ = some (.int .i64 x.epoch) ∧ w'.cell? ⟨we.heap.size, 1, none⟩ = some (.string x.session) ∧ w'.cell? ⟨we.heap.size, 2, none⟩ = some (.slice Ay x.typed.length cy) ∧ w'.cell? ⟨we.heap.size, 3, none⟩ = some (.string x.screen)) ∧
          Kpt Non wr w' ∧ TmV w' D t (.agg #[.int .i64 t.epoch, .string t.session, .slice A t.typed.length c, .string t.screen]) ∧ TmV w' E u (.agg #[.int .i64 u.epoch, .string u.session, .slice B u.typed.length d, .string u.screen]) ∧
          TmV w' (fun i => wc.heap.size ≤ i) x (.agg #[.int .i64 x.epoch, .string x.session, .slice Ax x.typed.length cx, .string x.screen]) ∧ TmV w' (fun _ => True) x (.agg #[.int .i64 x.epoch, .string x.session, .slice Ay x.typed.length cy, .string x.screen]) := fun w' k => by
        have kd' : Kpt Non (wd.alloc (.cells #[.int .i64 x.epoch, .string x.session, .slice Ax x.typed.length cx, .string x.screen] 36)) w' := Kpt.trans (Kpt.alloc KE.out _) k (fun _ e _ => e)
        have kw : Kpt Non wr w' := Kpt.trans (Kpt.alloc K3.out _) kd' (fun _ e _ => e)
        have b12 := (Blk.new wd 36 #[.int .i64 x.epoch, .string x.session, .slice Ax x.typed.length cx, .string x.screen]).kpt kd' (fun e => e)
        have b14 := (Blk.new we 44 #[.int .i64 x.epoch, .string x.session, .slice Ay x.typed.length cy, .string x.screen]).kpt k (fun e => e)
        obtain ⟨⟨p0, p1, p2, p3, q0, q1, q2, q3⟩, ht, hu⟩ := H3.out _ kw
        exact ⟨⟨p0, p1, p2, p3, q0, q1, q2, q3, b12.cell 0, b12.cell 1, b12.cell 2, b12.cell 3, b14.cell 0, b14.cell 1, b14.cell 2, b14.cell 3⟩, kw, ht, hu, HX.out.kpt (Kpt.trans (Kpt.alloc (Kpt.refl Non wd) _) kd' (fun _ e _ => e)) (fun _ _ e => e), (HY.out.kpt (Kpt.trans (Kpt.alloc (Kpt.refl Non we) _) k (fun _ e _ => e)) (fun _ _ e => e)).more (fun _ _ => trivial)⟩
      have HAll := Lib.hid hall; clear hall
      obtain ⟨bb, hbb⟩ : ∃ bb, decide (t = u) = bb := ⟨_, rfl⟩
      have e45 := fun va vb D E w' (ha : TmV w' D t va) (hb : TmV w' E u vb) => f45_any t u va vb D E w' ha hb (by omega)
      have e43 := fun va vb D E w' (ha : TmV w' D t va) (hb : TmV w' E u vb) => f43_any t u va vb D E w' ha hb (by omega)
      rw [hbb] at e45 e43
      have E45 := Lib.hid e45; have E43 := Lib.hid e43; clear e45 e43 hbb
      have E45t := Lib.hid (fun va vb D E w' (ha : TmV w' D t va) (hb : TmV w' E t vb) => f45_self t va vb D E w' ha hb (by omega))
      have E43x := Lib.hid (fun va vb D E w' (ha : TmV w' D x va) (hb : TmV w' E x vb) => f43_self x va vb D E w' ha hb hxt)
      have E44 := Lib.hid (fun v D w' (ha : TmV w' D x v) => f44_any x v D w' ha hxt)
      go_wp2_with fail
      go_region_held3 (fun w' => w'.cell? ⟨w.heap.size, 0, none⟩ = some (.int .i64 t.epoch) ∧ w'.cell? ⟨w.heap.size, 1, none⟩ = some (.string t.session) ∧ w'.cell? ⟨w.heap.size, 2, none⟩ = some (.slice A t.typed.length c) ∧ w'.cell? ⟨w.heap.size, 3, none⟩ = some (.string t.screen) ∧
          w'.cell? ⟨w.heap.size + 1, 0, none⟩ = some (.int .i64 u.epoch) ∧ w'.cell? ⟨w.heap.size + 1, 1, none⟩ = some (.string u.session) ∧ w'.cell? ⟨w.heap.size + 1, 2, none⟩ = some (.slice B u.typed.length d) ∧ w'.cell? ⟨w.heap.size + 1, 3, none⟩ = some (.string u.screen) ∧
          w'.cell? ⟨wd.heap.size, 0, none⟩ = some (.int .i64 x.epoch) ∧ w'.cell? ⟨wd.heap.size, 1, none⟩ = some (.string x.session) ∧ w'.cell? ⟨wd.heap.size, 2, none⟩ = some (.slice Ax x.typed.length cx) ∧ w'.cell? ⟨wd.heap.size, 3, none⟩ = some (.string x.screen) ∧
          w'.cell? ⟨we.heap.size, 0, none⟩ = some (.int .i64 x.epoch) ∧ w'.cell? ⟨we.heap.size, 1, none⟩ = some (.string x.session) ∧ w'.cell? ⟨we.heap.size, 2, none⟩ = some (.slice Ay x.typed.length cy) ∧ w'.cell? ⟨we.heap.size, 3, none⟩ = some (.string x.screen))
        (first | (refine (HAll.out _ ?_).1; ((repeat (first | with_reducible exact Kpt.refl _ _ | with_reducible apply Kpt.alloc | with_reducible apply Kpt.drew | with_reducible apply Kpt.drewN | (refine Kpt.trans (S' := Non) ?_ (by first | assumption | (apply Lib.Hid.out; assumption)) (fun _ e _ => e)))); done)))
        (first
          | (go_at_call 24; ((with_reducible refine (E37t.out _ (HAll.out _ (by ((repeat (first | with_reducible exact Kpt.refl _ _ | with_reducible apply Kpt.alloc | with_reducible apply Kpt.drew | with_reducible apply Kpt.drewN | (refine Kpt.trans (S' := Non) ?_ (by first | assumption | (apply Lib.Hid.out; assumption)) (fun _ e _ => e)))); done))).2.1).mono ?_); rintro e w' ⟨v37, rfl, h37, k37⟩))
          | (go_at_call 24; ((with_reducible refine (E37u.out _ (HAll.out _ (by ((repeat (first | with_reducible exact Kpt.refl _ _ | with_reducible apply Kpt.alloc | with_reducible apply Kpt.drew | with_reducible apply Kpt.drewN | (refine Kpt.trans (S' := Non) ?_ (by first | assumption | (apply Lib.Hid.out; assumption)) (fun _ e _ => e)))); done))).2.1).mono ?_); rintro e w' ⟨v37, rfl, h37, k37⟩))
          | (go_at_call 28; ((with_reducible refine (E41.out _ _ _ (by assumption)).mono ?_); rintro e w' ⟨rfl, k41⟩))
          | (go_at_call 29; ((with_reducible refine (E42.out _ _ _ (HAll.out _ (by ((repeat (first | with_reducible exact Kpt.refl _ _ | with_reducible apply Kpt.alloc | with_reducible apply Kpt.drew | with_reducible apply Kpt.drewN | (refine Kpt.trans (S' := Non) ?_ (by first | assumption | (apply Lib.Hid.out; assumption)) (fun _ e _ => e)))); done))).2.2.1).mono ?_); rintro e w' ⟨rfl, k42⟩))
          | (go_at_call 31; ((with_reducible refine (E44.out _ _ _ (HAll.out _ (by ((repeat (first | with_reducible exact Kpt.refl _ _ | with_reducible apply Kpt.alloc | with_reducible apply Kpt.drew | with_reducible apply Kpt.drewN | (refine Kpt.trans (S' := Non) ?_ (by first | assumption | (apply Lib.Hid.out; assumption)) (fun _ e _ => e)))); done))).2.2.2.2.1).mono ?_); rintro e w' ⟨v44, rfl, h44, k44⟩))
          | (go_at_call 30; ((with_reducible refine (E43x.out _ _ _ _ _ (by assumption) (HAll.out _ (by ((repeat (first | with_reducible exact Kpt.refl _ _ | with_reducible apply Kpt.alloc | with_reducible apply Kpt.drew | with_reducible apply Kpt.drewN | (refine Kpt.trans (S' := Non) ?_ (by first | assumption | (apply Lib.Hid.out; assumption)) (fun _ e _ => e)))); done))).2.2.2.2.2).mono ?_); rintro e w' ⟨rfl, k43⟩))
          | (go_at_call 30; ((with_reducible refine (E43.out _ _ _ _ _ (HAll.out _ (by ((repeat (first | with_reducible exact Kpt.refl _ _ | with_reducible apply Kpt.alloc | with_reducible apply Kpt.drew | with_reducible apply Kpt.drewN | (refine Kpt.trans (S' := Non) ?_ (by first | assumption | (apply Lib.Hid.out; assumption)) (fun _ e _ => e)))); done))).2.2.1 (HAll.out _ (by ((repeat (first | with_reducible exact Kpt.refl _ _ | with_reducible apply Kpt.alloc | with_reducible apply Kpt.drew | with_reducible apply Kpt.drewN | (refine Kpt.trans (S' := Non) ?_ (by first | assumption | (apply Lib.Hid.out; assumption)) (fun _ e _ => e)))); done))).2.2.2.1).mono ?_); rintro e w' ⟨rfl, k43⟩))
          | (go_at_call 32; ((with_reducible refine (E45.out _ _ _ _ _ (TmV.kpt (S := Non) (by assumption) (by assumption) (fun _ _ e => e)) (by assumption)).mono ?_); rintro e w' ⟨rfl, k45⟩))
          | (go_at_call 32; ((with_reducible refine (E45t.out _ _ _ _ _ (TmV.kpt (S := Non) (by assumption) (by assumption) (fun _ _ e => e)) (by assumption)).mono ?_); rintro e w' ⟨rfl, k45⟩))
          | fail)
      have hfin := HAll.out w' (by ((repeat (first | with_reducible exact Kpt.refl _ _ | with_reducible apply Kpt.alloc | with_reducible apply Kpt.drew | with_reducible apply Kpt.drewN | (refine Kpt.trans (S' := Non) ?_ (by first | assumption | (apply Lib.Hid.out; assumption)) (fun _ e _ => e)))); done))
      have K4 := Lib.hid hfin.2.1
      obtain ⟨⟨p0, p1, p2, p3, -⟩, -, htw, -⟩ := hfin
      have HTw := Lib.hid htw
      have HP := Lib.hid (And.intro p0 (And.intro p1 (And.intro p2 p3)))
      clear htw p0 p1 p2 p3
      by_cases h0 : ee = 0
      · subst h0
        have haa := HAA.out
        rw [if_pos HEE.out] at haa
        subst haa
        obtain ⟨x2, g2, hd2, hx2, e39, -⟩ := decs (s := strB (encT t)) (by have := encT_len HEE.out; simp only [strB_size]; omega)
        rw [decT_enc HEE.out] at hd2
        simp only [Prod.mk.injEq] at hd2
        obtain ⟨rfl, rfl⟩ := hd2
        have E39' := Lib.hid e39
        have E44' := Lib.hid (fun v D w' (ha : TmV w' D t v) => f44_any t v D w' ha hx2)
        have E43' := Lib.hid (fun va vb D E w' (ha : TmV w' D t va) (hb : TmV w' E t vb) => f43_self t va vb D E w' ha hb hx2)
        clear e39
        go_wp2_with fail
        refine (E39'.out _).mono ?_
        rintro e wf ⟨Ab, cb, rfl, hb, kf⟩
        have hs : ∀ wq, Kpt Non (wf.alloc (.cells #[.int .i64 t.epoch, .string t.session, .slice Ab t.typed.length cb, .string t.screen] 36)) wq →
          (wq.cell? ⟨w.heap.size, 0, none⟩ = some (.int .i64 t.epoch) ∧ wq.cell? ⟨w.heap.size, 1, none⟩ = some (.string t.session) ∧ wq.cell? ⟨w.heap.size, 2, none⟩ = some (.slice A t.typed.length c) ∧ wq.cell? ⟨w.heap.size, 3, none⟩ = some (.string t.screen) ∧
          wq.cell? ⟨wf.heap.size, 0, none⟩ = some (.int .i64 t.epoch) ∧ wq.cell? ⟨wf.heap.size, 1, none⟩ = some (.string t.session) ∧ wq.cell? ⟨wf.heap.size, 2, none⟩ = some (.slice Ab t.typed.length cb) ∧ wq.cell? ⟨wf.heap.size, 3, none⟩ = some (.string t.screen)) ∧
          Kpt Non w' wq ∧ TmV wq D t (.agg #[.int .i64 t.epoch, .string t.session, .slice A t.typed.length c, .string t.screen]) ∧ TmV wq (fun i => w'.heap.size ≤ i) t (.agg #[.int .i64 t.epoch, .string t.session, .slice Ab t.typed.length cb, .string t.screen]) := fun wq k => by
          have k' : Kpt Non wf wq := Kpt.trans (Kpt.alloc (Kpt.refl _ _) _) k (fun _ e _ => e)
          have kq : Kpt Non w' wq := Kpt.trans kf k' (fun _ e _ => e)
          have b16 := (Blk.new wf 36 #[.int .i64 t.epoch, .string t.session, .slice Ab t.typed.length cb, .string t.screen]).kpt k (fun e => e)
          exact ⟨⟨kq.cellv HP.out.1 (fun e => e), kq.cellv HP.out.2.1 (fun e => e), kq.cellv HP.out.2.2.1 (fun e => e), kq.cellv HP.out.2.2.2 (fun e => e), b16.cell 0, b16.cell 1, b16.cell 2, b16.cell 3⟩, kq, HTw.out.kpt kq (fun _ _ e => e), hb.kpt k' (fun _ _ e => e)⟩
        have HS := Lib.hid hs; clear hs
        have KF := Lib.hid kf; clear kf hb
        go_wp2_with fail
        go_region_held3 (fun wq => wq.cell? ⟨w.heap.size, 0, none⟩ = some (.int .i64 t.epoch) ∧ wq.cell? ⟨w.heap.size, 1, none⟩ = some (.string t.session) ∧ wq.cell? ⟨w.heap.size, 2, none⟩ = some (.slice A t.typed.length c) ∧ wq.cell? ⟨w.heap.size, 3, none⟩ = some (.string t.screen) ∧
          wq.cell? ⟨wf.heap.size, 0, none⟩ = some (.int .i64 t.epoch) ∧ wq.cell? ⟨wf.heap.size, 1, none⟩ = some (.string t.session) ∧ wq.cell? ⟨wf.heap.size, 2, none⟩ = some (.slice Ab t.typed.length cb) ∧ wq.cell? ⟨wf.heap.size, 3, none⟩ = some (.string t.screen))
          (first | (refine (HS.out _ ?_).1; ((repeat (first | with_reducible exact Kpt.refl _ _ | with_reducible apply Kpt.alloc | with_reducible apply Kpt.drew | with_reducible apply Kpt.drewN | (refine Kpt.trans (S' := Non) ?_ (by first | assumption | (apply Lib.Hid.out; assumption)) (fun _ e _ => e)))); done)))
          (first
            | (go_at_call 31; ((with_reducible refine (E44'.out _ _ _ (HS.out _ (by ((repeat (first | with_reducible exact Kpt.refl _ _ | with_reducible apply Kpt.alloc | with_reducible apply Kpt.drew | with_reducible apply Kpt.drewN | (refine Kpt.trans (S' := Non) ?_ (by first | assumption | (apply Lib.Hid.out; assumption)) (fun _ e _ => e)))); done))).2.2.2).mono ?_); rintro e wq ⟨v44, rfl, h44, k44⟩))
            | (go_at_call 30; ((with_reducible refine (E43'.out _ _ _ _ _ (by assumption) (HS.out _ (by ((repeat (first | with_reducible exact Kpt.refl _ _ | with_reducible apply Kpt.alloc | with_reducible apply Kpt.drew | with_reducible apply Kpt.drewN | (refine Kpt.trans (S' := Non) ?_ (by first | assumption | (apply Lib.Hid.out; assumption)) (fun _ e _ => e)))); done))).2.2.1).mono ?_); rintro e wq ⟨rfl, k43⟩))
            | fail)
        have kz := (HS.out wq (by ((repeat (first | with_reducible exact Kpt.refl _ _ | with_reducible apply Kpt.alloc | with_reducible apply Kpt.drew | with_reducible apply Kpt.drewN | (refine Kpt.trans (S' := Non) ?_ (by first | assumption | (apply Lib.Hid.out; assumption)) (fun _ e _ => e)))); done))).2.1
        go_wp2_with fail
        go_ret
        exact ⟨rfl, Kpt.trans (Kpt.trans K1r.out K4.out (fun _ e _ => e)) kz (fun _ e _ => e)⟩
      · have h0' : (ee != 0) = true := by rw [bne_iff_ne]; exact h0
        have haa := HAA.out
        rw [if_neg (by rw [HEE.out]; exact h0)] at haa
        subst haa
        obtain ⟨x2, g2, hd2, hx2, e39, -⟩ := decs (s := es) (by decide)
        have E39' := Lib.hid e39
        have H0 := Lib.hid h0
        clear e39 hd2 h0
        go_wp2_with fail
        refine (E39'.out _).mono ?_
        rintro e wf ⟨Ab, cb, rfl, hb, kf⟩
        have KF := Lib.hid kf; clear kf hb
        go_wp2_with fail
        go_quiet (fail)
        go_wp2_with fail
        go_ret
        exact ⟨rfl, Kpt.drewN (Kpt.alloc (Kpt.trans (Kpt.trans K1r.out K4.out (fun _ e _ => e)) KF.out (fun _ e _ => e)) _) _⟩

theorem f5_any (ht : TmV w D t (.agg #[.int .i64 t.epoch, .string t.session, .slice A t.typed.length c, .string t.screen])) (hu : TmV w E u (.agg #[.int .i64 u.epoch, .string u.session, .slice B u.typed.length d, .string u.screen])) (ok : ∀ x ∈ t.typed, x.size ≤ 140737488351232) :
    Calls Tryz.prog 5 #[.agg #[.int .i64 t.epoch, .string t.session, .slice A t.typed.length c, .string t.screen], .agg #[.int .i64 u.epoch, .string u.session, .slice B u.typed.length d, .string u.screen], .string s] w fun e w' => e = .returned (.bool true) ∧ Kpt Non w w' := by
  by_cases h : 20 < t.typed.length ∨ 20 < u.typed.length ∨ 2100 < t.screen.size ∨ 100 < t.session.size ∨ 3000 < s.size
  · exact f5_great ht hu h
  · exact f5_small ht hu ok (by omega) (by omega) (by omega) (by omega) (by omega)
end
end Go.Proofs.YtkpmabknjdgkmaaGreatDoor
