/- The walk of same: an operation of the laws on a terminal of the reference. No condition but that sizes fit the machine. -/
import Derived.Test.YtkpmabknjdgkmaaGreatDoorPlay1
import Derived.Test.YtkpmabknjdgkmaaGreatDoorRef11
namespace Go.Proofs.YtkpmabknjdgkmaaGreatDoor
open Go.RowKit

/-- What same answers. -/
def SamePost (w1 : World) (D : Nat → Prop) (next : Tm) (err : Int) (line : ByteArray) (got : Tm) (e : Ending) (w2 : World) : Prop :=
  ∃ A cp B dq, e = .returned (.tuple #[.agg #[.int .i64 next.epoch, .string next.session, .slice A next.typed.length cp, .string next.screen], .int .i64 err, .string line, .agg #[.int .i64 got.epoch, .string got.session, .slice B got.typed.length dq, .string got.screen]]) ∧
    TmV w2 (fun i => D i ∨ w1.heap.size ≤ i) next (.agg #[.int .i64 next.epoch, .string next.session, .slice A next.typed.length cp, .string next.screen]) ∧
    TmV w2 (fun i => D i ∨ w1.heap.size ≤ i) got (.agg #[.int .i64 got.epoch, .string got.session, .slice B got.typed.length dq, .string got.screen]) ∧ Kpt Non w1 w2

/-- How same stands behind its first three statements: u is the terminal in the epoch. -/
structure SameMid (w1 : World) (D : Nat → Prop) (o : Opn) (u : Tm) (B : Option Addr) (d : Nat) (wc : World) : Prop where
  b2 : Blk wc w1.heap.size 44 #[.int .i64 u.epoch, .string u.session, .slice B u.typed.length d, .string u.screen]
  b3 : Blk wc (w1.heap.size + 1) 74 #[.int .u8 o.kind, .int .i64 o.number, .int .i64 o.epoch, .string o.who, .string o.text]
  b4 : Blk wc (w1.heap.size + 1 + 1) 44 #[.int .i64 u.epoch, .string u.session, .slice B u.typed.length d, .string u.screen]
  b7 : Blk wc (w1.heap.size + 1 + 1 + 1) 44 #[.int .i64 0, .string ⟨#[]⟩, .slice none 0 0, .string ⟨#[]⟩]
  kk : Kpt Non w1 wc
  tv : TmV wc (fun i => D i ∨ w1.heap.size + 1 + 1 + 1 < i) u (.agg #[.int .i64 u.epoch, .string u.session, .slice B u.typed.length d, .string u.screen])

section
variable {w1 : World} {D : Nat → Prop} {o : Opn} {t : Tm} {A : Option Addr} {c : Nat}

theorem same_boxes (w : World) (c2 c3 c4 c7 : Array Value) : Blk ((((w.alloc (.cells c2 44)).alloc (.cells c3 74)).alloc (.cells c4 44)).alloc (.cells c7 44)) w.heap.size 44 c2 ∧
    Blk ((((w.alloc (.cells c2 44)).alloc (.cells c3 74)).alloc (.cells c4 44)).alloc (.cells c7 44)) (w.heap.size + 1) 74 c3 ∧
    Blk ((((w.alloc (.cells c2 44)).alloc (.cells c3 74)).alloc (.cells c4 44)).alloc (.cells c7 44)) (w.heap.size + 1 + 1) 44 c4 ∧
    Blk ((((w.alloc (.cells c2 44)).alloc (.cells c3 74)).alloc (.cells c4 44)).alloc (.cells c7 44)) (w.heap.size + 1 + 1 + 1) 44 c7 ∧
    Kpt Non w ((((w.alloc (.cells c2 44)).alloc (.cells c3 74)).alloc (.cells c4 44)).alloc (.cells c7 44)) := by
  have b3 := Blk.new (w.alloc (.cells c2 44)) 74 c3
  have b4 := Blk.new ((w.alloc (.cells c2 44)).alloc (.cells c3 74)) 44 c4
  have b7 := Blk.new (((w.alloc (.cells c2 44)).alloc (.cells c3 74)).alloc (.cells c4 44)) 44 c7
  simp only [World.size_alloc] at b3 b4 b7
  exact ⟨(((Blk.new w 44 c2).alloc _).alloc _).alloc _, (b3.alloc _).alloc _, b4.alloc _, b7, (((Kpt.alloc (Kpt.refl _ _) _).alloc _).alloc _).alloc _⟩

set_option maxRecDepth 100000 in
set_option maxHeartbeats 1000000 in
theorem f120_begin (hv : TmV w1 D t (.agg #[(.int .i64 t.epoch), (.string t.session), (.slice A t.typed.length c), (.string t.screen)])) (hD : ∀ i, D i → i < w1.heap.size) (hk : o.kind % 8 = 0) (hk0 : 0 ≤ o.kind) (hk1 : o.kind ≤ 255) (hcut : o.cut = o) (_hw : o.who.size ≤ 100) (_ht : o.text.size ≤ 3000)
    (_hs1 : (inRef t o.epoch).screen.size ≤ 1099511627776) (_hs2 : (inRef t o.epoch).typed.length ≤ 1048576) (_hs3 : (inRef t o.epoch).session.size ≤ 140737488351232) :
    Calls Tryz.prog 71 #[.agg #[(.int .i64 t.epoch), (.string t.session), (.slice A t.typed.length c), (.string t.screen)], .agg #[.int .u8 o.kind, .int .i64 o.number, .int .i64 o.epoch, .string o.who, .string o.text]] w1 (SamePost w1 D (beginT o.who (inRef t o.epoch)).1 (beginT o.who (inRef t o.epoch)).2 es zeroT) := by
  have HB := Lib.hid (same_boxes w1 #[(.int .i64 t.epoch), (.string t.session), (.slice A t.typed.length c), (.string t.screen)] #[.int .u8 o.kind, .int .i64 o.number, .int .i64 o.epoch, .string o.who, .string o.text] #[(.int .i64 0), (.string ⟨#[]⟩), (.slice none 0 0), (.string ⟨#[]⟩)] #[(.int .i64 0), (.string ⟨#[]⟩), (.slice none 0 0), (.string ⟨#[]⟩)])
  have HVt := Lib.hid hv
  have e118 := fun w => f118_any o w (by omega) (by omega)
  rw [hcut] at e118
  unfold Opn.val Opn.cells at e118
  have E118 := Lib.hid e118
  have e72 := fun w (k : Kpt Non w1 w) => f72_any t o.epoch _ D w (hv.kpt k (fun _ _ e => e))
  generalize inRef t o.epoch = u at e72 _hs1 _hs2 _hs3 ⊢
  have E72 := Lib.hid e72
  clear e118 hcut hv e72
  obtain ⟨nx, hnx⟩ : ∃ nx, (beginT o.who u).1 = nx := ⟨_, rfl⟩
  obtain ⟨er, her⟩ : ∃ er, (beginT o.who u).2 = er := ⟨_, rfl⟩
  rw [hnx, her]
  have HNX := Lib.hid hnx; have HER := Lib.hid her; clear hnx her
  go_enter Tryz.func71, Tryz.ntmps71
  go_wp2_with fail
  refine (E118.out _).mono ?_
  rintro e w2 ⟨rfl, k2⟩
  have hb2 := HB.out.1.kpt k2 (fun e => e)
  have hb3 := HB.out.2.1.kpt k2 (fun e => e)
  have hb4 := HB.out.2.2.1.kpt k2 (fun e => e)
  have hb7 := HB.out.2.2.2.1.kpt k2 (fun e => e)
  have K2 := Lib.hid (Kpt.trans HB.out.2.2.2.2 k2 (fun _ e _ => e))
  have p0 := hb2.cell 0
  have p1 := hb2.cell 1
  have p2 := hb2.cell 2
  have p3 := hb2.cell 3
  have q0 := hb3.cell 0
  have q1 := hb3.cell 1
  have q2 := hb3.cell 2
  have q3 := hb3.cell 3
  have q4 := hb3.cell 4
  have g0 := hb3.frozen 0
  have g1 := hb3.frozen 1
  have g2 := hb3.frozen 2
  have g3 := hb3.frozen 3
  have g4 := hb3.frozen 4
  simp only [List.getElem?_toArray, List.getElem?_cons_zero, List.getElem?_cons_succ] at p0 p1 p2 p3 q0 q1 q2 q3 q4
  have HB2 := Lib.hid hb2; have HB3 := Lib.hid hb3; have HB4 := Lib.hid hb4; have HB7 := Lib.hid hb7; clear hb2 hb3 hb4 hb7 k2
  go_upto_region 2 with fail
  have kx : Kpt (One (w1.heap.size + 1)) w2 (((((w2.setCell ⟨w1.heap.size + 1, 0, none⟩ (.int .u8 o.kind)).setCell ⟨w1.heap.size + 1, 1, none⟩ (.int .i64 o.number)).setCell ⟨w1.heap.size + 1, 2, none⟩ (.int .i64 o.epoch)).setCell ⟨w1.heap.size + 1, 3, none⟩ (.string o.who)).setCell ⟨w1.heap.size + 1, 4, none⟩ (.string o.text)) := Kpt.set5 (Kpt.refl (One (w1.heap.size + 1)) w2) (fun _ => rfl) _ _ _ _ _
  have hb3 := HB3.out.same5
  generalize (((((w2.setCell ⟨w1.heap.size + 1, 0, none⟩ (.int .u8 o.kind)).setCell ⟨w1.heap.size + 1, 1, none⟩ (.int .i64 o.number)).setCell ⟨w1.heap.size + 1, 2, none⟩ (.int .i64 o.epoch)).setCell ⟨w1.heap.size + 1, 3, none⟩ (.string o.who)).setCell ⟨w1.heap.size + 1, 4, none⟩ (.string o.text)) = w3 at kx hb3 ⊢
  have k3 : Kpt Non w1 w3 := Kpt.trans K2.out kx (fun i e hlt => by have e' : i = w1.heap.size + 1 := e; omega)
  have hb2 := HB2.out.kpt kx (fun e => by have e' : w1.heap.size = w1.heap.size + 1 := e; omega)
  have hb4 := HB4.out.kpt kx (fun e => by have e' : w1.heap.size + 1 + 1 = w1.heap.size + 1 := e; omega)
  have hb7 := HB7.out.kpt kx (fun e => by have e' : w1.heap.size + 1 + 1 + 1 = w1.heap.size + 1 := e; omega)
  clear p0 p1 p2 p3 q0 q1 q2 q3 q4 g0 g1 g2 g3 g4 HB2 HB3 HB4 HB7 kx K2
  have p0 := hb2.cell 0
  have p1 := hb2.cell 1
  have p2 := hb2.cell 2
  have p3 := hb2.cell 3
  have q0 := hb3.cell 0
  have q1 := hb3.cell 1
  have q2 := hb3.cell 2
  have q3 := hb3.cell 3
  have q4 := hb3.cell 4
  simp only [List.getElem?_toArray, List.getElem?_cons_zero, List.getElem?_cons_succ] at p0 p1 p2 p3 q0 q1 q2 q3 q4
  have HB2 := Lib.hid hb2; have HB3 := Lib.hid hb3; have HB4 := Lib.hid hb4; have HB7 := Lib.hid hb7; have K3 := Lib.hid k3; clear hb2 hb3 hb4 hb7 k3
  go_wp2_with fail
  refine (E72.out _ K3.out).mono ?_
  rintro e w4 ⟨v4, rfl, ⟨B, d, rfl, hd1, hd2, hdr⟩, k4⟩
  have hb2 := HB2.out.kpt k4 (fun e => e)
  have hb3 := HB3.out.kpt k4 (fun e => e)
  have hb4 := HB4.out.kpt k4 (fun e => e)
  have hb7 := HB7.out.kpt k4 (fun e => e)
  have h3lt := HB7.out.lt
  clear p0 p1 p2 p3 q0 q1 q2 q3 q4
  have p0 := hb2.cell 0
  have p1 := hb2.cell 1
  have p2 := hb2.cell 2
  have p3 := hb2.cell 3
  have g0 := hb2.frozen 0
  have g1 := hb2.frozen 1
  have g2 := hb2.frozen 2
  have g3 := hb2.frozen 3
  have r0 := hb4.cell 0
  have r1 := hb4.cell 1
  have r2 := hb4.cell 2
  have r3 := hb4.cell 3
  have f0 := hb4.frozen 0
  have f1 := hb4.frozen 1
  have f2 := hb4.frozen 2
  have f3 := hb4.frozen 3
  simp only [List.getElem?_toArray, List.getElem?_cons_zero, List.getElem?_cons_succ] at p0 p1 p2 p3 r0 r1 r2 r3
  have K4 := Lib.hid (Kpt.trans K3.out k4 (fun _ e _ => e)); have HR := Lib.hid hdr; clear HB2 HB3 HB4 HB7
  have HB2 := Lib.hid hb2; have HB3 := Lib.hid hb3; have HB4 := Lib.hid hb4; have HB7 := Lib.hid hb7; clear hb2 hb3 hb4 hb7 k4 hdr
  have hn12 : w1.heap.size ≠ w1.heap.size + 1 + 1 := by omega
  go_upto_region 4 with fail
  have hm : SameMid w1 D o u B d ((((((((w4.setCell ⟨w1.heap.size, 0, none⟩ (.int .i64 u.epoch)).setCell ⟨w1.heap.size, 1, none⟩ (.string u.session)).setCell ⟨w1.heap.size, 2, none⟩ (.slice B u.typed.length d)).setCell ⟨w1.heap.size, 3, none⟩ (.string u.screen)).setCell ⟨w1.heap.size + 1 + 1, 0, none⟩ (.int .i64 u.epoch)).setCell ⟨w1.heap.size + 1 + 1, 1, none⟩ (.string u.session)).setCell ⟨w1.heap.size + 1 + 1, 2, none⟩ (.slice B u.typed.length d)).setCell ⟨w1.heap.size + 1 + 1, 3, none⟩ (.string u.screen)) := by
    have ka : Kpt (One w1.heap.size) w4 ((((w4.setCell ⟨w1.heap.size, 0, none⟩ (.int .i64 u.epoch)).setCell ⟨w1.heap.size, 1, none⟩ (.string u.session)).setCell ⟨w1.heap.size, 2, none⟩ (.slice B u.typed.length d)).setCell ⟨w1.heap.size, 3, none⟩ (.string u.screen)) := Kpt.set4 (Kpt.refl (One w1.heap.size) w4) (fun _ => rfl) _ _ _ _
    have kb : Kpt (One (w1.heap.size + 1 + 1)) ((((w4.setCell ⟨w1.heap.size, 0, none⟩ (.int .i64 u.epoch)).setCell ⟨w1.heap.size, 1, none⟩ (.string u.session)).setCell ⟨w1.heap.size, 2, none⟩ (.slice B u.typed.length d)).setCell ⟨w1.heap.size, 3, none⟩ (.string u.screen)) ((((((((w4.setCell ⟨w1.heap.size, 0, none⟩ (.int .i64 u.epoch)).setCell ⟨w1.heap.size, 1, none⟩ (.string u.session)).setCell ⟨w1.heap.size, 2, none⟩ (.slice B u.typed.length d)).setCell ⟨w1.heap.size, 3, none⟩ (.string u.screen)).setCell ⟨w1.heap.size + 1 + 1, 0, none⟩ (.int .i64 u.epoch)).setCell ⟨w1.heap.size + 1 + 1, 1, none⟩ (.string u.session)).setCell ⟨w1.heap.size + 1 + 1, 2, none⟩ (.slice B u.typed.length d)).setCell ⟨w1.heap.size + 1 + 1, 3, none⟩ (.string u.screen)) := Kpt.set4 (Kpt.refl (One (w1.heap.size + 1 + 1)) _) (fun _ => rfl) _ _ _ _
    have ba := HB2.out.set4 (.int .i64 u.epoch) (.string u.session) (.slice B u.typed.length d) (.string u.screen)
    have b4a := HB4.out.kpt ka (fun e => by have e' : w1.heap.size + 1 + 1 = w1.heap.size := e; omega)
    refine ⟨ba.kpt kb (fun e => by have e' : w1.heap.size = w1.heap.size + 1 + 1 := e; omega), (HB3.out.kpt ka (fun e => by have e' : w1.heap.size + 1 = w1.heap.size := e; omega)).kpt kb (fun e => by have e' : w1.heap.size + 1 = w1.heap.size + 1 + 1 := e; omega), b4a.set4 _ _ _ _,
      (HB7.out.kpt ka (fun e => by have e' : w1.heap.size + 1 + 1 + 1 = w1.heap.size := e; omega)).kpt kb (fun e => by have e' : w1.heap.size + 1 + 1 + 1 = w1.heap.size + 1 + 1 := e; omega), Kpt.trans (Kpt.trans K4.out ka (fun i e hlt => by have e' : i = w1.heap.size := e; omega)) kb (fun i e hlt => by have e' : i = w1.heap.size + 1 + 1 := e; omega), ?_⟩
    have hD' : ∀ i, (D i ∨ w3.heap.size ≤ i) → i ≠ w1.heap.size ∧ i ≠ w1.heap.size + 1 + 1 := fun i h => by
      rcases h with h | h
      · have := hD i h; omega
      · omega
    exact ⟨B, d, rfl, hd1, hd2, ((HR.out.kpt ka (fun i h e => (hD' i h).1 e)).kpt kb (fun i h e => (hD' i h).2 e)).more (fun i h => by rcases h with h | h; exact .inl h; right; omega)⟩
  generalize ((((((((w4.setCell ⟨w1.heap.size, 0, none⟩ (.int .i64 u.epoch)).setCell ⟨w1.heap.size, 1, none⟩ (.string u.session)).setCell ⟨w1.heap.size, 2, none⟩ (.slice B u.typed.length d)).setCell ⟨w1.heap.size, 3, none⟩ (.string u.screen)).setCell ⟨w1.heap.size + 1 + 1, 0, none⟩ (.int .i64 u.epoch)).setCell ⟨w1.heap.size + 1 + 1, 1, none⟩ (.string u.session)).setCell ⟨w1.heap.size + 1 + 1, 2, none⟩ (.slice B u.typed.length d)).setCell ⟨w1.heap.size + 1 + 1, 3, none⟩ (.string u.screen)) = wc at hm ⊢
  clear p0 p1 p2 p3 r0 r1 r2 r3 g0 g1 g2 g3 f0 f1 f2 f3 HB2 HB3 HB4 HB7 HR K4 h3lt
  have hb2 := hm.b2
  have hb3 := hm.b3
  have hb4 := hm.b4
  have hb7 := hm.b7
  have p0 := hb2.cell 0
  have p1 := hb2.cell 1
  have p2 := hb2.cell 2
  have p3 := hb2.cell 3
  have q0 := hb3.cell 0
  have q1 := hb3.cell 1
  have q2 := hb3.cell 2
  have q3 := hb3.cell 3
  have q4 := hb3.cell 4
  simp only [List.getElem?_toArray, List.getElem?_cons_zero, List.getElem?_cons_succ] at p0 p1 p2 p3 q0 q1 q2 q3 q4
  have HM := Lib.hid hm; have HTv := Lib.hid hm.tv; clear hb2 hb3 hb4 hb7 hm hd1 hd2
  have ecall := (f176_any u o.who _ _ wc HTv.out (by omega))
  rw [HNX.out, HER.out] at ecall
  have HC := Lib.hid ecall; clear ecall HNX HER
  go_wp2_with fail
  refine HC.out.mono ?_
  rintro e w5 ⟨v5, rfl, ⟨E, m, rfl, hm1, hm2, hmr⟩, k5⟩
  have hb4 := HM.out.b4.kpt k5 (fun e => e)
  clear p0 p1 p2 p3 q0 q1 q2 q3 q4
  have r0 := hb4.cell 0
  have r1 := hb4.cell 1
  have r2 := hb4.cell 2
  have r3 := hb4.cell 3
  have f0 := hb4.frozen 0
  have f1 := hb4.frozen 1
  have f2 := hb4.frozen 2
  have f3 := hb4.frozen 3
  simp only [List.getElem?_toArray, List.getElem?_cons_zero, List.getElem?_cons_succ] at r0 r1 r2 r3
  have HB4 := Lib.hid hb4; have HR5 := Lib.hid hmr; have K5 := Lib.hid k5; clear hb4 hmr k5 HC
  go_upto_region 18 with fail
  have hb4 := HB4.out.set4 (.int .i64 nx.epoch) (.string nx.session) (.slice E nx.typed.length m) (.string nx.screen)
  have kx : Kpt (One (w1.heap.size + 1 + 1)) w5 ((((w5.setCell ⟨w1.heap.size + 1 + 1, 0, none⟩ (.int .i64 nx.epoch)).setCell ⟨w1.heap.size + 1 + 1, 1, none⟩ (.string nx.session)).setCell ⟨w1.heap.size + 1 + 1, 2, none⟩ (.slice E nx.typed.length m)).setCell ⟨w1.heap.size + 1 + 1, 3, none⟩ (.string nx.screen)) := Kpt.set4 (Kpt.refl (One (w1.heap.size + 1 + 1)) w5) (fun _ => rfl) _ _ _ _
  generalize ((((w5.setCell ⟨w1.heap.size + 1 + 1, 0, none⟩ (.int .i64 nx.epoch)).setCell ⟨w1.heap.size + 1 + 1, 1, none⟩ (.string nx.session)).setCell ⟨w1.heap.size + 1 + 1, 2, none⟩ (.slice E nx.typed.length m)).setCell ⟨w1.heap.size + 1 + 1, 3, none⟩ (.string nx.screen)) = w6 at hb4 kx ⊢
  have hb7 := (HM.out.b7.kpt K5.out (fun e => e)).kpt kx (fun e => by have e' : w1.heap.size + 1 + 1 + 1 = w1.heap.size + 1 + 1 := e; omega)
  have k6 : Kpt Non w1 w6 := Kpt.trans (Kpt.trans HM.out.kk K5.out (fun _ e _ => e)) kx (fun i e hlt => by have e' : i = w1.heap.size + 1 + 1 := e; omega)
  have hcl := HM.out.b7.lt
  have hr6 := (HR5.out.kpt kx (fun i h e => by have e' : i = w1.heap.size + 1 + 1 := e; rcases h with (h | h) | h; have := hD i h; omega; omega; omega)).more (D' := fun i => D i ∨ w1.heap.size + 1 + 1 + 1 < i) (fun i h => by rcases h with (h | h) | h; exact .inl h; right; omega; right; omega)
  clear r0 r1 r2 r3 f0 f1 f2 f3 kx HB4
  have n0 : nx.typed.length ≤ m := hm1
  have r0 := hb4.cell 0
  have r1 := hb4.cell 1
  have r2 := hb4.cell 2
  have r3 := hb4.cell 3
  have f0 := hb4.frozen 0
  have f1 := hb4.frozen 1
  have f2 := hb4.frozen 2
  have f3 := hb4.frozen 3
  have z0 := hb7.cell 0
  have z1 := hb7.cell 1
  have z2 := hb7.cell 2
  have z3 := hb7.cell 3
  have g0 := hb7.frozen 0
  have g1 := hb7.frozen 1
  have g2 := hb7.frozen 2
  have g3 := hb7.frozen 3
  simp only [List.getElem?_toArray, List.getElem?_cons_zero, List.getElem?_cons_succ] at r0 r1 r2 r3 z0 z1 z2 z3
  have HB4 := Lib.hid hb4; have HB7 := Lib.hid hb7; have HR6 := Lib.hid hr6; have K6 := Lib.hid k6; clear hb4 hb7 hr6 k6
  have hn47 : w1.heap.size + 1 + 1 ≠ w1.heap.size + 1 + 1 + 1 := by omega
  go_region
  go_wp2_with fail
  have hz4 := (HB4.out.set4 (.int .i64 nx.epoch) (.string nx.session) (.slice E nx.typed.length m) (.string nx.screen)).kpt (Kpt.set4 (Kpt.refl (One (w1.heap.size + 1 + 1 + 1)) _) (fun _ => rfl) (.int .i64 0) (.string ⟨#[]⟩) (.slice none 0 0) (.string ⟨#[]⟩)) (fun e => by have e' : w1.heap.size + 1 + 1 = w1.heap.size + 1 + 1 + 1 := e; omega)
  have hz7 := (HB7.out.kpt (Kpt.set4 (Kpt.refl (One (w1.heap.size + 1 + 1)) w6) (fun _ => rfl) (.int .i64 nx.epoch) (.string nx.session) (.slice E nx.typed.length m) (.string nx.screen)) (fun e => by have e' : w1.heap.size + 1 + 1 + 1 = w1.heap.size + 1 + 1 := e; omega)).set4 (.int .i64 0) (.string ⟨#[]⟩) (.slice none 0 0) (.string ⟨#[]⟩)
  have kz : Kpt (fun i => i = w1.heap.size + 1 + 1 ∨ i = w1.heap.size + 1 + 1 + 1) w6 (((((((((w6.setCell ⟨w1.heap.size + 1 + 1, 0, none⟩ (.int .i64 nx.epoch)).setCell ⟨w1.heap.size + 1 + 1, 1, none⟩ (.string nx.session)).setCell ⟨w1.heap.size + 1 + 1, 2, none⟩ (.slice E nx.typed.length m)).setCell ⟨w1.heap.size + 1 + 1, 3, none⟩ (.string nx.screen)).setCell ⟨w1.heap.size + 1 + 1 + 1, 0, none⟩ (.int .i64 0)).setCell ⟨w1.heap.size + 1 + 1 + 1, 1, none⟩ (.string ⟨#[]⟩)).setCell ⟨w1.heap.size + 1 + 1 + 1, 2, none⟩ (.slice none 0 0)).setCell ⟨w1.heap.size + 1 + 1 + 1, 3, none⟩ (.string ⟨#[]⟩))).drew := Kpt.drew (Kpt.set4 (Kpt.set4 (Kpt.refl _ w6) (fun _ => .inl rfl) _ _ _ _) (fun _ => .inr rfl) _ _ _ _)
  have kf : Kpt Non w1 (((((((((w6.setCell ⟨w1.heap.size + 1 + 1, 0, none⟩ (.int .i64 nx.epoch)).setCell ⟨w1.heap.size + 1 + 1, 1, none⟩ (.string nx.session)).setCell ⟨w1.heap.size + 1 + 1, 2, none⟩ (.slice E nx.typed.length m)).setCell ⟨w1.heap.size + 1 + 1, 3, none⟩ (.string nx.screen)).setCell ⟨w1.heap.size + 1 + 1 + 1, 0, none⟩ (.int .i64 0)).setCell ⟨w1.heap.size + 1 + 1 + 1, 1, none⟩ (.string ⟨#[]⟩)).setCell ⟨w1.heap.size + 1 + 1 + 1, 2, none⟩ (.slice none 0 0)).setCell ⟨w1.heap.size + 1 + 1 + 1, 3, none⟩ (.string ⟨#[]⟩))).drew := Kpt.trans K6.out kz (fun i e hlt => by rcases e with e | e <;> omega)
  have hy4 := hz4.drew
  have hy7 := hz7.drew
  have y0 := hy4.cell 0
  have y1 := hy4.cell 1
  have y2 := hy4.cell 2
  have y3 := hy4.cell 3
  have x0 := hy7.cell 0
  have x1 := hy7.cell 1
  have x2 := hy7.cell 2
  have x3 := hy7.cell 3
  simp only [List.getElem?_toArray, List.getElem?_cons_zero, List.getElem?_cons_succ] at y0 y1 y2 y3 x0 x1 x2 x3
  refine bodyPost_ret (v := .tuple #[.agg #[(.int .i64 nx.epoch), (.string nx.session), (.slice E nx.typed.length m), (.string nx.screen)], .int .i64 er, .string ⟨#[]⟩, .agg #[(.int .i64 0), (.string ⟨#[]⟩), (.slice none 0 0), (.string ⟨#[]⟩)]]) ?_ rfl ⟨E, m, none, 0, rfl, ⟨E, m, rfl, hm1, hm2, (HR6.out.kpt kz (fun i h e => by rcases e with e | e; rcases h with h | h; have := hD i h; omega; omega; rcases h with h | h; have := hD i h; omega; omega)).more (fun i h => by rcases h with h | h; exact .inl h; right; omega)⟩, tmv_zero _ _, kf⟩
  clear hz4 hz7 kz kf hy4 hy7
  generalize (((((((((w6.setCell ⟨w1.heap.size + 1 + 1, 0, none⟩ (.int .i64 nx.epoch)).setCell ⟨w1.heap.size + 1 + 1, 1, none⟩ (.string nx.session)).setCell ⟨w1.heap.size + 1 + 1, 2, none⟩ (.slice E nx.typed.length m)).setCell ⟨w1.heap.size + 1 + 1, 3, none⟩ (.string nx.screen)).setCell ⟨w1.heap.size + 1 + 1 + 1, 0, none⟩ (.int .i64 0)).setCell ⟨w1.heap.size + 1 + 1 + 1, 1, none⟩ (.string ⟨#[]⟩)).setCell ⟨w1.heap.size + 1 + 1 + 1, 2, none⟩ (.slice none 0 0)).setCell ⟨w1.heap.size + 1 + 1 + 1, 3, none⟩ (.string ⟨#[]⟩))).drew = wf at y0 y1 y2 y3 x0 x1 x2 x3
  simp [results, Tryz.results71, go_sem, y0, y1, y2, y3, x0, x1, x2, x3]
set_option maxRecDepth 100000 in
set_option maxHeartbeats 1000000 in
theorem f120_end (hv : TmV w1 D t (.agg #[(.int .i64 t.epoch), (.string t.session), (.slice A t.typed.length c), (.string t.screen)])) (hD : ∀ i, D i → i < w1.heap.size) (hk : o.kind % 8 = 1) (hk0 : 0 ≤ o.kind) (hk1 : o.kind ≤ 255) (hcut : o.cut = o) (_hw : o.who.size ≤ 100) (_ht : o.text.size ≤ 3000)
    (_hs1 : (inRef t o.epoch).screen.size ≤ 1099511627776) (_hs2 : (inRef t o.epoch).typed.length ≤ 1048576) (_hs3 : (inRef t o.epoch).session.size ≤ 140737488351232) :
    Calls Tryz.prog 71 #[.agg #[(.int .i64 t.epoch), (.string t.session), (.slice A t.typed.length c), (.string t.screen)], .agg #[.int .u8 o.kind, .int .i64 o.number, .int .i64 o.epoch, .string o.who, .string o.text]] w1 (SamePost w1 D (endT o.who (inRef t o.epoch)).1 (endT o.who (inRef t o.epoch)).2 es zeroT) := by
  have HB := Lib.hid (same_boxes w1 #[(.int .i64 t.epoch), (.string t.session), (.slice A t.typed.length c), (.string t.screen)] #[.int .u8 o.kind, .int .i64 o.number, .int .i64 o.epoch, .string o.who, .string o.text] #[(.int .i64 0), (.string ⟨#[]⟩), (.slice none 0 0), (.string ⟨#[]⟩)] #[(.int .i64 0), (.string ⟨#[]⟩), (.slice none 0 0), (.string ⟨#[]⟩)])
  have HVt := Lib.hid hv
  have e118 := fun w => f118_any o w (by omega) (by omega)
  rw [hcut] at e118
  unfold Opn.val Opn.cells at e118
  have E118 := Lib.hid e118
  have e72 := fun w (k : Kpt Non w1 w) => f72_any t o.epoch _ D w (hv.kpt k (fun _ _ e => e))
  generalize inRef t o.epoch = u at e72 _hs1 _hs2 _hs3 ⊢
  have E72 := Lib.hid e72
  clear e118 hcut hv e72
  obtain ⟨nx, hnx⟩ : ∃ nx, (endT o.who u).1 = nx := ⟨_, rfl⟩
  obtain ⟨er, her⟩ : ∃ er, (endT o.who u).2 = er := ⟨_, rfl⟩
  rw [hnx, her]
  have HNX := Lib.hid hnx; have HER := Lib.hid her; clear hnx her
  go_enter Tryz.func71, Tryz.ntmps71
  go_wp2_with fail
  refine (E118.out _).mono ?_
  rintro e w2 ⟨rfl, k2⟩
  have hb2 := HB.out.1.kpt k2 (fun e => e)
  have hb3 := HB.out.2.1.kpt k2 (fun e => e)
  have hb4 := HB.out.2.2.1.kpt k2 (fun e => e)
  have hb7 := HB.out.2.2.2.1.kpt k2 (fun e => e)
  have K2 := Lib.hid (Kpt.trans HB.out.2.2.2.2 k2 (fun _ e _ => e))
  have p0 := hb2.cell 0
  have p1 := hb2.cell 1
  have p2 := hb2.cell 2
  have p3 := hb2.cell 3
  have q0 := hb3.cell 0
  have q1 := hb3.cell 1
  have q2 := hb3.cell 2
  have q3 := hb3.cell 3
  have q4 := hb3.cell 4
  have g0 := hb3.frozen 0
  have g1 := hb3.frozen 1
  have g2 := hb3.frozen 2
  have g3 := hb3.frozen 3
  have g4 := hb3.frozen 4
  simp only [List.getElem?_toArray, List.getElem?_cons_zero, List.getElem?_cons_succ] at p0 p1 p2 p3 q0 q1 q2 q3 q4
  have HB2 := Lib.hid hb2; have HB3 := Lib.hid hb3; have HB4 := Lib.hid hb4; have HB7 := Lib.hid hb7; clear hb2 hb3 hb4 hb7 k2
  go_upto_region 2 with fail
  have kx : Kpt (One (w1.heap.size + 1)) w2 (((((w2.setCell ⟨w1.heap.size + 1, 0, none⟩ (.int .u8 o.kind)).setCell ⟨w1.heap.size + 1, 1, none⟩ (.int .i64 o.number)).setCell ⟨w1.heap.size + 1, 2, none⟩ (.int .i64 o.epoch)).setCell ⟨w1.heap.size + 1, 3, none⟩ (.string o.who)).setCell ⟨w1.heap.size + 1, 4, none⟩ (.string o.text)) := Kpt.set5 (Kpt.refl (One (w1.heap.size + 1)) w2) (fun _ => rfl) _ _ _ _ _
  have hb3 := HB3.out.same5
  generalize (((((w2.setCell ⟨w1.heap.size + 1, 0, none⟩ (.int .u8 o.kind)).setCell ⟨w1.heap.size + 1, 1, none⟩ (.int .i64 o.number)).setCell ⟨w1.heap.size + 1, 2, none⟩ (.int .i64 o.epoch)).setCell ⟨w1.heap.size + 1, 3, none⟩ (.string o.who)).setCell ⟨w1.heap.size + 1, 4, none⟩ (.string o.text)) = w3 at kx hb3 ⊢
  have k3 : Kpt Non w1 w3 := Kpt.trans K2.out kx (fun i e hlt => by have e' : i = w1.heap.size + 1 := e; omega)
  have hb2 := HB2.out.kpt kx (fun e => by have e' : w1.heap.size = w1.heap.size + 1 := e; omega)
  have hb4 := HB4.out.kpt kx (fun e => by have e' : w1.heap.size + 1 + 1 = w1.heap.size + 1 := e; omega)
  have hb7 := HB7.out.kpt kx (fun e => by have e' : w1.heap.size + 1 + 1 + 1 = w1.heap.size + 1 := e; omega)
  clear p0 p1 p2 p3 q0 q1 q2 q3 q4 g0 g1 g2 g3 g4 HB2 HB3 HB4 HB7 kx K2
  have p0 := hb2.cell 0
  have p1 := hb2.cell 1
  have p2 := hb2.cell 2
  have p3 := hb2.cell 3
  have q0 := hb3.cell 0
  have q1 := hb3.cell 1
  have q2 := hb3.cell 2
  have q3 := hb3.cell 3
  have q4 := hb3.cell 4
  simp only [List.getElem?_toArray, List.getElem?_cons_zero, List.getElem?_cons_succ] at p0 p1 p2 p3 q0 q1 q2 q3 q4
  have HB2 := Lib.hid hb2; have HB3 := Lib.hid hb3; have HB4 := Lib.hid hb4; have HB7 := Lib.hid hb7; have K3 := Lib.hid k3; clear hb2 hb3 hb4 hb7 k3
  go_wp2_with fail
  refine (E72.out _ K3.out).mono ?_
  rintro e w4 ⟨v4, rfl, ⟨B, d, rfl, hd1, hd2, hdr⟩, k4⟩
  have hb2 := HB2.out.kpt k4 (fun e => e)
  have hb3 := HB3.out.kpt k4 (fun e => e)
  have hb4 := HB4.out.kpt k4 (fun e => e)
  have hb7 := HB7.out.kpt k4 (fun e => e)
  have h3lt := HB7.out.lt
  clear p0 p1 p2 p3 q0 q1 q2 q3 q4
  have p0 := hb2.cell 0
  have p1 := hb2.cell 1
  have p2 := hb2.cell 2
  have p3 := hb2.cell 3
  have g0 := hb2.frozen 0
  have g1 := hb2.frozen 1
  have g2 := hb2.frozen 2
  have g3 := hb2.frozen 3
  have r0 := hb4.cell 0
  have r1 := hb4.cell 1
  have r2 := hb4.cell 2
  have r3 := hb4.cell 3
  have f0 := hb4.frozen 0
  have f1 := hb4.frozen 1
  have f2 := hb4.frozen 2
  have f3 := hb4.frozen 3
  simp only [List.getElem?_toArray, List.getElem?_cons_zero, List.getElem?_cons_succ] at p0 p1 p2 p3 r0 r1 r2 r3
  have K4 := Lib.hid (Kpt.trans K3.out k4 (fun _ e _ => e)); have HR := Lib.hid hdr; clear HB2 HB3 HB4 HB7
  have HB2 := Lib.hid hb2; have HB3 := Lib.hid hb3; have HB4 := Lib.hid hb4; have HB7 := Lib.hid hb7; clear hb2 hb3 hb4 hb7 k4 hdr
  have hn12 : w1.heap.size ≠ w1.heap.size + 1 + 1 := by omega
  go_upto_region 4 with fail
  have hm : SameMid w1 D o u B d ((((((((w4.setCell ⟨w1.heap.size, 0, none⟩ (.int .i64 u.epoch)).setCell ⟨w1.heap.size, 1, none⟩ (.string u.session)).setCell ⟨w1.heap.size, 2, none⟩ (.slice B u.typed.length d)).setCell ⟨w1.heap.size, 3, none⟩ (.string u.screen)).setCell ⟨w1.heap.size + 1 + 1, 0, none⟩ (.int .i64 u.epoch)).setCell ⟨w1.heap.size + 1 + 1, 1, none⟩ (.string u.session)).setCell ⟨w1.heap.size + 1 + 1, 2, none⟩ (.slice B u.typed.length d)).setCell ⟨w1.heap.size + 1 + 1, 3, none⟩ (.string u.screen)) := by
    have ka : Kpt (One w1.heap.size) w4 ((((w4.setCell ⟨w1.heap.size, 0, none⟩ (.int .i64 u.epoch)).setCell ⟨w1.heap.size, 1, none⟩ (.string u.session)).setCell ⟨w1.heap.size, 2, none⟩ (.slice B u.typed.length d)).setCell ⟨w1.heap.size, 3, none⟩ (.string u.screen)) := Kpt.set4 (Kpt.refl (One w1.heap.size) w4) (fun _ => rfl) _ _ _ _
    have kb : Kpt (One (w1.heap.size + 1 + 1)) ((((w4.setCell ⟨w1.heap.size, 0, none⟩ (.int .i64 u.epoch)).setCell ⟨w1.heap.size, 1, none⟩ (.string u.session)).setCell ⟨w1.heap.size, 2, none⟩ (.slice B u.typed.length d)).setCell ⟨w1.heap.size, 3, none⟩ (.string u.screen)) ((((((((w4.setCell ⟨w1.heap.size, 0, none⟩ (.int .i64 u.epoch)).setCell ⟨w1.heap.size, 1, none⟩ (.string u.session)).setCell ⟨w1.heap.size, 2, none⟩ (.slice B u.typed.length d)).setCell ⟨w1.heap.size, 3, none⟩ (.string u.screen)).setCell ⟨w1.heap.size + 1 + 1, 0, none⟩ (.int .i64 u.epoch)).setCell ⟨w1.heap.size + 1 + 1, 1, none⟩ (.string u.session)).setCell ⟨w1.heap.size + 1 + 1, 2, none⟩ (.slice B u.typed.length d)).setCell ⟨w1.heap.size + 1 + 1, 3, none⟩ (.string u.screen)) := Kpt.set4 (Kpt.refl (One (w1.heap.size + 1 + 1)) _) (fun _ => rfl) _ _ _ _
    have ba := HB2.out.set4 (.int .i64 u.epoch) (.string u.session) (.slice B u.typed.length d) (.string u.screen)
    have b4a := HB4.out.kpt ka (fun e => by have e' : w1.heap.size + 1 + 1 = w1.heap.size := e; omega)
    refine ⟨ba.kpt kb (fun e => by have e' : w1.heap.size = w1.heap.size + 1 + 1 := e; omega), (HB3.out.kpt ka (fun e => by have e' : w1.heap.size + 1 = w1.heap.size := e; omega)).kpt kb (fun e => by have e' : w1.heap.size + 1 = w1.heap.size + 1 + 1 := e; omega), b4a.set4 _ _ _ _,
      (HB7.out.kpt ka (fun e => by have e' : w1.heap.size + 1 + 1 + 1 = w1.heap.size := e; omega)).kpt kb (fun e => by have e' : w1.heap.size + 1 + 1 + 1 = w1.heap.size + 1 + 1 := e; omega), Kpt.trans (Kpt.trans K4.out ka (fun i e hlt => by have e' : i = w1.heap.size := e; omega)) kb (fun i e hlt => by have e' : i = w1.heap.size + 1 + 1 := e; omega), ?_⟩
    have hD' : ∀ i, (D i ∨ w3.heap.size ≤ i) → i ≠ w1.heap.size ∧ i ≠ w1.heap.size + 1 + 1 := fun i h => by
      rcases h with h | h
      · have := hD i h; omega
      · omega
    exact ⟨B, d, rfl, hd1, hd2, ((HR.out.kpt ka (fun i h e => (hD' i h).1 e)).kpt kb (fun i h e => (hD' i h).2 e)).more (fun i h => by rcases h with h | h; exact .inl h; right; omega)⟩
  generalize ((((((((w4.setCell ⟨w1.heap.size, 0, none⟩ (.int .i64 u.epoch)).setCell ⟨w1.heap.size, 1, none⟩ (.string u.session)).setCell ⟨w1.heap.size, 2, none⟩ (.slice B u.typed.length d)).setCell ⟨w1.heap.size, 3, none⟩ (.string u.screen)).setCell ⟨w1.heap.size + 1 + 1, 0, none⟩ (.int .i64 u.epoch)).setCell ⟨w1.heap.size + 1 + 1, 1, none⟩ (.string u.session)).setCell ⟨w1.heap.size + 1 + 1, 2, none⟩ (.slice B u.typed.length d)).setCell ⟨w1.heap.size + 1 + 1, 3, none⟩ (.string u.screen)) = wc at hm ⊢
  clear p0 p1 p2 p3 r0 r1 r2 r3 g0 g1 g2 g3 f0 f1 f2 f3 HB2 HB3 HB4 HB7 HR K4 h3lt
  have hb2 := hm.b2
  have hb3 := hm.b3
  have hb4 := hm.b4
  have hb7 := hm.b7
  have p0 := hb2.cell 0
  have p1 := hb2.cell 1
  have p2 := hb2.cell 2
  have p3 := hb2.cell 3
  have q0 := hb3.cell 0
  have q1 := hb3.cell 1
  have q2 := hb3.cell 2
  have q3 := hb3.cell 3
  have q4 := hb3.cell 4
  simp only [List.getElem?_toArray, List.getElem?_cons_zero, List.getElem?_cons_succ] at p0 p1 p2 p3 q0 q1 q2 q3 q4
  have HM := Lib.hid hm; have HTv := Lib.hid hm.tv; clear hb2 hb3 hb4 hb7 hm hd1 hd2
  have ecall := (f177_any u o.who _ _ wc HTv.out)
  rw [HNX.out, HER.out] at ecall
  have HC := Lib.hid ecall; clear ecall HNX HER
  go_wp2_with fail
  refine HC.out.mono ?_
  rintro e w5 ⟨v5, rfl, ⟨E, m, rfl, hm1, hm2, hmr⟩, k5⟩
  have hb4 := HM.out.b4.kpt k5 (fun e => e)
  clear p0 p1 p2 p3 q0 q1 q2 q3 q4
  have r0 := hb4.cell 0
  have r1 := hb4.cell 1
  have r2 := hb4.cell 2
  have r3 := hb4.cell 3
  have f0 := hb4.frozen 0
  have f1 := hb4.frozen 1
  have f2 := hb4.frozen 2
  have f3 := hb4.frozen 3
  simp only [List.getElem?_toArray, List.getElem?_cons_zero, List.getElem?_cons_succ] at r0 r1 r2 r3
  have HB4 := Lib.hid hb4; have HR5 := Lib.hid hmr; have K5 := Lib.hid k5; clear hb4 hmr k5 HC
  go_upto_region 18 with fail
  have hb4 := HB4.out.set4 (.int .i64 nx.epoch) (.string nx.session) (.slice E nx.typed.length m) (.string nx.screen)
  have kx : Kpt (One (w1.heap.size + 1 + 1)) w5 ((((w5.setCell ⟨w1.heap.size + 1 + 1, 0, none⟩ (.int .i64 nx.epoch)).setCell ⟨w1.heap.size + 1 + 1, 1, none⟩ (.string nx.session)).setCell ⟨w1.heap.size + 1 + 1, 2, none⟩ (.slice E nx.typed.length m)).setCell ⟨w1.heap.size + 1 + 1, 3, none⟩ (.string nx.screen)) := Kpt.set4 (Kpt.refl (One (w1.heap.size + 1 + 1)) w5) (fun _ => rfl) _ _ _ _
  generalize ((((w5.setCell ⟨w1.heap.size + 1 + 1, 0, none⟩ (.int .i64 nx.epoch)).setCell ⟨w1.heap.size + 1 + 1, 1, none⟩ (.string nx.session)).setCell ⟨w1.heap.size + 1 + 1, 2, none⟩ (.slice E nx.typed.length m)).setCell ⟨w1.heap.size + 1 + 1, 3, none⟩ (.string nx.screen)) = w6 at hb4 kx ⊢
  have hb7 := (HM.out.b7.kpt K5.out (fun e => e)).kpt kx (fun e => by have e' : w1.heap.size + 1 + 1 + 1 = w1.heap.size + 1 + 1 := e; omega)
  have k6 : Kpt Non w1 w6 := Kpt.trans (Kpt.trans HM.out.kk K5.out (fun _ e _ => e)) kx (fun i e hlt => by have e' : i = w1.heap.size + 1 + 1 := e; omega)
  have hcl := HM.out.b7.lt
  have hr6 := (HR5.out.kpt kx (fun i h e => by have e' : i = w1.heap.size + 1 + 1 := e; rcases h with (h | h) | h; have := hD i h; omega; omega; omega)).more (D' := fun i => D i ∨ w1.heap.size + 1 + 1 + 1 < i) (fun i h => by rcases h with (h | h) | h; exact .inl h; right; omega; right; omega)
  clear r0 r1 r2 r3 f0 f1 f2 f3 kx HB4
  have n0 : nx.typed.length ≤ m := hm1
  have r0 := hb4.cell 0
  have r1 := hb4.cell 1
  have r2 := hb4.cell 2
  have r3 := hb4.cell 3
  have f0 := hb4.frozen 0
  have f1 := hb4.frozen 1
  have f2 := hb4.frozen 2
  have f3 := hb4.frozen 3
  have z0 := hb7.cell 0
  have z1 := hb7.cell 1
  have z2 := hb7.cell 2
  have z3 := hb7.cell 3
  have g0 := hb7.frozen 0
  have g1 := hb7.frozen 1
  have g2 := hb7.frozen 2
  have g3 := hb7.frozen 3
  simp only [List.getElem?_toArray, List.getElem?_cons_zero, List.getElem?_cons_succ] at r0 r1 r2 r3 z0 z1 z2 z3
  have HB4 := Lib.hid hb4; have HB7 := Lib.hid hb7; have HR6 := Lib.hid hr6; have K6 := Lib.hid k6; clear hb4 hb7 hr6 k6
  have hn47 : w1.heap.size + 1 + 1 ≠ w1.heap.size + 1 + 1 + 1 := by omega
  go_region
  go_wp2_with fail
  have hz4 := (HB4.out.set4 (.int .i64 nx.epoch) (.string nx.session) (.slice E nx.typed.length m) (.string nx.screen)).kpt (Kpt.set4 (Kpt.refl (One (w1.heap.size + 1 + 1 + 1)) _) (fun _ => rfl) (.int .i64 0) (.string ⟨#[]⟩) (.slice none 0 0) (.string ⟨#[]⟩)) (fun e => by have e' : w1.heap.size + 1 + 1 = w1.heap.size + 1 + 1 + 1 := e; omega)
  have hz7 := (HB7.out.kpt (Kpt.set4 (Kpt.refl (One (w1.heap.size + 1 + 1)) w6) (fun _ => rfl) (.int .i64 nx.epoch) (.string nx.session) (.slice E nx.typed.length m) (.string nx.screen)) (fun e => by have e' : w1.heap.size + 1 + 1 + 1 = w1.heap.size + 1 + 1 := e; omega)).set4 (.int .i64 0) (.string ⟨#[]⟩) (.slice none 0 0) (.string ⟨#[]⟩)
  have kz : Kpt (fun i => i = w1.heap.size + 1 + 1 ∨ i = w1.heap.size + 1 + 1 + 1) w6 (((((((((w6.setCell ⟨w1.heap.size + 1 + 1, 0, none⟩ (.int .i64 nx.epoch)).setCell ⟨w1.heap.size + 1 + 1, 1, none⟩ (.string nx.session)).setCell ⟨w1.heap.size + 1 + 1, 2, none⟩ (.slice E nx.typed.length m)).setCell ⟨w1.heap.size + 1 + 1, 3, none⟩ (.string nx.screen)).setCell ⟨w1.heap.size + 1 + 1 + 1, 0, none⟩ (.int .i64 0)).setCell ⟨w1.heap.size + 1 + 1 + 1, 1, none⟩ (.string ⟨#[]⟩)).setCell ⟨w1.heap.size + 1 + 1 + 1, 2, none⟩ (.slice none 0 0)).setCell ⟨w1.heap.size + 1 + 1 + 1, 3, none⟩ (.string ⟨#[]⟩))).drew := Kpt.drew (Kpt.set4 (Kpt.set4 (Kpt.refl _ w6) (fun _ => .inl rfl) _ _ _ _) (fun _ => .inr rfl) _ _ _ _)
  have kf : Kpt Non w1 (((((((((w6.setCell ⟨w1.heap.size + 1 + 1, 0, none⟩ (.int .i64 nx.epoch)).setCell ⟨w1.heap.size + 1 + 1, 1, none⟩ (.string nx.session)).setCell ⟨w1.heap.size + 1 + 1, 2, none⟩ (.slice E nx.typed.length m)).setCell ⟨w1.heap.size + 1 + 1, 3, none⟩ (.string nx.screen)).setCell ⟨w1.heap.size + 1 + 1 + 1, 0, none⟩ (.int .i64 0)).setCell ⟨w1.heap.size + 1 + 1 + 1, 1, none⟩ (.string ⟨#[]⟩)).setCell ⟨w1.heap.size + 1 + 1 + 1, 2, none⟩ (.slice none 0 0)).setCell ⟨w1.heap.size + 1 + 1 + 1, 3, none⟩ (.string ⟨#[]⟩))).drew := Kpt.trans K6.out kz (fun i e hlt => by rcases e with e | e <;> omega)
  have hy4 := hz4.drew
  have hy7 := hz7.drew
  have y0 := hy4.cell 0
  have y1 := hy4.cell 1
  have y2 := hy4.cell 2
  have y3 := hy4.cell 3
  have x0 := hy7.cell 0
  have x1 := hy7.cell 1
  have x2 := hy7.cell 2
  have x3 := hy7.cell 3
  simp only [List.getElem?_toArray, List.getElem?_cons_zero, List.getElem?_cons_succ] at y0 y1 y2 y3 x0 x1 x2 x3
  refine bodyPost_ret (v := .tuple #[.agg #[(.int .i64 nx.epoch), (.string nx.session), (.slice E nx.typed.length m), (.string nx.screen)], .int .i64 er, .string ⟨#[]⟩, .agg #[(.int .i64 0), (.string ⟨#[]⟩), (.slice none 0 0), (.string ⟨#[]⟩)]]) ?_ rfl ⟨E, m, none, 0, rfl, ⟨E, m, rfl, hm1, hm2, (HR6.out.kpt kz (fun i h e => by rcases e with e | e; rcases h with h | h; have := hD i h; omega; omega; rcases h with h | h; have := hD i h; omega; omega)).more (fun i h => by rcases h with h | h; exact .inl h; right; omega)⟩, tmv_zero _ _, kf⟩
  clear hz4 hz7 kz kf hy4 hy7
  generalize (((((((((w6.setCell ⟨w1.heap.size + 1 + 1, 0, none⟩ (.int .i64 nx.epoch)).setCell ⟨w1.heap.size + 1 + 1, 1, none⟩ (.string nx.session)).setCell ⟨w1.heap.size + 1 + 1, 2, none⟩ (.slice E nx.typed.length m)).setCell ⟨w1.heap.size + 1 + 1, 3, none⟩ (.string nx.screen)).setCell ⟨w1.heap.size + 1 + 1 + 1, 0, none⟩ (.int .i64 0)).setCell ⟨w1.heap.size + 1 + 1 + 1, 1, none⟩ (.string ⟨#[]⟩)).setCell ⟨w1.heap.size + 1 + 1 + 1, 2, none⟩ (.slice none 0 0)).setCell ⟨w1.heap.size + 1 + 1 + 1, 3, none⟩ (.string ⟨#[]⟩))).drew = wf at y0 y1 y2 y3 x0 x1 x2 x3
  simp [results, Tryz.results71, go_sem, y0, y1, y2, y3, x0, x1, x2, x3]
set_option maxRecDepth 100000 in
set_option maxHeartbeats 1000000 in
theorem f120_type2 (hv : TmV w1 D t (.agg #[(.int .i64 t.epoch), (.string t.session), (.slice A t.typed.length c), (.string t.screen)])) (hD : ∀ i, D i → i < w1.heap.size) (hk : o.kind % 8 = 2) (hk0 : 0 ≤ o.kind) (hk1 : o.kind ≤ 255) (hcut : o.cut = o) (_hw : o.who.size ≤ 100) (_ht : o.text.size ≤ 3000)
    (_hs1 : (inRef t o.epoch).screen.size ≤ 1099511627776) (_hs2 : (inRef t o.epoch).typed.length ≤ 1048576) (_hs3 : (inRef t o.epoch).session.size ≤ 140737488351232) :
    Calls Tryz.prog 71 #[.agg #[(.int .i64 t.epoch), (.string t.session), (.slice A t.typed.length c), (.string t.screen)], .agg #[.int .u8 o.kind, .int .i64 o.number, .int .i64 o.epoch, .string o.who, .string o.text]] w1 (SamePost w1 D (typedT o.text (inRef t o.epoch)).1 (typedT o.text (inRef t o.epoch)).2 es zeroT) := by
  have HB := Lib.hid (same_boxes w1 #[(.int .i64 t.epoch), (.string t.session), (.slice A t.typed.length c), (.string t.screen)] #[.int .u8 o.kind, .int .i64 o.number, .int .i64 o.epoch, .string o.who, .string o.text] #[(.int .i64 0), (.string ⟨#[]⟩), (.slice none 0 0), (.string ⟨#[]⟩)] #[(.int .i64 0), (.string ⟨#[]⟩), (.slice none 0 0), (.string ⟨#[]⟩)])
  have HVt := Lib.hid hv
  have e118 := fun w => f118_any o w (by omega) (by omega)
  rw [hcut] at e118
  unfold Opn.val Opn.cells at e118
  have E118 := Lib.hid e118
  have e72 := fun w (k : Kpt Non w1 w) => f72_any t o.epoch _ D w (hv.kpt k (fun _ _ e => e))
  generalize inRef t o.epoch = u at e72 _hs1 _hs2 _hs3 ⊢
  have E72 := Lib.hid e72
  clear e118 hcut hv e72
  obtain ⟨nx, hnx⟩ : ∃ nx, (typedT o.text u).1 = nx := ⟨_, rfl⟩
  obtain ⟨er, her⟩ : ∃ er, (typedT o.text u).2 = er := ⟨_, rfl⟩
  rw [hnx, her]
  have HNX := Lib.hid hnx; have HER := Lib.hid her; clear hnx her
  go_enter Tryz.func71, Tryz.ntmps71
  go_wp2_with fail
  refine (E118.out _).mono ?_
  rintro e w2 ⟨rfl, k2⟩
  have hb2 := HB.out.1.kpt k2 (fun e => e)
  have hb3 := HB.out.2.1.kpt k2 (fun e => e)
  have hb4 := HB.out.2.2.1.kpt k2 (fun e => e)
  have hb7 := HB.out.2.2.2.1.kpt k2 (fun e => e)
  have K2 := Lib.hid (Kpt.trans HB.out.2.2.2.2 k2 (fun _ e _ => e))
  have p0 := hb2.cell 0
  have p1 := hb2.cell 1
  have p2 := hb2.cell 2
  have p3 := hb2.cell 3
  have q0 := hb3.cell 0
  have q1 := hb3.cell 1
  have q2 := hb3.cell 2
  have q3 := hb3.cell 3
  have q4 := hb3.cell 4
  have g0 := hb3.frozen 0
  have g1 := hb3.frozen 1
  have g2 := hb3.frozen 2
  have g3 := hb3.frozen 3
  have g4 := hb3.frozen 4
  simp only [List.getElem?_toArray, List.getElem?_cons_zero, List.getElem?_cons_succ] at p0 p1 p2 p3 q0 q1 q2 q3 q4
  have HB2 := Lib.hid hb2; have HB3 := Lib.hid hb3; have HB4 := Lib.hid hb4; have HB7 := Lib.hid hb7; clear hb2 hb3 hb4 hb7 k2
  go_upto_region 2 with fail
  have kx : Kpt (One (w1.heap.size + 1)) w2 (((((w2.setCell ⟨w1.heap.size + 1, 0, none⟩ (.int .u8 o.kind)).setCell ⟨w1.heap.size + 1, 1, none⟩ (.int .i64 o.number)).setCell ⟨w1.heap.size + 1, 2, none⟩ (.int .i64 o.epoch)).setCell ⟨w1.heap.size + 1, 3, none⟩ (.string o.who)).setCell ⟨w1.heap.size + 1, 4, none⟩ (.string o.text)) := Kpt.set5 (Kpt.refl (One (w1.heap.size + 1)) w2) (fun _ => rfl) _ _ _ _ _
  have hb3 := HB3.out.same5
  generalize (((((w2.setCell ⟨w1.heap.size + 1, 0, none⟩ (.int .u8 o.kind)).setCell ⟨w1.heap.size + 1, 1, none⟩ (.int .i64 o.number)).setCell ⟨w1.heap.size + 1, 2, none⟩ (.int .i64 o.epoch)).setCell ⟨w1.heap.size + 1, 3, none⟩ (.string o.who)).setCell ⟨w1.heap.size + 1, 4, none⟩ (.string o.text)) = w3 at kx hb3 ⊢
  have k3 : Kpt Non w1 w3 := Kpt.trans K2.out kx (fun i e hlt => by have e' : i = w1.heap.size + 1 := e; omega)
  have hb2 := HB2.out.kpt kx (fun e => by have e' : w1.heap.size = w1.heap.size + 1 := e; omega)
  have hb4 := HB4.out.kpt kx (fun e => by have e' : w1.heap.size + 1 + 1 = w1.heap.size + 1 := e; omega)
  have hb7 := HB7.out.kpt kx (fun e => by have e' : w1.heap.size + 1 + 1 + 1 = w1.heap.size + 1 := e; omega)
  clear p0 p1 p2 p3 q0 q1 q2 q3 q4 g0 g1 g2 g3 g4 HB2 HB3 HB4 HB7 kx K2
  have p0 := hb2.cell 0
  have p1 := hb2.cell 1
  have p2 := hb2.cell 2
  have p3 := hb2.cell 3
  have q0 := hb3.cell 0
  have q1 := hb3.cell 1
  have q2 := hb3.cell 2
  have q3 := hb3.cell 3
  have q4 := hb3.cell 4
  simp only [List.getElem?_toArray, List.getElem?_cons_zero, List.getElem?_cons_succ] at p0 p1 p2 p3 q0 q1 q2 q3 q4
  have HB2 := Lib.hid hb2; have HB3 := Lib.hid hb3; have HB4 := Lib.hid hb4; have HB7 := Lib.hid hb7; have K3 := Lib.hid k3; clear hb2 hb3 hb4 hb7 k3
  go_wp2_with fail
  refine (E72.out _ K3.out).mono ?_
  rintro e w4 ⟨v4, rfl, ⟨B, d, rfl, hd1, hd2, hdr⟩, k4⟩
  have hb2 := HB2.out.kpt k4 (fun e => e)
  have hb3 := HB3.out.kpt k4 (fun e => e)
  have hb4 := HB4.out.kpt k4 (fun e => e)
  have hb7 := HB7.out.kpt k4 (fun e => e)
  have h3lt := HB7.out.lt
  clear p0 p1 p2 p3 q0 q1 q2 q3 q4
  have p0 := hb2.cell 0
  have p1 := hb2.cell 1
  have p2 := hb2.cell 2
  have p3 := hb2.cell 3
  have g0 := hb2.frozen 0
  have g1 := hb2.frozen 1
  have g2 := hb2.frozen 2
  have g3 := hb2.frozen 3
  have r0 := hb4.cell 0
  have r1 := hb4.cell 1
  have r2 := hb4.cell 2
  have r3 := hb4.cell 3
  have f0 := hb4.frozen 0
  have f1 := hb4.frozen 1
  have f2 := hb4.frozen 2
  have f3 := hb4.frozen 3
  simp only [List.getElem?_toArray, List.getElem?_cons_zero, List.getElem?_cons_succ] at p0 p1 p2 p3 r0 r1 r2 r3
  have K4 := Lib.hid (Kpt.trans K3.out k4 (fun _ e _ => e)); have HR := Lib.hid hdr; clear HB2 HB3 HB4 HB7
  have HB2 := Lib.hid hb2; have HB3 := Lib.hid hb3; have HB4 := Lib.hid hb4; have HB7 := Lib.hid hb7; clear hb2 hb3 hb4 hb7 k4 hdr
  have hn12 : w1.heap.size ≠ w1.heap.size + 1 + 1 := by omega
  go_upto_region 4 with fail
  have hm : SameMid w1 D o u B d ((((((((w4.setCell ⟨w1.heap.size, 0, none⟩ (.int .i64 u.epoch)).setCell ⟨w1.heap.size, 1, none⟩ (.string u.session)).setCell ⟨w1.heap.size, 2, none⟩ (.slice B u.typed.length d)).setCell ⟨w1.heap.size, 3, none⟩ (.string u.screen)).setCell ⟨w1.heap.size + 1 + 1, 0, none⟩ (.int .i64 u.epoch)).setCell ⟨w1.heap.size + 1 + 1, 1, none⟩ (.string u.session)).setCell ⟨w1.heap.size + 1 + 1, 2, none⟩ (.slice B u.typed.length d)).setCell ⟨w1.heap.size + 1 + 1, 3, none⟩ (.string u.screen)) := by
    have ka : Kpt (One w1.heap.size) w4 ((((w4.setCell ⟨w1.heap.size, 0, none⟩ (.int .i64 u.epoch)).setCell ⟨w1.heap.size, 1, none⟩ (.string u.session)).setCell ⟨w1.heap.size, 2, none⟩ (.slice B u.typed.length d)).setCell ⟨w1.heap.size, 3, none⟩ (.string u.screen)) := Kpt.set4 (Kpt.refl (One w1.heap.size) w4) (fun _ => rfl) _ _ _ _
    have kb : Kpt (One (w1.heap.size + 1 + 1)) ((((w4.setCell ⟨w1.heap.size, 0, none⟩ (.int .i64 u.epoch)).setCell ⟨w1.heap.size, 1, none⟩ (.string u.session)).setCell ⟨w1.heap.size, 2, none⟩ (.slice B u.typed.length d)).setCell ⟨w1.heap.size, 3, none⟩ (.string u.screen)) ((((((((w4.setCell ⟨w1.heap.size, 0, none⟩ (.int .i64 u.epoch)).setCell ⟨w1.heap.size, 1, none⟩ (.string u.session)).setCell ⟨w1.heap.size, 2, none⟩ (.slice B u.typed.length d)).setCell ⟨w1.heap.size, 3, none⟩ (.string u.screen)).setCell ⟨w1.heap.size + 1 + 1, 0, none⟩ (.int .i64 u.epoch)).setCell ⟨w1.heap.size + 1 + 1, 1, none⟩ (.string u.session)).setCell ⟨w1.heap.size + 1 + 1, 2, none⟩ (.slice B u.typed.length d)).setCell ⟨w1.heap.size + 1 + 1, 3, none⟩ (.string u.screen)) := Kpt.set4 (Kpt.refl (One (w1.heap.size + 1 + 1)) _) (fun _ => rfl) _ _ _ _
    have ba := HB2.out.set4 (.int .i64 u.epoch) (.string u.session) (.slice B u.typed.length d) (.string u.screen)
    have b4a := HB4.out.kpt ka (fun e => by have e' : w1.heap.size + 1 + 1 = w1.heap.size := e; omega)
    refine ⟨ba.kpt kb (fun e => by have e' : w1.heap.size = w1.heap.size + 1 + 1 := e; omega), (HB3.out.kpt ka (fun e => by have e' : w1.heap.size + 1 = w1.heap.size := e; omega)).kpt kb (fun e => by have e' : w1.heap.size + 1 = w1.heap.size + 1 + 1 := e; omega), b4a.set4 _ _ _ _,
      (HB7.out.kpt ka (fun e => by have e' : w1.heap.size + 1 + 1 + 1 = w1.heap.size := e; omega)).kpt kb (fun e => by have e' : w1.heap.size + 1 + 1 + 1 = w1.heap.size + 1 + 1 := e; omega), Kpt.trans (Kpt.trans K4.out ka (fun i e hlt => by have e' : i = w1.heap.size := e; omega)) kb (fun i e hlt => by have e' : i = w1.heap.size + 1 + 1 := e; omega), ?_⟩
    have hD' : ∀ i, (D i ∨ w3.heap.size ≤ i) → i ≠ w1.heap.size ∧ i ≠ w1.heap.size + 1 + 1 := fun i h => by
      rcases h with h | h
      · have := hD i h; omega
      · omega
    exact ⟨B, d, rfl, hd1, hd2, ((HR.out.kpt ka (fun i h e => (hD' i h).1 e)).kpt kb (fun i h e => (hD' i h).2 e)).more (fun i h => by rcases h with h | h; exact .inl h; right; omega)⟩
  generalize ((((((((w4.setCell ⟨w1.heap.size, 0, none⟩ (.int .i64 u.epoch)).setCell ⟨w1.heap.size, 1, none⟩ (.string u.session)).setCell ⟨w1.heap.size, 2, none⟩ (.slice B u.typed.length d)).setCell ⟨w1.heap.size, 3, none⟩ (.string u.screen)).setCell ⟨w1.heap.size + 1 + 1, 0, none⟩ (.int .i64 u.epoch)).setCell ⟨w1.heap.size + 1 + 1, 1, none⟩ (.string u.session)).setCell ⟨w1.heap.size + 1 + 1, 2, none⟩ (.slice B u.typed.length d)).setCell ⟨w1.heap.size + 1 + 1, 3, none⟩ (.string u.screen)) = wc at hm ⊢
  clear p0 p1 p2 p3 r0 r1 r2 r3 g0 g1 g2 g3 f0 f1 f2 f3 HB2 HB3 HB4 HB7 HR K4 h3lt
  have hb2 := hm.b2
  have hb3 := hm.b3
  have hb4 := hm.b4
  have hb7 := hm.b7
  have p0 := hb2.cell 0
  have p1 := hb2.cell 1
  have p2 := hb2.cell 2
  have p3 := hb2.cell 3
  have q0 := hb3.cell 0
  have q1 := hb3.cell 1
  have q2 := hb3.cell 2
  have q3 := hb3.cell 3
  have q4 := hb3.cell 4
  simp only [List.getElem?_toArray, List.getElem?_cons_zero, List.getElem?_cons_succ] at p0 p1 p2 p3 q0 q1 q2 q3 q4
  have HM := Lib.hid hm; have HTv := Lib.hid hm.tv; clear hb2 hb3 hb4 hb7 hm hd1 hd2
  have ecall := (f178_any u o.text _ _ wc HTv.out _hs1 (by omega) _hs2)
  rw [HNX.out, HER.out] at ecall
  have HC := Lib.hid ecall; clear ecall HNX HER
  go_wp2_with fail
  refine HC.out.mono ?_
  rintro e w5 ⟨v5, rfl, ⟨E, m, rfl, hm1, hm2, hmr⟩, k5⟩
  have hb4 := HM.out.b4.kpt k5 (fun e => e)
  clear p0 p1 p2 p3 q0 q1 q2 q3 q4
  have r0 := hb4.cell 0
  have r1 := hb4.cell 1
  have r2 := hb4.cell 2
  have r3 := hb4.cell 3
  have f0 := hb4.frozen 0
  have f1 := hb4.frozen 1
  have f2 := hb4.frozen 2
  have f3 := hb4.frozen 3
  simp only [List.getElem?_toArray, List.getElem?_cons_zero, List.getElem?_cons_succ] at r0 r1 r2 r3
  have HB4 := Lib.hid hb4; have HR5 := Lib.hid hmr; have K5 := Lib.hid k5; clear hb4 hmr k5 HC
  go_upto_region 18 with fail
  have hb4 := HB4.out.set4 (.int .i64 nx.epoch) (.string nx.session) (.slice E nx.typed.length m) (.string nx.screen)
  have kx : Kpt (One (w1.heap.size + 1 + 1)) w5 ((((w5.setCell ⟨w1.heap.size + 1 + 1, 0, none⟩ (.int .i64 nx.epoch)).setCell ⟨w1.heap.size + 1 + 1, 1, none⟩ (.string nx.session)).setCell ⟨w1.heap.size + 1 + 1, 2, none⟩ (.slice E nx.typed.length m)).setCell ⟨w1.heap.size + 1 + 1, 3, none⟩ (.string nx.screen)) := Kpt.set4 (Kpt.refl (One (w1.heap.size + 1 + 1)) w5) (fun _ => rfl) _ _ _ _
  generalize ((((w5.setCell ⟨w1.heap.size + 1 + 1, 0, none⟩ (.int .i64 nx.epoch)).setCell ⟨w1.heap.size + 1 + 1, 1, none⟩ (.string nx.session)).setCell ⟨w1.heap.size + 1 + 1, 2, none⟩ (.slice E nx.typed.length m)).setCell ⟨w1.heap.size + 1 + 1, 3, none⟩ (.string nx.screen)) = w6 at hb4 kx ⊢
  have hb7 := (HM.out.b7.kpt K5.out (fun e => e)).kpt kx (fun e => by have e' : w1.heap.size + 1 + 1 + 1 = w1.heap.size + 1 + 1 := e; omega)
  have k6 : Kpt Non w1 w6 := Kpt.trans (Kpt.trans HM.out.kk K5.out (fun _ e _ => e)) kx (fun i e hlt => by have e' : i = w1.heap.size + 1 + 1 := e; omega)
  have hcl := HM.out.b7.lt
  have hr6 := (HR5.out.kpt kx (fun i h e => by have e' : i = w1.heap.size + 1 + 1 := e; rcases h with (h | h) | h; have := hD i h; omega; omega; omega)).more (D' := fun i => D i ∨ w1.heap.size + 1 + 1 + 1 < i) (fun i h => by rcases h with (h | h) | h; exact .inl h; right; omega; right; omega)
  clear r0 r1 r2 r3 f0 f1 f2 f3 kx HB4
  have n0 : nx.typed.length ≤ m := hm1
  have r0 := hb4.cell 0
  have r1 := hb4.cell 1
  have r2 := hb4.cell 2
  have r3 := hb4.cell 3
  have f0 := hb4.frozen 0
  have f1 := hb4.frozen 1
  have f2 := hb4.frozen 2
  have f3 := hb4.frozen 3
  have z0 := hb7.cell 0
  have z1 := hb7.cell 1
  have z2 := hb7.cell 2
  have z3 := hb7.cell 3
  have g0 := hb7.frozen 0
  have g1 := hb7.frozen 1
  have g2 := hb7.frozen 2
  have g3 := hb7.frozen 3
  simp only [List.getElem?_toArray, List.getElem?_cons_zero, List.getElem?_cons_succ] at r0 r1 r2 r3 z0 z1 z2 z3
  have HB4 := Lib.hid hb4; have HB7 := Lib.hid hb7; have HR6 := Lib.hid hr6; have K6 := Lib.hid k6; clear hb4 hb7 hr6 k6
  have hn47 : w1.heap.size + 1 + 1 ≠ w1.heap.size + 1 + 1 + 1 := by omega
  go_region
  go_wp2_with fail
  have hz4 := (HB4.out.set4 (.int .i64 nx.epoch) (.string nx.session) (.slice E nx.typed.length m) (.string nx.screen)).kpt (Kpt.set4 (Kpt.refl (One (w1.heap.size + 1 + 1 + 1)) _) (fun _ => rfl) (.int .i64 0) (.string ⟨#[]⟩) (.slice none 0 0) (.string ⟨#[]⟩)) (fun e => by have e' : w1.heap.size + 1 + 1 = w1.heap.size + 1 + 1 + 1 := e; omega)
  have hz7 := (HB7.out.kpt (Kpt.set4 (Kpt.refl (One (w1.heap.size + 1 + 1)) w6) (fun _ => rfl) (.int .i64 nx.epoch) (.string nx.session) (.slice E nx.typed.length m) (.string nx.screen)) (fun e => by have e' : w1.heap.size + 1 + 1 + 1 = w1.heap.size + 1 + 1 := e; omega)).set4 (.int .i64 0) (.string ⟨#[]⟩) (.slice none 0 0) (.string ⟨#[]⟩)
  have kz : Kpt (fun i => i = w1.heap.size + 1 + 1 ∨ i = w1.heap.size + 1 + 1 + 1) w6 (((((((((w6.setCell ⟨w1.heap.size + 1 + 1, 0, none⟩ (.int .i64 nx.epoch)).setCell ⟨w1.heap.size + 1 + 1, 1, none⟩ (.string nx.session)).setCell ⟨w1.heap.size + 1 + 1, 2, none⟩ (.slice E nx.typed.length m)).setCell ⟨w1.heap.size + 1 + 1, 3, none⟩ (.string nx.screen)).setCell ⟨w1.heap.size + 1 + 1 + 1, 0, none⟩ (.int .i64 0)).setCell ⟨w1.heap.size + 1 + 1 + 1, 1, none⟩ (.string ⟨#[]⟩)).setCell ⟨w1.heap.size + 1 + 1 + 1, 2, none⟩ (.slice none 0 0)).setCell ⟨w1.heap.size + 1 + 1 + 1, 3, none⟩ (.string ⟨#[]⟩))).drew := Kpt.drew (Kpt.set4 (Kpt.set4 (Kpt.refl _ w6) (fun _ => .inl rfl) _ _ _ _) (fun _ => .inr rfl) _ _ _ _)
  have kf : Kpt Non w1 (((((((((w6.setCell ⟨w1.heap.size + 1 + 1, 0, none⟩ (.int .i64 nx.epoch)).setCell ⟨w1.heap.size + 1 + 1, 1, none⟩ (.string nx.session)).setCell ⟨w1.heap.size + 1 + 1, 2, none⟩ (.slice E nx.typed.length m)).setCell ⟨w1.heap.size + 1 + 1, 3, none⟩ (.string nx.screen)).setCell ⟨w1.heap.size + 1 + 1 + 1, 0, none⟩ (.int .i64 0)).setCell ⟨w1.heap.size + 1 + 1 + 1, 1, none⟩ (.string ⟨#[]⟩)).setCell ⟨w1.heap.size + 1 + 1 + 1, 2, none⟩ (.slice none 0 0)).setCell ⟨w1.heap.size + 1 + 1 + 1, 3, none⟩ (.string ⟨#[]⟩))).drew := Kpt.trans K6.out kz (fun i e hlt => by rcases e with e | e <;> omega)
  have hy4 := hz4.drew
  have hy7 := hz7.drew
  have y0 := hy4.cell 0
  have y1 := hy4.cell 1
  have y2 := hy4.cell 2
  have y3 := hy4.cell 3
  have x0 := hy7.cell 0
  have x1 := hy7.cell 1
  have x2 := hy7.cell 2
  have x3 := hy7.cell 3
  simp only [List.getElem?_toArray, List.getElem?_cons_zero, List.getElem?_cons_succ] at y0 y1 y2 y3 x0 x1 x2 x3
  refine bodyPost_ret (v := .tuple #[.agg #[(.int .i64 nx.epoch), (.string nx.session), (.slice E nx.typed.length m), (.string nx.screen)], .int .i64 er, .string ⟨#[]⟩, .agg #[(.int .i64 0), (.string ⟨#[]⟩), (.slice none 0 0), (.string ⟨#[]⟩)]]) ?_ rfl ⟨E, m, none, 0, rfl, ⟨E, m, rfl, hm1, hm2, (HR6.out.kpt kz (fun i h e => by rcases e with e | e; rcases h with h | h; have := hD i h; omega; omega; rcases h with h | h; have := hD i h; omega; omega)).more (fun i h => by rcases h with h | h; exact .inl h; right; omega)⟩, tmv_zero _ _, kf⟩
  clear hz4 hz7 kz kf hy4 hy7
  generalize (((((((((w6.setCell ⟨w1.heap.size + 1 + 1, 0, none⟩ (.int .i64 nx.epoch)).setCell ⟨w1.heap.size + 1 + 1, 1, none⟩ (.string nx.session)).setCell ⟨w1.heap.size + 1 + 1, 2, none⟩ (.slice E nx.typed.length m)).setCell ⟨w1.heap.size + 1 + 1, 3, none⟩ (.string nx.screen)).setCell ⟨w1.heap.size + 1 + 1 + 1, 0, none⟩ (.int .i64 0)).setCell ⟨w1.heap.size + 1 + 1 + 1, 1, none⟩ (.string ⟨#[]⟩)).setCell ⟨w1.heap.size + 1 + 1 + 1, 2, none⟩ (.slice none 0 0)).setCell ⟨w1.heap.size + 1 + 1 + 1, 3, none⟩ (.string ⟨#[]⟩))).drew = wf at y0 y1 y2 y3 x0 x1 x2 x3
  simp [results, Tryz.results71, go_sem, y0, y1, y2, y3, x0, x1, x2, x3]
set_option maxRecDepth 100000 in
set_option maxHeartbeats 1000000 in
theorem f120_type3 (hv : TmV w1 D t (.agg #[(.int .i64 t.epoch), (.string t.session), (.slice A t.typed.length c), (.string t.screen)])) (hD : ∀ i, D i → i < w1.heap.size) (hk : o.kind % 8 = 3) (hk0 : 0 ≤ o.kind) (hk1 : o.kind ≤ 255) (hcut : o.cut = o) (_hw : o.who.size ≤ 100) (_ht : o.text.size ≤ 3000)
    (_hs1 : (inRef t o.epoch).screen.size ≤ 1099511627776) (_hs2 : (inRef t o.epoch).typed.length ≤ 1048576) (_hs3 : (inRef t o.epoch).session.size ≤ 140737488351232) :
    Calls Tryz.prog 71 #[.agg #[(.int .i64 t.epoch), (.string t.session), (.slice A t.typed.length c), (.string t.screen)], .agg #[.int .u8 o.kind, .int .i64 o.number, .int .i64 o.epoch, .string o.who, .string o.text]] w1 (SamePost w1 D (typedT o.text (inRef t o.epoch)).1 (typedT o.text (inRef t o.epoch)).2 es zeroT) := by
  have HB := Lib.hid (same_boxes w1 #[(.int .i64 t.epoch), (.string t.session), (.slice A t.typed.length c), (.string t.screen)] #[.int .u8 o.kind, .int .i64 o.number, .int .i64 o.epoch, .string o.who, .string o.text] #[(.int .i64 0), (.string ⟨#[]⟩), (.slice none 0 0), (.string ⟨#[]⟩)] #[(.int .i64 0), (.string ⟨#[]⟩), (.slice none 0 0), (.string ⟨#[]⟩)])
  have HVt := Lib.hid hv
  have e118 := fun w => f118_any o w (by omega) (by omega)
  rw [hcut] at e118
  unfold Opn.val Opn.cells at e118
  have E118 := Lib.hid e118
  have e72 := fun w (k : Kpt Non w1 w) => f72_any t o.epoch _ D w (hv.kpt k (fun _ _ e => e))
  generalize inRef t o.epoch = u at e72 _hs1 _hs2 _hs3 ⊢
  have E72 := Lib.hid e72
  clear e118 hcut hv e72
  obtain ⟨nx, hnx⟩ : ∃ nx, (typedT o.text u).1 = nx := ⟨_, rfl⟩
  obtain ⟨er, her⟩ : ∃ er, (typedT o.text u).2 = er := ⟨_, rfl⟩
  rw [hnx, her]
  have HNX := Lib.hid hnx; have HER := Lib.hid her; clear hnx her
  go_enter Tryz.func71, Tryz.ntmps71
  go_wp2_with fail
  refine (E118.out _).mono ?_
  rintro e w2 ⟨rfl, k2⟩
  have hb2 := HB.out.1.kpt k2 (fun e => e)
  have hb3 := HB.out.2.1.kpt k2 (fun e => e)
  have hb4 := HB.out.2.2.1.kpt k2 (fun e => e)
  have hb7 := HB.out.2.2.2.1.kpt k2 (fun e => e)
  have K2 := Lib.hid (Kpt.trans HB.out.2.2.2.2 k2 (fun _ e _ => e))
  have p0 := hb2.cell 0
  have p1 := hb2.cell 1
  have p2 := hb2.cell 2
  have p3 := hb2.cell 3
  have q0 := hb3.cell 0
  have q1 := hb3.cell 1
  have q2 := hb3.cell 2
  have q3 := hb3.cell 3
  have q4 := hb3.cell 4
  have g0 := hb3.frozen 0
  have g1 := hb3.frozen 1
  have g2 := hb3.frozen 2
  have g3 := hb3.frozen 3
  have g4 := hb3.frozen 4
  simp only [List.getElem?_toArray, List.getElem?_cons_zero, List.getElem?_cons_succ] at p0 p1 p2 p3 q0 q1 q2 q3 q4
  have HB2 := Lib.hid hb2; have HB3 := Lib.hid hb3; have HB4 := Lib.hid hb4; have HB7 := Lib.hid hb7; clear hb2 hb3 hb4 hb7 k2
  go_upto_region 2 with fail
  have kx : Kpt (One (w1.heap.size + 1)) w2 (((((w2.setCell ⟨w1.heap.size + 1, 0, none⟩ (.int .u8 o.kind)).setCell ⟨w1.heap.size + 1, 1, none⟩ (.int .i64 o.number)).setCell ⟨w1.heap.size + 1, 2, none⟩ (.int .i64 o.epoch)).setCell ⟨w1.heap.size + 1, 3, none⟩ (.string o.who)).setCell ⟨w1.heap.size + 1, 4, none⟩ (.string o.text)) := Kpt.set5 (Kpt.refl (One (w1.heap.size + 1)) w2) (fun _ => rfl) _ _ _ _ _
  have hb3 := HB3.out.same5
  generalize (((((w2.setCell ⟨w1.heap.size + 1, 0, none⟩ (.int .u8 o.kind)).setCell ⟨w1.heap.size + 1, 1, none⟩ (.int .i64 o.number)).setCell ⟨w1.heap.size + 1, 2, none⟩ (.int .i64 o.epoch)).setCell ⟨w1.heap.size + 1, 3, none⟩ (.string o.who)).setCell ⟨w1.heap.size + 1, 4, none⟩ (.string o.text)) = w3 at kx hb3 ⊢
  have k3 : Kpt Non w1 w3 := Kpt.trans K2.out kx (fun i e hlt => by have e' : i = w1.heap.size + 1 := e; omega)
  have hb2 := HB2.out.kpt kx (fun e => by have e' : w1.heap.size = w1.heap.size + 1 := e; omega)
  have hb4 := HB4.out.kpt kx (fun e => by have e' : w1.heap.size + 1 + 1 = w1.heap.size + 1 := e; omega)
  have hb7 := HB7.out.kpt kx (fun e => by have e' : w1.heap.size + 1 + 1 + 1 = w1.heap.size + 1 := e; omega)
  clear p0 p1 p2 p3 q0 q1 q2 q3 q4 g0 g1 g2 g3 g4 HB2 HB3 HB4 HB7 kx K2
  have p0 := hb2.cell 0
  have p1 := hb2.cell 1
  have p2 := hb2.cell 2
  have p3 := hb2.cell 3
  have q0 := hb3.cell 0
  have q1 := hb3.cell 1
  have q2 := hb3.cell 2
  have q3 := hb3.cell 3
  have q4 := hb3.cell 4
  simp only [List.getElem?_toArray, List.getElem?_cons_zero, List.getElem?_cons_succ] at p0 p1 p2 p3 q0 q1 q2 q3 q4
  have HB2 := Lib.hid hb2; have HB3 := Lib.hid hb3; have HB4 := Lib.hid hb4; have HB7 := Lib.hid hb7; have K3 := Lib.hid k3; clear hb2 hb3 hb4 hb7 k3
  go_wp2_with fail
  refine (E72.out _ K3.out).mono ?_
  rintro e w4 ⟨v4, rfl, ⟨B, d, rfl, hd1, hd2, hdr⟩, k4⟩
  have hb2 := HB2.out.kpt k4 (fun e => e)
  have hb3 := HB3.out.kpt k4 (fun e => e)
  have hb4 := HB4.out.kpt k4 (fun e => e)
  have hb7 := HB7.out.kpt k4 (fun e => e)
  have h3lt := HB7.out.lt
  clear p0 p1 p2 p3 q0 q1 q2 q3 q4
  have p0 := hb2.cell 0
  have p1 := hb2.cell 1
  have p2 := hb2.cell 2
  have p3 := hb2.cell 3
  have g0 := hb2.frozen 0
  have g1 := hb2.frozen 1
  have g2 := hb2.frozen 2
  have g3 := hb2.frozen 3
  have r0 := hb4.cell 0
  have r1 := hb4.cell 1
  have r2 := hb4.cell 2
  have r3 := hb4.cell 3
  have f0 := hb4.frozen 0
  have f1 := hb4.frozen 1
  have f2 := hb4.frozen 2
  have f3 := hb4.frozen 3
  simp only [List.getElem?_toArray, List.getElem?_cons_zero, List.getElem?_cons_succ] at p0 p1 p2 p3 r0 r1 r2 r3
  have K4 := Lib.hid (Kpt.trans K3.out k4 (fun _ e _ => e)); have HR := Lib.hid hdr; clear HB2 HB3 HB4 HB7
  have HB2 := Lib.hid hb2; have HB3 := Lib.hid hb3; have HB4 := Lib.hid hb4; have HB7 := Lib.hid hb7; clear hb2 hb3 hb4 hb7 k4 hdr
  have hn12 : w1.heap.size ≠ w1.heap.size + 1 + 1 := by omega
  go_upto_region 4 with fail
  have hm : SameMid w1 D o u B d ((((((((w4.setCell ⟨w1.heap.size, 0, none⟩ (.int .i64 u.epoch)).setCell ⟨w1.heap.size, 1, none⟩ (.string u.session)).setCell ⟨w1.heap.size, 2, none⟩ (.slice B u.typed.length d)).setCell ⟨w1.heap.size, 3, none⟩ (.string u.screen)).setCell ⟨w1.heap.size + 1 + 1, 0, none⟩ (.int .i64 u.epoch)).setCell ⟨w1.heap.size + 1 + 1, 1, none⟩ (.string u.session)).setCell ⟨w1.heap.size + 1 + 1, 2, none⟩ (.slice B u.typed.length d)).setCell ⟨w1.heap.size + 1 + 1, 3, none⟩ (.string u.screen)) := by
    have ka : Kpt (One w1.heap.size) w4 ((((w4.setCell ⟨w1.heap.size, 0, none⟩ (.int .i64 u.epoch)).setCell ⟨w1.heap.size, 1, none⟩ (.string u.session)).setCell ⟨w1.heap.size, 2, none⟩ (.slice B u.typed.length d)).setCell ⟨w1.heap.size, 3, none⟩ (.string u.screen)) := Kpt.set4 (Kpt.refl (One w1.heap.size) w4) (fun _ => rfl) _ _ _ _
    have kb : Kpt (One (w1.heap.size + 1 + 1)) ((((w4.setCell ⟨w1.heap.size, 0, none⟩ (.int .i64 u.epoch)).setCell ⟨w1.heap.size, 1, none⟩ (.string u.session)).setCell ⟨w1.heap.size, 2, none⟩ (.slice B u.typed.length d)).setCell ⟨w1.heap.size, 3, none⟩ (.string u.screen)) ((((((((w4.setCell ⟨w1.heap.size, 0, none⟩ (.int .i64 u.epoch)).setCell ⟨w1.heap.size, 1, none⟩ (.string u.session)).setCell ⟨w1.heap.size, 2, none⟩ (.slice B u.typed.length d)).setCell ⟨w1.heap.size, 3, none⟩ (.string u.screen)).setCell ⟨w1.heap.size + 1 + 1, 0, none⟩ (.int .i64 u.epoch)).setCell ⟨w1.heap.size + 1 + 1, 1, none⟩ (.string u.session)).setCell ⟨w1.heap.size + 1 + 1, 2, none⟩ (.slice B u.typed.length d)).setCell ⟨w1.heap.size + 1 + 1, 3, none⟩ (.string u.screen)) := Kpt.set4 (Kpt.refl (One (w1.heap.size + 1 + 1)) _) (fun _ => rfl) _ _ _ _
    have ba := HB2.out.set4 (.int .i64 u.epoch) (.string u.session) (.slice B u.typed.length d) (.string u.screen)
    have b4a := HB4.out.kpt ka (fun e => by have e' : w1.heap.size + 1 + 1 = w1.heap.size := e; omega)
    refine ⟨ba.kpt kb (fun e => by have e' : w1.heap.size = w1.heap.size + 1 + 1 := e; omega), (HB3.out.kpt ka (fun e => by have e' : w1.heap.size + 1 = w1.heap.size := e; omega)).kpt kb (fun e => by have e' : w1.heap.size + 1 = w1.heap.size + 1 + 1 := e; omega), b4a.set4 _ _ _ _,
      (HB7.out.kpt ka (fun e => by have e' : w1.heap.size + 1 + 1 + 1 = w1.heap.size := e; omega)).kpt kb (fun e => by have e' : w1.heap.size + 1 + 1 + 1 = w1.heap.size + 1 + 1 := e; omega), Kpt.trans (Kpt.trans K4.out ka (fun i e hlt => by have e' : i = w1.heap.size := e; omega)) kb (fun i e hlt => by have e' : i = w1.heap.size + 1 + 1 := e; omega), ?_⟩
    have hD' : ∀ i, (D i ∨ w3.heap.size ≤ i) → i ≠ w1.heap.size ∧ i ≠ w1.heap.size + 1 + 1 := fun i h => by
      rcases h with h | h
      · have := hD i h; omega
      · omega
    exact ⟨B, d, rfl, hd1, hd2, ((HR.out.kpt ka (fun i h e => (hD' i h).1 e)).kpt kb (fun i h e => (hD' i h).2 e)).more (fun i h => by rcases h with h | h; exact .inl h; right; omega)⟩
  generalize ((((((((w4.setCell ⟨w1.heap.size, 0, none⟩ (.int .i64 u.epoch)).setCell ⟨w1.heap.size, 1, none⟩ (.string u.session)).setCell ⟨w1.heap.size, 2, none⟩ (.slice B u.typed.length d)).setCell ⟨w1.heap.size, 3, none⟩ (.string u.screen)).setCell ⟨w1.heap.size + 1 + 1, 0, none⟩ (.int .i64 u.epoch)).setCell ⟨w1.heap.size + 1 + 1, 1, none⟩ (.string u.session)).setCell ⟨w1.heap.size + 1 + 1, 2, none⟩ (.slice B u.typed.length d)).setCell ⟨w1.heap.size + 1 + 1, 3, none⟩ (.string u.screen)) = wc at hm ⊢
  clear p0 p1 p2 p3 r0 r1 r2 r3 g0 g1 g2 g3 f0 f1 f2 f3 HB2 HB3 HB4 HB7 HR K4 h3lt
  have hb2 := hm.b2
  have hb3 := hm.b3
  have hb4 := hm.b4
  have hb7 := hm.b7
  have p0 := hb2.cell 0
  have p1 := hb2.cell 1
  have p2 := hb2.cell 2
  have p3 := hb2.cell 3
  have q0 := hb3.cell 0
  have q1 := hb3.cell 1
  have q2 := hb3.cell 2
  have q3 := hb3.cell 3
  have q4 := hb3.cell 4
  simp only [List.getElem?_toArray, List.getElem?_cons_zero, List.getElem?_cons_succ] at p0 p1 p2 p3 q0 q1 q2 q3 q4
  have HM := Lib.hid hm; have HTv := Lib.hid hm.tv; clear hb2 hb3 hb4 hb7 hm hd1 hd2
  have ecall := (f178_any u o.text _ _ wc HTv.out _hs1 (by omega) _hs2)
  rw [HNX.out, HER.out] at ecall
  have HC := Lib.hid ecall; clear ecall HNX HER
  go_wp2_with fail
  refine HC.out.mono ?_
  rintro e w5 ⟨v5, rfl, ⟨E, m, rfl, hm1, hm2, hmr⟩, k5⟩
  have hb4 := HM.out.b4.kpt k5 (fun e => e)
  clear p0 p1 p2 p3 q0 q1 q2 q3 q4
  have r0 := hb4.cell 0
  have r1 := hb4.cell 1
  have r2 := hb4.cell 2
  have r3 := hb4.cell 3
  have f0 := hb4.frozen 0
  have f1 := hb4.frozen 1
  have f2 := hb4.frozen 2
  have f3 := hb4.frozen 3
  simp only [List.getElem?_toArray, List.getElem?_cons_zero, List.getElem?_cons_succ] at r0 r1 r2 r3
  have HB4 := Lib.hid hb4; have HR5 := Lib.hid hmr; have K5 := Lib.hid k5; clear hb4 hmr k5 HC
  go_upto_region 18 with fail
  have hb4 := HB4.out.set4 (.int .i64 nx.epoch) (.string nx.session) (.slice E nx.typed.length m) (.string nx.screen)
  have kx : Kpt (One (w1.heap.size + 1 + 1)) w5 ((((w5.setCell ⟨w1.heap.size + 1 + 1, 0, none⟩ (.int .i64 nx.epoch)).setCell ⟨w1.heap.size + 1 + 1, 1, none⟩ (.string nx.session)).setCell ⟨w1.heap.size + 1 + 1, 2, none⟩ (.slice E nx.typed.length m)).setCell ⟨w1.heap.size + 1 + 1, 3, none⟩ (.string nx.screen)) := Kpt.set4 (Kpt.refl (One (w1.heap.size + 1 + 1)) w5) (fun _ => rfl) _ _ _ _
  generalize ((((w5.setCell ⟨w1.heap.size + 1 + 1, 0, none⟩ (.int .i64 nx.epoch)).setCell ⟨w1.heap.size + 1 + 1, 1, none⟩ (.string nx.session)).setCell ⟨w1.heap.size + 1 + 1, 2, none⟩ (.slice E nx.typed.length m)).setCell ⟨w1.heap.size + 1 + 1, 3, none⟩ (.string nx.screen)) = w6 at hb4 kx ⊢
  have hb7 := (HM.out.b7.kpt K5.out (fun e => e)).kpt kx (fun e => by have e' : w1.heap.size + 1 + 1 + 1 = w1.heap.size + 1 + 1 := e; omega)
  have k6 : Kpt Non w1 w6 := Kpt.trans (Kpt.trans HM.out.kk K5.out (fun _ e _ => e)) kx (fun i e hlt => by have e' : i = w1.heap.size + 1 + 1 := e; omega)
  have hcl := HM.out.b7.lt
  have hr6 := (HR5.out.kpt kx (fun i h e => by have e' : i = w1.heap.size + 1 + 1 := e; rcases h with (h | h) | h; have := hD i h; omega; omega; omega)).more (D' := fun i => D i ∨ w1.heap.size + 1 + 1 + 1 < i) (fun i h => by rcases h with (h | h) | h; exact .inl h; right; omega; right; omega)
  clear r0 r1 r2 r3 f0 f1 f2 f3 kx HB4
  have n0 : nx.typed.length ≤ m := hm1
  have r0 := hb4.cell 0
  have r1 := hb4.cell 1
  have r2 := hb4.cell 2
  have r3 := hb4.cell 3
  have f0 := hb4.frozen 0
  have f1 := hb4.frozen 1
  have f2 := hb4.frozen 2
  have f3 := hb4.frozen 3
  have z0 := hb7.cell 0
  have z1 := hb7.cell 1
  have z2 := hb7.cell 2
  have z3 := hb7.cell 3
  have g0 := hb7.frozen 0
  have g1 := hb7.frozen 1
  have g2 := hb7.frozen 2
  have g3 := hb7.frozen 3
  simp only [List.getElem?_toArray, List.getElem?_cons_zero, List.getElem?_cons_succ] at r0 r1 r2 r3 z0 z1 z2 z3
  have HB4 := Lib.hid hb4; have HB7 := Lib.hid hb7; have HR6 := Lib.hid hr6; have K6 := Lib.hid k6; clear hb4 hb7 hr6 k6
  have hn47 : w1.heap.size + 1 + 1 ≠ w1.heap.size + 1 + 1 + 1 := by omega
  go_region
  go_wp2_with fail
  have hz4 := (HB4.out.set4 (.int .i64 nx.epoch) (.string nx.session) (.slice E nx.typed.length m) (.string nx.screen)).kpt (Kpt.set4 (Kpt.refl (One (w1.heap.size + 1 + 1 + 1)) _) (fun _ => rfl) (.int .i64 0) (.string ⟨#[]⟩) (.slice none 0 0) (.string ⟨#[]⟩)) (fun e => by have e' : w1.heap.size + 1 + 1 = w1.heap.size + 1 + 1 + 1 := e; omega)
  have hz7 := (HB7.out.kpt (Kpt.set4 (Kpt.refl (One (w1.heap.size + 1 + 1)) w6) (fun _ => rfl) (.int .i64 nx.epoch) (.string nx.session) (.slice E nx.typed.length m) (.string nx.screen)) (fun e => by have e' : w1.heap.size + 1 + 1 + 1 = w1.heap.size + 1 + 1 := e; omega)).set4 (.int .i64 0) (.string ⟨#[]⟩) (.slice none 0 0) (.string ⟨#[]⟩)
  have kz : Kpt (fun i => i = w1.heap.size + 1 + 1 ∨ i = w1.heap.size + 1 + 1 + 1) w6 (((((((((w6.setCell ⟨w1.heap.size + 1 + 1, 0, none⟩ (.int .i64 nx.epoch)).setCell ⟨w1.heap.size + 1 + 1, 1, none⟩ (.string nx.session)).setCell ⟨w1.heap.size + 1 + 1, 2, none⟩ (.slice E nx.typed.length m)).setCell ⟨w1.heap.size + 1 + 1, 3, none⟩ (.string nx.screen)).setCell ⟨w1.heap.size + 1 + 1 + 1, 0, none⟩ (.int .i64 0)).setCell ⟨w1.heap.size + 1 + 1 + 1, 1, none⟩ (.string ⟨#[]⟩)).setCell ⟨w1.heap.size + 1 + 1 + 1, 2, none⟩ (.slice none 0 0)).setCell ⟨w1.heap.size + 1 + 1 + 1, 3, none⟩ (.string ⟨#[]⟩))).drew := Kpt.drew (Kpt.set4 (Kpt.set4 (Kpt.refl _ w6) (fun _ => .inl rfl) _ _ _ _) (fun _ => .inr rfl) _ _ _ _)
  have kf : Kpt Non w1 (((((((((w6.setCell ⟨w1.heap.size + 1 + 1, 0, none⟩ (.int .i64 nx.epoch)).setCell ⟨w1.heap.size + 1 + 1, 1, none⟩ (.string nx.session)).setCell ⟨w1.heap.size + 1 + 1, 2, none⟩ (.slice E nx.typed.length m)).setCell ⟨w1.heap.size + 1 + 1, 3, none⟩ (.string nx.screen)).setCell ⟨w1.heap.size + 1 + 1 + 1, 0, none⟩ (.int .i64 0)).setCell ⟨w1.heap.size + 1 + 1 + 1, 1, none⟩ (.string ⟨#[]⟩)).setCell ⟨w1.heap.size + 1 + 1 + 1, 2, none⟩ (.slice none 0 0)).setCell ⟨w1.heap.size + 1 + 1 + 1, 3, none⟩ (.string ⟨#[]⟩))).drew := Kpt.trans K6.out kz (fun i e hlt => by rcases e with e | e <;> omega)
  have hy4 := hz4.drew
  have hy7 := hz7.drew
  have y0 := hy4.cell 0
  have y1 := hy4.cell 1
  have y2 := hy4.cell 2
  have y3 := hy4.cell 3
  have x0 := hy7.cell 0
  have x1 := hy7.cell 1
  have x2 := hy7.cell 2
  have x3 := hy7.cell 3
  simp only [List.getElem?_toArray, List.getElem?_cons_zero, List.getElem?_cons_succ] at y0 y1 y2 y3 x0 x1 x2 x3
  refine bodyPost_ret (v := .tuple #[.agg #[(.int .i64 nx.epoch), (.string nx.session), (.slice E nx.typed.length m), (.string nx.screen)], .int .i64 er, .string ⟨#[]⟩, .agg #[(.int .i64 0), (.string ⟨#[]⟩), (.slice none 0 0), (.string ⟨#[]⟩)]]) ?_ rfl ⟨E, m, none, 0, rfl, ⟨E, m, rfl, hm1, hm2, (HR6.out.kpt kz (fun i h e => by rcases e with e | e; rcases h with h | h; have := hD i h; omega; omega; rcases h with h | h; have := hD i h; omega; omega)).more (fun i h => by rcases h with h | h; exact .inl h; right; omega)⟩, tmv_zero _ _, kf⟩
  clear hz4 hz7 kz kf hy4 hy7
  generalize (((((((((w6.setCell ⟨w1.heap.size + 1 + 1, 0, none⟩ (.int .i64 nx.epoch)).setCell ⟨w1.heap.size + 1 + 1, 1, none⟩ (.string nx.session)).setCell ⟨w1.heap.size + 1 + 1, 2, none⟩ (.slice E nx.typed.length m)).setCell ⟨w1.heap.size + 1 + 1, 3, none⟩ (.string nx.screen)).setCell ⟨w1.heap.size + 1 + 1 + 1, 0, none⟩ (.int .i64 0)).setCell ⟨w1.heap.size + 1 + 1 + 1, 1, none⟩ (.string ⟨#[]⟩)).setCell ⟨w1.heap.size + 1 + 1 + 1, 2, none⟩ (.slice none 0 0)).setCell ⟨w1.heap.size + 1 + 1 + 1, 3, none⟩ (.string ⟨#[]⟩))).drew = wf at y0 y1 y2 y3 x0 x1 x2 x3
  simp [results, Tryz.results71, go_sem, y0, y1, y2, y3, x0, x1, x2, x3]
set_option maxRecDepth 100000 in
set_option maxHeartbeats 1000000 in
theorem f120_read4 (hv : TmV w1 D t (.agg #[(.int .i64 t.epoch), (.string t.session), (.slice A t.typed.length c), (.string t.screen)])) (hD : ∀ i, D i → i < w1.heap.size) (hk : o.kind % 8 = 4) (hk0 : 0 ≤ o.kind) (hk1 : o.kind ≤ 255) (hcut : o.cut = o) (_hw : o.who.size ≤ 100) (_ht : o.text.size ≤ 3000)
    (_hs1 : (inRef t o.epoch).screen.size ≤ 1099511627776) (_hs2 : (inRef t o.epoch).typed.length ≤ 1048576) (_hs3 : (inRef t o.epoch).session.size ≤ 140737488351232) :
    Calls Tryz.prog 71 #[.agg #[(.int .i64 t.epoch), (.string t.session), (.slice A t.typed.length c), (.string t.screen)], .agg #[.int .u8 o.kind, .int .i64 o.number, .int .i64 o.epoch, .string o.who, .string o.text]] w1 (SamePost w1 D (readT o.who (inRef t o.epoch)).1 (readT o.who (inRef t o.epoch)).2 (readL o.who (inRef t o.epoch)) zeroT) := by
  have HB := Lib.hid (same_boxes w1 #[(.int .i64 t.epoch), (.string t.session), (.slice A t.typed.length c), (.string t.screen)] #[.int .u8 o.kind, .int .i64 o.number, .int .i64 o.epoch, .string o.who, .string o.text] #[(.int .i64 0), (.string ⟨#[]⟩), (.slice none 0 0), (.string ⟨#[]⟩)] #[(.int .i64 0), (.string ⟨#[]⟩), (.slice none 0 0), (.string ⟨#[]⟩)])
  have HVt := Lib.hid hv
  have e118 := fun w => f118_any o w (by omega) (by omega)
  rw [hcut] at e118
  unfold Opn.val Opn.cells at e118
  have E118 := Lib.hid e118
  have e72 := fun w (k : Kpt Non w1 w) => f72_any t o.epoch _ D w (hv.kpt k (fun _ _ e => e))
  generalize inRef t o.epoch = u at e72 _hs1 _hs2 _hs3 ⊢
  have E72 := Lib.hid e72
  clear e118 hcut hv e72
  obtain ⟨nx, hnx⟩ : ∃ nx, (readT o.who u).1 = nx := ⟨_, rfl⟩
  obtain ⟨er, her⟩ : ∃ er, (readT o.who u).2 = er := ⟨_, rfl⟩
  obtain ⟨ln, hln⟩ : ∃ ln, readL o.who u = ln := ⟨_, rfl⟩
  rw [hnx, her, hln]
  have HNX := Lib.hid hnx; have HER := Lib.hid her; have HLN := Lib.hid hln; clear hnx her hln
  go_enter Tryz.func71, Tryz.ntmps71
  go_wp2_with fail
  refine (E118.out _).mono ?_
  rintro e w2 ⟨rfl, k2⟩
  have hb2 := HB.out.1.kpt k2 (fun e => e)
  have hb3 := HB.out.2.1.kpt k2 (fun e => e)
  have hb4 := HB.out.2.2.1.kpt k2 (fun e => e)
  have hb7 := HB.out.2.2.2.1.kpt k2 (fun e => e)
  have K2 := Lib.hid (Kpt.trans HB.out.2.2.2.2 k2 (fun _ e _ => e))
  have p0 := hb2.cell 0
  have p1 := hb2.cell 1
  have p2 := hb2.cell 2
  have p3 := hb2.cell 3
  have q0 := hb3.cell 0
  have q1 := hb3.cell 1
  have q2 := hb3.cell 2
  have q3 := hb3.cell 3
  have q4 := hb3.cell 4
  have g0 := hb3.frozen 0
  have g1 := hb3.frozen 1
  have g2 := hb3.frozen 2
  have g3 := hb3.frozen 3
  have g4 := hb3.frozen 4
  simp only [List.getElem?_toArray, List.getElem?_cons_zero, List.getElem?_cons_succ] at p0 p1 p2 p3 q0 q1 q2 q3 q4
  have HB2 := Lib.hid hb2; have HB3 := Lib.hid hb3; have HB4 := Lib.hid hb4; have HB7 := Lib.hid hb7; clear hb2 hb3 hb4 hb7 k2
  go_upto_region 2 with fail
  have kx : Kpt (One (w1.heap.size + 1)) w2 (((((w2.setCell ⟨w1.heap.size + 1, 0, none⟩ (.int .u8 o.kind)).setCell ⟨w1.heap.size + 1, 1, none⟩ (.int .i64 o.number)).setCell ⟨w1.heap.size + 1, 2, none⟩ (.int .i64 o.epoch)).setCell ⟨w1.heap.size + 1, 3, none⟩ (.string o.who)).setCell ⟨w1.heap.size + 1, 4, none⟩ (.string o.text)) := Kpt.set5 (Kpt.refl (One (w1.heap.size + 1)) w2) (fun _ => rfl) _ _ _ _ _
  have hb3 := HB3.out.same5
  generalize (((((w2.setCell ⟨w1.heap.size + 1, 0, none⟩ (.int .u8 o.kind)).setCell ⟨w1.heap.size + 1, 1, none⟩ (.int .i64 o.number)).setCell ⟨w1.heap.size + 1, 2, none⟩ (.int .i64 o.epoch)).setCell ⟨w1.heap.size + 1, 3, none⟩ (.string o.who)).setCell ⟨w1.heap.size + 1, 4, none⟩ (.string o.text)) = w3 at kx hb3 ⊢
  have k3 : Kpt Non w1 w3 := Kpt.trans K2.out kx (fun i e hlt => by have e' : i = w1.heap.size + 1 := e; omega)
  have hb2 := HB2.out.kpt kx (fun e => by have e' : w1.heap.size = w1.heap.size + 1 := e; omega)
  have hb4 := HB4.out.kpt kx (fun e => by have e' : w1.heap.size + 1 + 1 = w1.heap.size + 1 := e; omega)
  have hb7 := HB7.out.kpt kx (fun e => by have e' : w1.heap.size + 1 + 1 + 1 = w1.heap.size + 1 := e; omega)
  clear p0 p1 p2 p3 q0 q1 q2 q3 q4 g0 g1 g2 g3 g4 HB2 HB3 HB4 HB7 kx K2
  have p0 := hb2.cell 0
  have p1 := hb2.cell 1
  have p2 := hb2.cell 2
  have p3 := hb2.cell 3
  have q0 := hb3.cell 0
  have q1 := hb3.cell 1
  have q2 := hb3.cell 2
  have q3 := hb3.cell 3
  have q4 := hb3.cell 4
  simp only [List.getElem?_toArray, List.getElem?_cons_zero, List.getElem?_cons_succ] at p0 p1 p2 p3 q0 q1 q2 q3 q4
  have HB2 := Lib.hid hb2; have HB3 := Lib.hid hb3; have HB4 := Lib.hid hb4; have HB7 := Lib.hid hb7; have K3 := Lib.hid k3; clear hb2 hb3 hb4 hb7 k3
  go_wp2_with fail
  refine (E72.out _ K3.out).mono ?_
  rintro e w4 ⟨v4, rfl, ⟨B, d, rfl, hd1, hd2, hdr⟩, k4⟩
  have hb2 := HB2.out.kpt k4 (fun e => e)
  have hb3 := HB3.out.kpt k4 (fun e => e)
  have hb4 := HB4.out.kpt k4 (fun e => e)
  have hb7 := HB7.out.kpt k4 (fun e => e)
  have h3lt := HB7.out.lt
  clear p0 p1 p2 p3 q0 q1 q2 q3 q4
  have p0 := hb2.cell 0
  have p1 := hb2.cell 1
  have p2 := hb2.cell 2
  have p3 := hb2.cell 3
  have g0 := hb2.frozen 0
  have g1 := hb2.frozen 1
  have g2 := hb2.frozen 2
  have g3 := hb2.frozen 3
  have r0 := hb4.cell 0
  have r1 := hb4.cell 1
  have r2 := hb4.cell 2
  have r3 := hb4.cell 3
  have f0 := hb4.frozen 0
  have f1 := hb4.frozen 1
  have f2 := hb4.frozen 2
  have f3 := hb4.frozen 3
  simp only [List.getElem?_toArray, List.getElem?_cons_zero, List.getElem?_cons_succ] at p0 p1 p2 p3 r0 r1 r2 r3
  have K4 := Lib.hid (Kpt.trans K3.out k4 (fun _ e _ => e)); have HR := Lib.hid hdr; clear HB2 HB3 HB4 HB7
  have HB2 := Lib.hid hb2; have HB3 := Lib.hid hb3; have HB4 := Lib.hid hb4; have HB7 := Lib.hid hb7; clear hb2 hb3 hb4 hb7 k4 hdr
  have hn12 : w1.heap.size ≠ w1.heap.size + 1 + 1 := by omega
  go_upto_region 4 with fail
  have hm : SameMid w1 D o u B d ((((((((w4.setCell ⟨w1.heap.size, 0, none⟩ (.int .i64 u.epoch)).setCell ⟨w1.heap.size, 1, none⟩ (.string u.session)).setCell ⟨w1.heap.size, 2, none⟩ (.slice B u.typed.length d)).setCell ⟨w1.heap.size, 3, none⟩ (.string u.screen)).setCell ⟨w1.heap.size + 1 + 1, 0, none⟩ (.int .i64 u.epoch)).setCell ⟨w1.heap.size + 1 + 1, 1, none⟩ (.string u.session)).setCell ⟨w1.heap.size + 1 + 1, 2, none⟩ (.slice B u.typed.length d)).setCell ⟨w1.heap.size + 1 + 1, 3, none⟩ (.string u.screen)) := by
    have ka : Kpt (One w1.heap.size) w4 ((((w4.setCell ⟨w1.heap.size, 0, none⟩ (.int .i64 u.epoch)).setCell ⟨w1.heap.size, 1, none⟩ (.string u.session)).setCell ⟨w1.heap.size, 2, none⟩ (.slice B u.typed.length d)).setCell ⟨w1.heap.size, 3, none⟩ (.string u.screen)) := Kpt.set4 (Kpt.refl (One w1.heap.size) w4) (fun _ => rfl) _ _ _ _
    have kb : Kpt (One (w1.heap.size + 1 + 1)) ((((w4.setCell ⟨w1.heap.size, 0, none⟩ (.int .i64 u.epoch)).setCell ⟨w1.heap.size, 1, none⟩ (.string u.session)).setCell ⟨w1.heap.size, 2, none⟩ (.slice B u.typed.length d)).setCell ⟨w1.heap.size, 3, none⟩ (.string u.screen)) ((((((((w4.setCell ⟨w1.heap.size, 0, none⟩ (.int .i64 u.epoch)).setCell ⟨w1.heap.size, 1, none⟩ (.string u.session)).setCell ⟨w1.heap.size, 2, none⟩ (.slice B u.typed.length d)).setCell ⟨w1.heap.size, 3, none⟩ (.string u.screen)).setCell ⟨w1.heap.size + 1 + 1, 0, none⟩ (.int .i64 u.epoch)).setCell ⟨w1.heap.size + 1 + 1, 1, none⟩ (.string u.session)).setCell ⟨w1.heap.size + 1 + 1, 2, none⟩ (.slice B u.typed.length d)).setCell ⟨w1.heap.size + 1 + 1, 3, none⟩ (.string u.screen)) := Kpt.set4 (Kpt.refl (One (w1.heap.size + 1 + 1)) _) (fun _ => rfl) _ _ _ _
    have ba := HB2.out.set4 (.int .i64 u.epoch) (.string u.session) (.slice B u.typed.length d) (.string u.screen)
    have b4a := HB4.out.kpt ka (fun e => by have e' : w1.heap.size + 1 + 1 = w1.heap.size := e; omega)
    refine ⟨ba.kpt kb (fun e => by have e' : w1.heap.size = w1.heap.size + 1 + 1 := e; omega), (HB3.out.kpt ka (fun e => by have e' : w1.heap.size + 1 = w1.heap.size := e; omega)).kpt kb (fun e => by have e' : w1.heap.size + 1 = w1.heap.size + 1 + 1 := e; omega), b4a.set4 _ _ _ _,
      (HB7.out.kpt ka (fun e => by have e' : w1.heap.size + 1 + 1 + 1 = w1.heap.size := e; omega)).kpt kb (fun e => by have e' : w1.heap.size + 1 + 1 + 1 = w1.heap.size + 1 + 1 := e; omega), Kpt.trans (Kpt.trans K4.out ka (fun i e hlt => by have e' : i = w1.heap.size := e; omega)) kb (fun i e hlt => by have e' : i = w1.heap.size + 1 + 1 := e; omega), ?_⟩
    have hD' : ∀ i, (D i ∨ w3.heap.size ≤ i) → i ≠ w1.heap.size ∧ i ≠ w1.heap.size + 1 + 1 := fun i h => by
      rcases h with h | h
      · have := hD i h; omega
      · omega
    exact ⟨B, d, rfl, hd1, hd2, ((HR.out.kpt ka (fun i h e => (hD' i h).1 e)).kpt kb (fun i h e => (hD' i h).2 e)).more (fun i h => by rcases h with h | h; exact .inl h; right; omega)⟩
  generalize ((((((((w4.setCell ⟨w1.heap.size, 0, none⟩ (.int .i64 u.epoch)).setCell ⟨w1.heap.size, 1, none⟩ (.string u.session)).setCell ⟨w1.heap.size, 2, none⟩ (.slice B u.typed.length d)).setCell ⟨w1.heap.size, 3, none⟩ (.string u.screen)).setCell ⟨w1.heap.size + 1 + 1, 0, none⟩ (.int .i64 u.epoch)).setCell ⟨w1.heap.size + 1 + 1, 1, none⟩ (.string u.session)).setCell ⟨w1.heap.size + 1 + 1, 2, none⟩ (.slice B u.typed.length d)).setCell ⟨w1.heap.size + 1 + 1, 3, none⟩ (.string u.screen)) = wc at hm ⊢
  clear p0 p1 p2 p3 r0 r1 r2 r3 g0 g1 g2 g3 f0 f1 f2 f3 HB2 HB3 HB4 HB7 HR K4 h3lt
  have hb2 := hm.b2
  have hb3 := hm.b3
  have hb4 := hm.b4
  have hb7 := hm.b7
  have p0 := hb2.cell 0
  have p1 := hb2.cell 1
  have p2 := hb2.cell 2
  have p3 := hb2.cell 3
  have q0 := hb3.cell 0
  have q1 := hb3.cell 1
  have q2 := hb3.cell 2
  have q3 := hb3.cell 3
  have q4 := hb3.cell 4
  simp only [List.getElem?_toArray, List.getElem?_cons_zero, List.getElem?_cons_succ] at p0 p1 p2 p3 q0 q1 q2 q3 q4
  have HM := Lib.hid hm; have HTv := Lib.hid hm.tv; clear hb2 hb3 hb4 hb7 hm hd1 hd2
  have ecall := (f179_any u o.who _ _ wc HTv.out (by omega) _hs3)
  rw [HNX.out, HER.out, HLN.out] at ecall
  have HC := Lib.hid ecall; clear ecall HNX HER HLN
  go_wp2_with fail
  refine HC.out.mono ?_
  rintro e w5 ⟨v5, rfl, ⟨E, m, rfl, hm1, hm2, hmr⟩, k5⟩
  have hb4 := HM.out.b4.kpt k5 (fun e => e)
  clear p0 p1 p2 p3 q0 q1 q2 q3 q4
  have r0 := hb4.cell 0
  have r1 := hb4.cell 1
  have r2 := hb4.cell 2
  have r3 := hb4.cell 3
  have f0 := hb4.frozen 0
  have f1 := hb4.frozen 1
  have f2 := hb4.frozen 2
  have f3 := hb4.frozen 3
  simp only [List.getElem?_toArray, List.getElem?_cons_zero, List.getElem?_cons_succ] at r0 r1 r2 r3
  have HB4 := Lib.hid hb4; have HR5 := Lib.hid hmr; have K5 := Lib.hid k5; clear hb4 hmr k5 HC
  go_upto_region 18 with fail
  have hb4 := HB4.out.set4 (.int .i64 nx.epoch) (.string nx.session) (.slice E nx.typed.length m) (.string nx.screen)
  have kx : Kpt (One (w1.heap.size + 1 + 1)) w5 ((((w5.setCell ⟨w1.heap.size + 1 + 1, 0, none⟩ (.int .i64 nx.epoch)).setCell ⟨w1.heap.size + 1 + 1, 1, none⟩ (.string nx.session)).setCell ⟨w1.heap.size + 1 + 1, 2, none⟩ (.slice E nx.typed.length m)).setCell ⟨w1.heap.size + 1 + 1, 3, none⟩ (.string nx.screen)) := Kpt.set4 (Kpt.refl (One (w1.heap.size + 1 + 1)) w5) (fun _ => rfl) _ _ _ _
  generalize ((((w5.setCell ⟨w1.heap.size + 1 + 1, 0, none⟩ (.int .i64 nx.epoch)).setCell ⟨w1.heap.size + 1 + 1, 1, none⟩ (.string nx.session)).setCell ⟨w1.heap.size + 1 + 1, 2, none⟩ (.slice E nx.typed.length m)).setCell ⟨w1.heap.size + 1 + 1, 3, none⟩ (.string nx.screen)) = w6 at hb4 kx ⊢
  have hb7 := (HM.out.b7.kpt K5.out (fun e => e)).kpt kx (fun e => by have e' : w1.heap.size + 1 + 1 + 1 = w1.heap.size + 1 + 1 := e; omega)
  have k6 : Kpt Non w1 w6 := Kpt.trans (Kpt.trans HM.out.kk K5.out (fun _ e _ => e)) kx (fun i e hlt => by have e' : i = w1.heap.size + 1 + 1 := e; omega)
  have hcl := HM.out.b7.lt
  have hr6 := (HR5.out.kpt kx (fun i h e => by have e' : i = w1.heap.size + 1 + 1 := e; rcases h with (h | h) | h; have := hD i h; omega; omega; omega)).more (D' := fun i => D i ∨ w1.heap.size + 1 + 1 + 1 < i) (fun i h => by rcases h with (h | h) | h; exact .inl h; right; omega; right; omega)
  clear r0 r1 r2 r3 f0 f1 f2 f3 kx HB4
  have n0 : nx.typed.length ≤ m := hm1
  have r0 := hb4.cell 0
  have r1 := hb4.cell 1
  have r2 := hb4.cell 2
  have r3 := hb4.cell 3
  have f0 := hb4.frozen 0
  have f1 := hb4.frozen 1
  have f2 := hb4.frozen 2
  have f3 := hb4.frozen 3
  have z0 := hb7.cell 0
  have z1 := hb7.cell 1
  have z2 := hb7.cell 2
  have z3 := hb7.cell 3
  have g0 := hb7.frozen 0
  have g1 := hb7.frozen 1
  have g2 := hb7.frozen 2
  have g3 := hb7.frozen 3
  simp only [List.getElem?_toArray, List.getElem?_cons_zero, List.getElem?_cons_succ] at r0 r1 r2 r3 z0 z1 z2 z3
  have HB4 := Lib.hid hb4; have HB7 := Lib.hid hb7; have HR6 := Lib.hid hr6; have K6 := Lib.hid k6; clear hb4 hb7 hr6 k6
  have hn47 : w1.heap.size + 1 + 1 ≠ w1.heap.size + 1 + 1 + 1 := by omega
  go_region
  go_wp2_with fail
  have hz4 := (HB4.out.set4 (.int .i64 nx.epoch) (.string nx.session) (.slice E nx.typed.length m) (.string nx.screen)).kpt (Kpt.set4 (Kpt.refl (One (w1.heap.size + 1 + 1 + 1)) _) (fun _ => rfl) (.int .i64 0) (.string ⟨#[]⟩) (.slice none 0 0) (.string ⟨#[]⟩)) (fun e => by have e' : w1.heap.size + 1 + 1 = w1.heap.size + 1 + 1 + 1 := e; omega)
  have hz7 := (HB7.out.kpt (Kpt.set4 (Kpt.refl (One (w1.heap.size + 1 + 1)) w6) (fun _ => rfl) (.int .i64 nx.epoch) (.string nx.session) (.slice E nx.typed.length m) (.string nx.screen)) (fun e => by have e' : w1.heap.size + 1 + 1 + 1 = w1.heap.size + 1 + 1 := e; omega)).set4 (.int .i64 0) (.string ⟨#[]⟩) (.slice none 0 0) (.string ⟨#[]⟩)
  have kz : Kpt (fun i => i = w1.heap.size + 1 + 1 ∨ i = w1.heap.size + 1 + 1 + 1) w6 (((((((((w6.setCell ⟨w1.heap.size + 1 + 1, 0, none⟩ (.int .i64 nx.epoch)).setCell ⟨w1.heap.size + 1 + 1, 1, none⟩ (.string nx.session)).setCell ⟨w1.heap.size + 1 + 1, 2, none⟩ (.slice E nx.typed.length m)).setCell ⟨w1.heap.size + 1 + 1, 3, none⟩ (.string nx.screen)).setCell ⟨w1.heap.size + 1 + 1 + 1, 0, none⟩ (.int .i64 0)).setCell ⟨w1.heap.size + 1 + 1 + 1, 1, none⟩ (.string ⟨#[]⟩)).setCell ⟨w1.heap.size + 1 + 1 + 1, 2, none⟩ (.slice none 0 0)).setCell ⟨w1.heap.size + 1 + 1 + 1, 3, none⟩ (.string ⟨#[]⟩))).drew := Kpt.drew (Kpt.set4 (Kpt.set4 (Kpt.refl _ w6) (fun _ => .inl rfl) _ _ _ _) (fun _ => .inr rfl) _ _ _ _)
  have kf : Kpt Non w1 (((((((((w6.setCell ⟨w1.heap.size + 1 + 1, 0, none⟩ (.int .i64 nx.epoch)).setCell ⟨w1.heap.size + 1 + 1, 1, none⟩ (.string nx.session)).setCell ⟨w1.heap.size + 1 + 1, 2, none⟩ (.slice E nx.typed.length m)).setCell ⟨w1.heap.size + 1 + 1, 3, none⟩ (.string nx.screen)).setCell ⟨w1.heap.size + 1 + 1 + 1, 0, none⟩ (.int .i64 0)).setCell ⟨w1.heap.size + 1 + 1 + 1, 1, none⟩ (.string ⟨#[]⟩)).setCell ⟨w1.heap.size + 1 + 1 + 1, 2, none⟩ (.slice none 0 0)).setCell ⟨w1.heap.size + 1 + 1 + 1, 3, none⟩ (.string ⟨#[]⟩))).drew := Kpt.trans K6.out kz (fun i e hlt => by rcases e with e | e <;> omega)
  have hy4 := hz4.drew
  have hy7 := hz7.drew
  have y0 := hy4.cell 0
  have y1 := hy4.cell 1
  have y2 := hy4.cell 2
  have y3 := hy4.cell 3
  have x0 := hy7.cell 0
  have x1 := hy7.cell 1
  have x2 := hy7.cell 2
  have x3 := hy7.cell 3
  simp only [List.getElem?_toArray, List.getElem?_cons_zero, List.getElem?_cons_succ] at y0 y1 y2 y3 x0 x1 x2 x3
  refine bodyPost_ret (v := .tuple #[.agg #[(.int .i64 nx.epoch), (.string nx.session), (.slice E nx.typed.length m), (.string nx.screen)], .int .i64 er, .string ln, .agg #[(.int .i64 0), (.string ⟨#[]⟩), (.slice none 0 0), (.string ⟨#[]⟩)]]) ?_ rfl ⟨E, m, none, 0, rfl, ⟨E, m, rfl, hm1, hm2, (HR6.out.kpt kz (fun i h e => by rcases e with e | e; rcases h with h | h; have := hD i h; omega; omega; rcases h with h | h; have := hD i h; omega; omega)).more (fun i h => by rcases h with h | h; exact .inl h; right; omega)⟩, tmv_zero _ _, kf⟩
  clear hz4 hz7 kz kf hy4 hy7
  generalize (((((((((w6.setCell ⟨w1.heap.size + 1 + 1, 0, none⟩ (.int .i64 nx.epoch)).setCell ⟨w1.heap.size + 1 + 1, 1, none⟩ (.string nx.session)).setCell ⟨w1.heap.size + 1 + 1, 2, none⟩ (.slice E nx.typed.length m)).setCell ⟨w1.heap.size + 1 + 1, 3, none⟩ (.string nx.screen)).setCell ⟨w1.heap.size + 1 + 1 + 1, 0, none⟩ (.int .i64 0)).setCell ⟨w1.heap.size + 1 + 1 + 1, 1, none⟩ (.string ⟨#[]⟩)).setCell ⟨w1.heap.size + 1 + 1 + 1, 2, none⟩ (.slice none 0 0)).setCell ⟨w1.heap.size + 1 + 1 + 1, 3, none⟩ (.string ⟨#[]⟩))).drew = wf at y0 y1 y2 y3 x0 x1 x2 x3
  simp [results, Tryz.results71, go_sem, y0, y1, y2, y3, x0, x1, x2, x3]
set_option maxRecDepth 100000 in
set_option maxHeartbeats 1000000 in
theorem f120_read5 (hv : TmV w1 D t (.agg #[(.int .i64 t.epoch), (.string t.session), (.slice A t.typed.length c), (.string t.screen)])) (hD : ∀ i, D i → i < w1.heap.size) (hk : o.kind % 8 = 5) (hk0 : 0 ≤ o.kind) (hk1 : o.kind ≤ 255) (hcut : o.cut = o) (_hw : o.who.size ≤ 100) (_ht : o.text.size ≤ 3000)
    (_hs1 : (inRef t o.epoch).screen.size ≤ 1099511627776) (_hs2 : (inRef t o.epoch).typed.length ≤ 1048576) (_hs3 : (inRef t o.epoch).session.size ≤ 140737488351232) :
    Calls Tryz.prog 71 #[.agg #[(.int .i64 t.epoch), (.string t.session), (.slice A t.typed.length c), (.string t.screen)], .agg #[.int .u8 o.kind, .int .i64 o.number, .int .i64 o.epoch, .string o.who, .string o.text]] w1 (SamePost w1 D (readT o.who (inRef t o.epoch)).1 (readT o.who (inRef t o.epoch)).2 (readL o.who (inRef t o.epoch)) zeroT) := by
  have HB := Lib.hid (same_boxes w1 #[(.int .i64 t.epoch), (.string t.session), (.slice A t.typed.length c), (.string t.screen)] #[.int .u8 o.kind, .int .i64 o.number, .int .i64 o.epoch, .string o.who, .string o.text] #[(.int .i64 0), (.string ⟨#[]⟩), (.slice none 0 0), (.string ⟨#[]⟩)] #[(.int .i64 0), (.string ⟨#[]⟩), (.slice none 0 0), (.string ⟨#[]⟩)])
  have HVt := Lib.hid hv
  have e118 := fun w => f118_any o w (by omega) (by omega)
  rw [hcut] at e118
  unfold Opn.val Opn.cells at e118
  have E118 := Lib.hid e118
  have e72 := fun w (k : Kpt Non w1 w) => f72_any t o.epoch _ D w (hv.kpt k (fun _ _ e => e))
  generalize inRef t o.epoch = u at e72 _hs1 _hs2 _hs3 ⊢
  have E72 := Lib.hid e72
  clear e118 hcut hv e72
  obtain ⟨nx, hnx⟩ : ∃ nx, (readT o.who u).1 = nx := ⟨_, rfl⟩
  obtain ⟨er, her⟩ : ∃ er, (readT o.who u).2 = er := ⟨_, rfl⟩
  obtain ⟨ln, hln⟩ : ∃ ln, readL o.who u = ln := ⟨_, rfl⟩
  rw [hnx, her, hln]
  have HNX := Lib.hid hnx; have HER := Lib.hid her; have HLN := Lib.hid hln; clear hnx her hln
  go_enter Tryz.func71, Tryz.ntmps71
  go_wp2_with fail
  refine (E118.out _).mono ?_
  rintro e w2 ⟨rfl, k2⟩
  have hb2 := HB.out.1.kpt k2 (fun e => e)
  have hb3 := HB.out.2.1.kpt k2 (fun e => e)
  have hb4 := HB.out.2.2.1.kpt k2 (fun e => e)
  have hb7 := HB.out.2.2.2.1.kpt k2 (fun e => e)
  have K2 := Lib.hid (Kpt.trans HB.out.2.2.2.2 k2 (fun _ e _ => e))
  have p0 := hb2.cell 0
  have p1 := hb2.cell 1
  have p2 := hb2.cell 2
  have p3 := hb2.cell 3
  have q0 := hb3.cell 0
  have q1 := hb3.cell 1
  have q2 := hb3.cell 2
  have q3 := hb3.cell 3
  have q4 := hb3.cell 4
  have g0 := hb3.frozen 0
  have g1 := hb3.frozen 1
  have g2 := hb3.frozen 2
  have g3 := hb3.frozen 3
  have g4 := hb3.frozen 4
  simp only [List.getElem?_toArray, List.getElem?_cons_zero, List.getElem?_cons_succ] at p0 p1 p2 p3 q0 q1 q2 q3 q4
  have HB2 := Lib.hid hb2; have HB3 := Lib.hid hb3; have HB4 := Lib.hid hb4; have HB7 := Lib.hid hb7; clear hb2 hb3 hb4 hb7 k2
  go_upto_region 2 with fail
  have kx : Kpt (One (w1.heap.size + 1)) w2 (((((w2.setCell ⟨w1.heap.size + 1, 0, none⟩ (.int .u8 o.kind)).setCell ⟨w1.heap.size + 1, 1, none⟩ (.int .i64 o.number)).setCell ⟨w1.heap.size + 1, 2, none⟩ (.int .i64 o.epoch)).setCell ⟨w1.heap.size + 1, 3, none⟩ (.string o.who)).setCell ⟨w1.heap.size + 1, 4, none⟩ (.string o.text)) := Kpt.set5 (Kpt.refl (One (w1.heap.size + 1)) w2) (fun _ => rfl) _ _ _ _ _
  have hb3 := HB3.out.same5
  generalize (((((w2.setCell ⟨w1.heap.size + 1, 0, none⟩ (.int .u8 o.kind)).setCell ⟨w1.heap.size + 1, 1, none⟩ (.int .i64 o.number)).setCell ⟨w1.heap.size + 1, 2, none⟩ (.int .i64 o.epoch)).setCell ⟨w1.heap.size + 1, 3, none⟩ (.string o.who)).setCell ⟨w1.heap.size + 1, 4, none⟩ (.string o.text)) = w3 at kx hb3 ⊢
  have k3 : Kpt Non w1 w3 := Kpt.trans K2.out kx (fun i e hlt => by have e' : i = w1.heap.size + 1 := e; omega)
  have hb2 := HB2.out.kpt kx (fun e => by have e' : w1.heap.size = w1.heap.size + 1 := e; omega)
  have hb4 := HB4.out.kpt kx (fun e => by have e' : w1.heap.size + 1 + 1 = w1.heap.size + 1 := e; omega)
  have hb7 := HB7.out.kpt kx (fun e => by have e' : w1.heap.size + 1 + 1 + 1 = w1.heap.size + 1 := e; omega)
  clear p0 p1 p2 p3 q0 q1 q2 q3 q4 g0 g1 g2 g3 g4 HB2 HB3 HB4 HB7 kx K2
  have p0 := hb2.cell 0
  have p1 := hb2.cell 1
  have p2 := hb2.cell 2
  have p3 := hb2.cell 3
  have q0 := hb3.cell 0
  have q1 := hb3.cell 1
  have q2 := hb3.cell 2
  have q3 := hb3.cell 3
  have q4 := hb3.cell 4
  simp only [List.getElem?_toArray, List.getElem?_cons_zero, List.getElem?_cons_succ] at p0 p1 p2 p3 q0 q1 q2 q3 q4
  have HB2 := Lib.hid hb2; have HB3 := Lib.hid hb3; have HB4 := Lib.hid hb4; have HB7 := Lib.hid hb7; have K3 := Lib.hid k3; clear hb2 hb3 hb4 hb7 k3
  go_wp2_with fail
  refine (E72.out _ K3.out).mono ?_
  rintro e w4 ⟨v4, rfl, ⟨B, d, rfl, hd1, hd2, hdr⟩, k4⟩
  have hb2 := HB2.out.kpt k4 (fun e => e)
  have hb3 := HB3.out.kpt k4 (fun e => e)
  have hb4 := HB4.out.kpt k4 (fun e => e)
  have hb7 := HB7.out.kpt k4 (fun e => e)
  have h3lt := HB7.out.lt
  clear p0 p1 p2 p3 q0 q1 q2 q3 q4
  have p0 := hb2.cell 0
  have p1 := hb2.cell 1
  have p2 := hb2.cell 2
  have p3 := hb2.cell 3
  have g0 := hb2.frozen 0
  have g1 := hb2.frozen 1
  have g2 := hb2.frozen 2
  have g3 := hb2.frozen 3
  have r0 := hb4.cell 0
  have r1 := hb4.cell 1
  have r2 := hb4.cell 2
  have r3 := hb4.cell 3
  have f0 := hb4.frozen 0
  have f1 := hb4.frozen 1
  have f2 := hb4.frozen 2
  have f3 := hb4.frozen 3
  simp only [List.getElem?_toArray, List.getElem?_cons_zero, List.getElem?_cons_succ] at p0 p1 p2 p3 r0 r1 r2 r3
  have K4 := Lib.hid (Kpt.trans K3.out k4 (fun _ e _ => e)); have HR := Lib.hid hdr; clear HB2 HB3 HB4 HB7
  have HB2 := Lib.hid hb2; have HB3 := Lib.hid hb3; have HB4 := Lib.hid hb4; have HB7 := Lib.hid hb7; clear hb2 hb3 hb4 hb7 k4 hdr
  have hn12 : w1.heap.size ≠ w1.heap.size + 1 + 1 := by omega
  go_upto_region 4 with fail
  have hm : SameMid w1 D o u B d ((((((((w4.setCell ⟨w1.heap.size, 0, none⟩ (.int .i64 u.epoch)).setCell ⟨w1.heap.size, 1, none⟩ (.string u.session)).setCell ⟨w1.heap.size, 2, none⟩ (.slice B u.typed.length d)).setCell ⟨w1.heap.size, 3, none⟩ (.string u.screen)).setCell ⟨w1.heap.size + 1 + 1, 0, none⟩ (.int .i64 u.epoch)).setCell ⟨w1.heap.size + 1 + 1, 1, none⟩ (.string u.session)).setCell ⟨w1.heap.size + 1 + 1, 2, none⟩ (.slice B u.typed.length d)).setCell ⟨w1.heap.size + 1 + 1, 3, none⟩ (.string u.screen)) := by
    have ka : Kpt (One w1.heap.size) w4 ((((w4.setCell ⟨w1.heap.size, 0, none⟩ (.int .i64 u.epoch)).setCell ⟨w1.heap.size, 1, none⟩ (.string u.session)).setCell ⟨w1.heap.size, 2, none⟩ (.slice B u.typed.length d)).setCell ⟨w1.heap.size, 3, none⟩ (.string u.screen)) := Kpt.set4 (Kpt.refl (One w1.heap.size) w4) (fun _ => rfl) _ _ _ _
    have kb : Kpt (One (w1.heap.size + 1 + 1)) ((((w4.setCell ⟨w1.heap.size, 0, none⟩ (.int .i64 u.epoch)).setCell ⟨w1.heap.size, 1, none⟩ (.string u.session)).setCell ⟨w1.heap.size, 2, none⟩ (.slice B u.typed.length d)).setCell ⟨w1.heap.size, 3, none⟩ (.string u.screen)) ((((((((w4.setCell ⟨w1.heap.size, 0, none⟩ (.int .i64 u.epoch)).setCell ⟨w1.heap.size, 1, none⟩ (.string u.session)).setCell ⟨w1.heap.size, 2, none⟩ (.slice B u.typed.length d)).setCell ⟨w1.heap.size, 3, none⟩ (.string u.screen)).setCell ⟨w1.heap.size + 1 + 1, 0, none⟩ (.int .i64 u.epoch)).setCell ⟨w1.heap.size + 1 + 1, 1, none⟩ (.string u.session)).setCell ⟨w1.heap.size + 1 + 1, 2, none⟩ (.slice B u.typed.length d)).setCell ⟨w1.heap.size + 1 + 1, 3, none⟩ (.string u.screen)) := Kpt.set4 (Kpt.refl (One (w1.heap.size + 1 + 1)) _) (fun _ => rfl) _ _ _ _
    have ba := HB2.out.set4 (.int .i64 u.epoch) (.string u.session) (.slice B u.typed.length d) (.string u.screen)
    have b4a := HB4.out.kpt ka (fun e => by have e' : w1.heap.size + 1 + 1 = w1.heap.size := e; omega)
    refine ⟨ba.kpt kb (fun e => by have e' : w1.heap.size = w1.heap.size + 1 + 1 := e; omega), (HB3.out.kpt ka (fun e => by have e' : w1.heap.size + 1 = w1.heap.size := e; omega)).kpt kb (fun e => by have e' : w1.heap.size + 1 = w1.heap.size + 1 + 1 := e; omega), b4a.set4 _ _ _ _,
      (HB7.out.kpt ka (fun e => by have e' : w1.heap.size + 1 + 1 + 1 = w1.heap.size := e; omega)).kpt kb (fun e => by have e' : w1.heap.size + 1 + 1 + 1 = w1.heap.size + 1 + 1 := e; omega), Kpt.trans (Kpt.trans K4.out ka (fun i e hlt => by have e' : i = w1.heap.size := e; omega)) kb (fun i e hlt => by have e' : i = w1.heap.size + 1 + 1 := e; omega), ?_⟩
    have hD' : ∀ i, (D i ∨ w3.heap.size ≤ i) → i ≠ w1.heap.size ∧ i ≠ w1.heap.size + 1 + 1 := fun i h => by
      rcases h with h | h
      · have := hD i h; omega
      · omega
    exact ⟨B, d, rfl, hd1, hd2, ((HR.out.kpt ka (fun i h e => (hD' i h).1 e)).kpt kb (fun i h e => (hD' i h).2 e)).more (fun i h => by rcases h with h | h; exact .inl h; right; omega)⟩
  generalize ((((((((w4.setCell ⟨w1.heap.size, 0, none⟩ (.int .i64 u.epoch)).setCell ⟨w1.heap.size, 1, none⟩ (.string u.session)).setCell ⟨w1.heap.size, 2, none⟩ (.slice B u.typed.length d)).setCell ⟨w1.heap.size, 3, none⟩ (.string u.screen)).setCell ⟨w1.heap.size + 1 + 1, 0, none⟩ (.int .i64 u.epoch)).setCell ⟨w1.heap.size + 1 + 1, 1, none⟩ (.string u.session)).setCell ⟨w1.heap.size + 1 + 1, 2, none⟩ (.slice B u.typed.length d)).setCell ⟨w1.heap.size + 1 + 1, 3, none⟩ (.string u.screen)) = wc at hm ⊢
  clear p0 p1 p2 p3 r0 r1 r2 r3 g0 g1 g2 g3 f0 f1 f2 f3 HB2 HB3 HB4 HB7 HR K4 h3lt
  have hb2 := hm.b2
  have hb3 := hm.b3
  have hb4 := hm.b4
  have hb7 := hm.b7
  have p0 := hb2.cell 0
  have p1 := hb2.cell 1
  have p2 := hb2.cell 2
  have p3 := hb2.cell 3
  have q0 := hb3.cell 0
  have q1 := hb3.cell 1
  have q2 := hb3.cell 2
  have q3 := hb3.cell 3
  have q4 := hb3.cell 4
  simp only [List.getElem?_toArray, List.getElem?_cons_zero, List.getElem?_cons_succ] at p0 p1 p2 p3 q0 q1 q2 q3 q4
  have HM := Lib.hid hm; have HTv := Lib.hid hm.tv; clear hb2 hb3 hb4 hb7 hm hd1 hd2
  have ecall := (f179_any u o.who _ _ wc HTv.out (by omega) _hs3)
  rw [HNX.out, HER.out, HLN.out] at ecall
  have HC := Lib.hid ecall; clear ecall HNX HER HLN
  go_wp2_with fail
  refine HC.out.mono ?_
  rintro e w5 ⟨v5, rfl, ⟨E, m, rfl, hm1, hm2, hmr⟩, k5⟩
  have hb4 := HM.out.b4.kpt k5 (fun e => e)
  clear p0 p1 p2 p3 q0 q1 q2 q3 q4
  have r0 := hb4.cell 0
  have r1 := hb4.cell 1
  have r2 := hb4.cell 2
  have r3 := hb4.cell 3
  have f0 := hb4.frozen 0
  have f1 := hb4.frozen 1
  have f2 := hb4.frozen 2
  have f3 := hb4.frozen 3
  simp only [List.getElem?_toArray, List.getElem?_cons_zero, List.getElem?_cons_succ] at r0 r1 r2 r3
  have HB4 := Lib.hid hb4; have HR5 := Lib.hid hmr; have K5 := Lib.hid k5; clear hb4 hmr k5 HC
  go_upto_region 18 with fail
  have hb4 := HB4.out.set4 (.int .i64 nx.epoch) (.string nx.session) (.slice E nx.typed.length m) (.string nx.screen)
  have kx : Kpt (One (w1.heap.size + 1 + 1)) w5 ((((w5.setCell ⟨w1.heap.size + 1 + 1, 0, none⟩ (.int .i64 nx.epoch)).setCell ⟨w1.heap.size + 1 + 1, 1, none⟩ (.string nx.session)).setCell ⟨w1.heap.size + 1 + 1, 2, none⟩ (.slice E nx.typed.length m)).setCell ⟨w1.heap.size + 1 + 1, 3, none⟩ (.string nx.screen)) := Kpt.set4 (Kpt.refl (One (w1.heap.size + 1 + 1)) w5) (fun _ => rfl) _ _ _ _
  generalize ((((w5.setCell ⟨w1.heap.size + 1 + 1, 0, none⟩ (.int .i64 nx.epoch)).setCell ⟨w1.heap.size + 1 + 1, 1, none⟩ (.string nx.session)).setCell ⟨w1.heap.size + 1 + 1, 2, none⟩ (.slice E nx.typed.length m)).setCell ⟨w1.heap.size + 1 + 1, 3, none⟩ (.string nx.screen)) = w6 at hb4 kx ⊢
  have hb7 := (HM.out.b7.kpt K5.out (fun e => e)).kpt kx (fun e => by have e' : w1.heap.size + 1 + 1 + 1 = w1.heap.size + 1 + 1 := e; omega)
  have k6 : Kpt Non w1 w6 := Kpt.trans (Kpt.trans HM.out.kk K5.out (fun _ e _ => e)) kx (fun i e hlt => by have e' : i = w1.heap.size + 1 + 1 := e; omega)
  have hcl := HM.out.b7.lt
  have hr6 := (HR5.out.kpt kx (fun i h e => by have e' : i = w1.heap.size + 1 + 1 := e; rcases h with (h | h) | h; have := hD i h; omega; omega; omega)).more (D' := fun i => D i ∨ w1.heap.size + 1 + 1 + 1 < i) (fun i h => by rcases h with (h | h) | h; exact .inl h; right; omega; right; omega)
  clear r0 r1 r2 r3 f0 f1 f2 f3 kx HB4
  have n0 : nx.typed.length ≤ m := hm1
  have r0 := hb4.cell 0
  have r1 := hb4.cell 1
  have r2 := hb4.cell 2
  have r3 := hb4.cell 3
  have f0 := hb4.frozen 0
  have f1 := hb4.frozen 1
  have f2 := hb4.frozen 2
  have f3 := hb4.frozen 3
  have z0 := hb7.cell 0
  have z1 := hb7.cell 1
  have z2 := hb7.cell 2
  have z3 := hb7.cell 3
  have g0 := hb7.frozen 0
  have g1 := hb7.frozen 1
  have g2 := hb7.frozen 2
  have g3 := hb7.frozen 3
  simp only [List.getElem?_toArray, List.getElem?_cons_zero, List.getElem?_cons_succ] at r0 r1 r2 r3 z0 z1 z2 z3
  have HB4 := Lib.hid hb4; have HB7 := Lib.hid hb7; have HR6 := Lib.hid hr6; have K6 := Lib.hid k6; clear hb4 hb7 hr6 k6
  have hn47 : w1.heap.size + 1 + 1 ≠ w1.heap.size + 1 + 1 + 1 := by omega
  go_region
  go_wp2_with fail
  have hz4 := (HB4.out.set4 (.int .i64 nx.epoch) (.string nx.session) (.slice E nx.typed.length m) (.string nx.screen)).kpt (Kpt.set4 (Kpt.refl (One (w1.heap.size + 1 + 1 + 1)) _) (fun _ => rfl) (.int .i64 0) (.string ⟨#[]⟩) (.slice none 0 0) (.string ⟨#[]⟩)) (fun e => by have e' : w1.heap.size + 1 + 1 = w1.heap.size + 1 + 1 + 1 := e; omega)
  have hz7 := (HB7.out.kpt (Kpt.set4 (Kpt.refl (One (w1.heap.size + 1 + 1)) w6) (fun _ => rfl) (.int .i64 nx.epoch) (.string nx.session) (.slice E nx.typed.length m) (.string nx.screen)) (fun e => by have e' : w1.heap.size + 1 + 1 + 1 = w1.heap.size + 1 + 1 := e; omega)).set4 (.int .i64 0) (.string ⟨#[]⟩) (.slice none 0 0) (.string ⟨#[]⟩)
  have kz : Kpt (fun i => i = w1.heap.size + 1 + 1 ∨ i = w1.heap.size + 1 + 1 + 1) w6 (((((((((w6.setCell ⟨w1.heap.size + 1 + 1, 0, none⟩ (.int .i64 nx.epoch)).setCell ⟨w1.heap.size + 1 + 1, 1, none⟩ (.string nx.session)).setCell ⟨w1.heap.size + 1 + 1, 2, none⟩ (.slice E nx.typed.length m)).setCell ⟨w1.heap.size + 1 + 1, 3, none⟩ (.string nx.screen)).setCell ⟨w1.heap.size + 1 + 1 + 1, 0, none⟩ (.int .i64 0)).setCell ⟨w1.heap.size + 1 + 1 + 1, 1, none⟩ (.string ⟨#[]⟩)).setCell ⟨w1.heap.size + 1 + 1 + 1, 2, none⟩ (.slice none 0 0)).setCell ⟨w1.heap.size + 1 + 1 + 1, 3, none⟩ (.string ⟨#[]⟩))).drew := Kpt.drew (Kpt.set4 (Kpt.set4 (Kpt.refl _ w6) (fun _ => .inl rfl) _ _ _ _) (fun _ => .inr rfl) _ _ _ _)
  have kf : Kpt Non w1 (((((((((w6.setCell ⟨w1.heap.size + 1 + 1, 0, none⟩ (.int .i64 nx.epoch)).setCell ⟨w1.heap.size + 1 + 1, 1, none⟩ (.string nx.session)).setCell ⟨w1.heap.size + 1 + 1, 2, none⟩ (.slice E nx.typed.length m)).setCell ⟨w1.heap.size + 1 + 1, 3, none⟩ (.string nx.screen)).setCell ⟨w1.heap.size + 1 + 1 + 1, 0, none⟩ (.int .i64 0)).setCell ⟨w1.heap.size + 1 + 1 + 1, 1, none⟩ (.string ⟨#[]⟩)).setCell ⟨w1.heap.size + 1 + 1 + 1, 2, none⟩ (.slice none 0 0)).setCell ⟨w1.heap.size + 1 + 1 + 1, 3, none⟩ (.string ⟨#[]⟩))).drew := Kpt.trans K6.out kz (fun i e hlt => by rcases e with e | e <;> omega)
  have hy4 := hz4.drew
  have hy7 := hz7.drew
  have y0 := hy4.cell 0
  have y1 := hy4.cell 1
  have y2 := hy4.cell 2
  have y3 := hy4.cell 3
  have x0 := hy7.cell 0
  have x1 := hy7.cell 1
  have x2 := hy7.cell 2
  have x3 := hy7.cell 3
  simp only [List.getElem?_toArray, List.getElem?_cons_zero, List.getElem?_cons_succ] at y0 y1 y2 y3 x0 x1 x2 x3
  refine bodyPost_ret (v := .tuple #[.agg #[(.int .i64 nx.epoch), (.string nx.session), (.slice E nx.typed.length m), (.string nx.screen)], .int .i64 er, .string ln, .agg #[(.int .i64 0), (.string ⟨#[]⟩), (.slice none 0 0), (.string ⟨#[]⟩)]]) ?_ rfl ⟨E, m, none, 0, rfl, ⟨E, m, rfl, hm1, hm2, (HR6.out.kpt kz (fun i h e => by rcases e with e | e; rcases h with h | h; have := hD i h; omega; omega; rcases h with h | h; have := hD i h; omega; omega)).more (fun i h => by rcases h with h | h; exact .inl h; right; omega)⟩, tmv_zero _ _, kf⟩
  clear hz4 hz7 kz kf hy4 hy7
  generalize (((((((((w6.setCell ⟨w1.heap.size + 1 + 1, 0, none⟩ (.int .i64 nx.epoch)).setCell ⟨w1.heap.size + 1 + 1, 1, none⟩ (.string nx.session)).setCell ⟨w1.heap.size + 1 + 1, 2, none⟩ (.slice E nx.typed.length m)).setCell ⟨w1.heap.size + 1 + 1, 3, none⟩ (.string nx.screen)).setCell ⟨w1.heap.size + 1 + 1 + 1, 0, none⟩ (.int .i64 0)).setCell ⟨w1.heap.size + 1 + 1 + 1, 1, none⟩ (.string ⟨#[]⟩)).setCell ⟨w1.heap.size + 1 + 1 + 1, 2, none⟩ (.slice none 0 0)).setCell ⟨w1.heap.size + 1 + 1 + 1, 3, none⟩ (.string ⟨#[]⟩))).drew = wf at y0 y1 y2 y3 x0 x1 x2 x3
  simp [results, Tryz.results71, go_sem, y0, y1, y2, y3, x0, x1, x2, x3]
set_option maxRecDepth 100000 in
set_option maxHeartbeats 1000000 in
theorem f120_show (hv : TmV w1 D t (.agg #[(.int .i64 t.epoch), (.string t.session), (.slice A t.typed.length c), (.string t.screen)])) (hD : ∀ i, D i → i < w1.heap.size) (hk : o.kind % 8 = 6) (hk0 : 0 ≤ o.kind) (hk1 : o.kind ≤ 255) (hcut : o.cut = o) (_hw : o.who.size ≤ 100) (_ht : o.text.size ≤ 3000)
    (_hs1 : (inRef t o.epoch).screen.size ≤ 1099511627776) (_hs2 : (inRef t o.epoch).typed.length ≤ 1048576) (_hs3 : (inRef t o.epoch).session.size ≤ 140737488351232) :
    Calls Tryz.prog 71 #[.agg #[(.int .i64 t.epoch), (.string t.session), (.slice A t.typed.length c), (.string t.screen)], .agg #[.int .u8 o.kind, .int .i64 o.number, .int .i64 o.epoch, .string o.who, .string o.text]] w1 (SamePost w1 D (showRef o.text (inRef t o.epoch)).1 (showRef o.text (inRef t o.epoch)).2 es zeroT) := by
  have HB := Lib.hid (same_boxes w1 #[(.int .i64 t.epoch), (.string t.session), (.slice A t.typed.length c), (.string t.screen)] #[.int .u8 o.kind, .int .i64 o.number, .int .i64 o.epoch, .string o.who, .string o.text] #[(.int .i64 0), (.string ⟨#[]⟩), (.slice none 0 0), (.string ⟨#[]⟩)] #[(.int .i64 0), (.string ⟨#[]⟩), (.slice none 0 0), (.string ⟨#[]⟩)])
  have HVt := Lib.hid hv
  have e118 := fun w => f118_any o w (by omega) (by omega)
  rw [hcut] at e118
  unfold Opn.val Opn.cells at e118
  have E118 := Lib.hid e118
  have e72 := fun w (k : Kpt Non w1 w) => f72_any t o.epoch _ D w (hv.kpt k (fun _ _ e => e))
  generalize inRef t o.epoch = u at e72 _hs1 _hs2 _hs3 ⊢
  have E72 := Lib.hid e72
  clear e118 hcut hv e72
  obtain ⟨nx, hnx⟩ : ∃ nx, (showRef o.text u).1 = nx := ⟨_, rfl⟩
  obtain ⟨er, her⟩ : ∃ er, (showRef o.text u).2 = er := ⟨_, rfl⟩
  rw [hnx, her]
  have HNX := Lib.hid hnx; have HER := Lib.hid her; clear hnx her
  go_enter Tryz.func71, Tryz.ntmps71
  go_wp2_with fail
  refine (E118.out _).mono ?_
  rintro e w2 ⟨rfl, k2⟩
  have hb2 := HB.out.1.kpt k2 (fun e => e)
  have hb3 := HB.out.2.1.kpt k2 (fun e => e)
  have hb4 := HB.out.2.2.1.kpt k2 (fun e => e)
  have hb7 := HB.out.2.2.2.1.kpt k2 (fun e => e)
  have K2 := Lib.hid (Kpt.trans HB.out.2.2.2.2 k2 (fun _ e _ => e))
  have p0 := hb2.cell 0
  have p1 := hb2.cell 1
  have p2 := hb2.cell 2
  have p3 := hb2.cell 3
  have q0 := hb3.cell 0
  have q1 := hb3.cell 1
  have q2 := hb3.cell 2
  have q3 := hb3.cell 3
  have q4 := hb3.cell 4
  have g0 := hb3.frozen 0
  have g1 := hb3.frozen 1
  have g2 := hb3.frozen 2
  have g3 := hb3.frozen 3
  have g4 := hb3.frozen 4
  simp only [List.getElem?_toArray, List.getElem?_cons_zero, List.getElem?_cons_succ] at p0 p1 p2 p3 q0 q1 q2 q3 q4
  have HB2 := Lib.hid hb2; have HB3 := Lib.hid hb3; have HB4 := Lib.hid hb4; have HB7 := Lib.hid hb7; clear hb2 hb3 hb4 hb7 k2
  go_upto_region 2 with fail
  have kx : Kpt (One (w1.heap.size + 1)) w2 (((((w2.setCell ⟨w1.heap.size + 1, 0, none⟩ (.int .u8 o.kind)).setCell ⟨w1.heap.size + 1, 1, none⟩ (.int .i64 o.number)).setCell ⟨w1.heap.size + 1, 2, none⟩ (.int .i64 o.epoch)).setCell ⟨w1.heap.size + 1, 3, none⟩ (.string o.who)).setCell ⟨w1.heap.size + 1, 4, none⟩ (.string o.text)) := Kpt.set5 (Kpt.refl (One (w1.heap.size + 1)) w2) (fun _ => rfl) _ _ _ _ _
  have hb3 := HB3.out.same5
  generalize (((((w2.setCell ⟨w1.heap.size + 1, 0, none⟩ (.int .u8 o.kind)).setCell ⟨w1.heap.size + 1, 1, none⟩ (.int .i64 o.number)).setCell ⟨w1.heap.size + 1, 2, none⟩ (.int .i64 o.epoch)).setCell ⟨w1.heap.size + 1, 3, none⟩ (.string o.who)).setCell ⟨w1.heap.size + 1, 4, none⟩ (.string o.text)) = w3 at kx hb3 ⊢
  have k3 : Kpt Non w1 w3 := Kpt.trans K2.out kx (fun i e hlt => by have e' : i = w1.heap.size + 1 := e; omega)
  have hb2 := HB2.out.kpt kx (fun e => by have e' : w1.heap.size = w1.heap.size + 1 := e; omega)
  have hb4 := HB4.out.kpt kx (fun e => by have e' : w1.heap.size + 1 + 1 = w1.heap.size + 1 := e; omega)
  have hb7 := HB7.out.kpt kx (fun e => by have e' : w1.heap.size + 1 + 1 + 1 = w1.heap.size + 1 := e; omega)
  clear p0 p1 p2 p3 q0 q1 q2 q3 q4 g0 g1 g2 g3 g4 HB2 HB3 HB4 HB7 kx K2
  have p0 := hb2.cell 0
  have p1 := hb2.cell 1
  have p2 := hb2.cell 2
  have p3 := hb2.cell 3
  have q0 := hb3.cell 0
  have q1 := hb3.cell 1
  have q2 := hb3.cell 2
  have q3 := hb3.cell 3
  have q4 := hb3.cell 4
  simp only [List.getElem?_toArray, List.getElem?_cons_zero, List.getElem?_cons_succ] at p0 p1 p2 p3 q0 q1 q2 q3 q4
  have HB2 := Lib.hid hb2; have HB3 := Lib.hid hb3; have HB4 := Lib.hid hb4; have HB7 := Lib.hid hb7; have K3 := Lib.hid k3; clear hb2 hb3 hb4 hb7 k3
  go_wp2_with fail
  refine (E72.out _ K3.out).mono ?_
  rintro e w4 ⟨v4, rfl, ⟨B, d, rfl, hd1, hd2, hdr⟩, k4⟩
  have hb2 := HB2.out.kpt k4 (fun e => e)
  have hb3 := HB3.out.kpt k4 (fun e => e)
  have hb4 := HB4.out.kpt k4 (fun e => e)
  have hb7 := HB7.out.kpt k4 (fun e => e)
  have h3lt := HB7.out.lt
  clear p0 p1 p2 p3 q0 q1 q2 q3 q4
  have p0 := hb2.cell 0
  have p1 := hb2.cell 1
  have p2 := hb2.cell 2
  have p3 := hb2.cell 3
  have g0 := hb2.frozen 0
  have g1 := hb2.frozen 1
  have g2 := hb2.frozen 2
  have g3 := hb2.frozen 3
  have r0 := hb4.cell 0
  have r1 := hb4.cell 1
  have r2 := hb4.cell 2
  have r3 := hb4.cell 3
  have f0 := hb4.frozen 0
  have f1 := hb4.frozen 1
  have f2 := hb4.frozen 2
  have f3 := hb4.frozen 3
  simp only [List.getElem?_toArray, List.getElem?_cons_zero, List.getElem?_cons_succ] at p0 p1 p2 p3 r0 r1 r2 r3
  have K4 := Lib.hid (Kpt.trans K3.out k4 (fun _ e _ => e)); have HR := Lib.hid hdr; clear HB2 HB3 HB4 HB7
  have HB2 := Lib.hid hb2; have HB3 := Lib.hid hb3; have HB4 := Lib.hid hb4; have HB7 := Lib.hid hb7; clear hb2 hb3 hb4 hb7 k4 hdr
  have hn12 : w1.heap.size ≠ w1.heap.size + 1 + 1 := by omega
  go_upto_region 4 with fail
  have hm : SameMid w1 D o u B d ((((((((w4.setCell ⟨w1.heap.size, 0, none⟩ (.int .i64 u.epoch)).setCell ⟨w1.heap.size, 1, none⟩ (.string u.session)).setCell ⟨w1.heap.size, 2, none⟩ (.slice B u.typed.length d)).setCell ⟨w1.heap.size, 3, none⟩ (.string u.screen)).setCell ⟨w1.heap.size + 1 + 1, 0, none⟩ (.int .i64 u.epoch)).setCell ⟨w1.heap.size + 1 + 1, 1, none⟩ (.string u.session)).setCell ⟨w1.heap.size + 1 + 1, 2, none⟩ (.slice B u.typed.length d)).setCell ⟨w1.heap.size + 1 + 1, 3, none⟩ (.string u.screen)) := by
    have ka : Kpt (One w1.heap.size) w4 ((((w4.setCell ⟨w1.heap.size, 0, none⟩ (.int .i64 u.epoch)).setCell ⟨w1.heap.size, 1, none⟩ (.string u.session)).setCell ⟨w1.heap.size, 2, none⟩ (.slice B u.typed.length d)).setCell ⟨w1.heap.size, 3, none⟩ (.string u.screen)) := Kpt.set4 (Kpt.refl (One w1.heap.size) w4) (fun _ => rfl) _ _ _ _
    have kb : Kpt (One (w1.heap.size + 1 + 1)) ((((w4.setCell ⟨w1.heap.size, 0, none⟩ (.int .i64 u.epoch)).setCell ⟨w1.heap.size, 1, none⟩ (.string u.session)).setCell ⟨w1.heap.size, 2, none⟩ (.slice B u.typed.length d)).setCell ⟨w1.heap.size, 3, none⟩ (.string u.screen)) ((((((((w4.setCell ⟨w1.heap.size, 0, none⟩ (.int .i64 u.epoch)).setCell ⟨w1.heap.size, 1, none⟩ (.string u.session)).setCell ⟨w1.heap.size, 2, none⟩ (.slice B u.typed.length d)).setCell ⟨w1.heap.size, 3, none⟩ (.string u.screen)).setCell ⟨w1.heap.size + 1 + 1, 0, none⟩ (.int .i64 u.epoch)).setCell ⟨w1.heap.size + 1 + 1, 1, none⟩ (.string u.session)).setCell ⟨w1.heap.size + 1 + 1, 2, none⟩ (.slice B u.typed.length d)).setCell ⟨w1.heap.size + 1 + 1, 3, none⟩ (.string u.screen)) := Kpt.set4 (Kpt.refl (One (w1.heap.size + 1 + 1)) _) (fun _ => rfl) _ _ _ _
    have ba := HB2.out.set4 (.int .i64 u.epoch) (.string u.session) (.slice B u.typed.length d) (.string u.screen)
    have b4a := HB4.out.kpt ka (fun e => by have e' : w1.heap.size + 1 + 1 = w1.heap.size := e; omega)
    refine ⟨ba.kpt kb (fun e => by have e' : w1.heap.size = w1.heap.size + 1 + 1 := e; omega), (HB3.out.kpt ka (fun e => by have e' : w1.heap.size + 1 = w1.heap.size := e; omega)).kpt kb (fun e => by have e' : w1.heap.size + 1 = w1.heap.size + 1 + 1 := e; omega), b4a.set4 _ _ _ _,
      (HB7.out.kpt ka (fun e => by have e' : w1.heap.size + 1 + 1 + 1 = w1.heap.size := e; omega)).kpt kb (fun e => by have e' : w1.heap.size + 1 + 1 + 1 = w1.heap.size + 1 + 1 := e; omega), Kpt.trans (Kpt.trans K4.out ka (fun i e hlt => by have e' : i = w1.heap.size := e; omega)) kb (fun i e hlt => by have e' : i = w1.heap.size + 1 + 1 := e; omega), ?_⟩
    have hD' : ∀ i, (D i ∨ w3.heap.size ≤ i) → i ≠ w1.heap.size ∧ i ≠ w1.heap.size + 1 + 1 := fun i h => by
      rcases h with h | h
      · have := hD i h; omega
      · omega
    exact ⟨B, d, rfl, hd1, hd2, ((HR.out.kpt ka (fun i h e => (hD' i h).1 e)).kpt kb (fun i h e => (hD' i h).2 e)).more (fun i h => by rcases h with h | h; exact .inl h; right; omega)⟩
  generalize ((((((((w4.setCell ⟨w1.heap.size, 0, none⟩ (.int .i64 u.epoch)).setCell ⟨w1.heap.size, 1, none⟩ (.string u.session)).setCell ⟨w1.heap.size, 2, none⟩ (.slice B u.typed.length d)).setCell ⟨w1.heap.size, 3, none⟩ (.string u.screen)).setCell ⟨w1.heap.size + 1 + 1, 0, none⟩ (.int .i64 u.epoch)).setCell ⟨w1.heap.size + 1 + 1, 1, none⟩ (.string u.session)).setCell ⟨w1.heap.size + 1 + 1, 2, none⟩ (.slice B u.typed.length d)).setCell ⟨w1.heap.size + 1 + 1, 3, none⟩ (.string u.screen)) = wc at hm ⊢
  clear p0 p1 p2 p3 r0 r1 r2 r3 g0 g1 g2 g3 f0 f1 f2 f3 HB2 HB3 HB4 HB7 HR K4 h3lt
  have hb2 := hm.b2
  have hb3 := hm.b3
  have hb4 := hm.b4
  have hb7 := hm.b7
  have p0 := hb2.cell 0
  have p1 := hb2.cell 1
  have p2 := hb2.cell 2
  have p3 := hb2.cell 3
  have q0 := hb3.cell 0
  have q1 := hb3.cell 1
  have q2 := hb3.cell 2
  have q3 := hb3.cell 3
  have q4 := hb3.cell 4
  simp only [List.getElem?_toArray, List.getElem?_cons_zero, List.getElem?_cons_succ] at p0 p1 p2 p3 q0 q1 q2 q3 q4
  have HM := Lib.hid hm; have HTv := Lib.hid hm.tv; clear hb2 hb3 hb4 hb7 hm hd1 hd2
  have ecall := (f180_any u o.text _ _ wc HTv.out _hs1)
  rw [HNX.out, HER.out] at ecall
  have HC := Lib.hid ecall; clear ecall HNX HER
  go_wp2_with fail
  refine HC.out.mono ?_
  rintro e w5 ⟨v5, rfl, ⟨E, m, rfl, hm1, hm2, hmr⟩, k5⟩
  have hb4 := HM.out.b4.kpt k5 (fun e => e)
  clear p0 p1 p2 p3 q0 q1 q2 q3 q4
  have r0 := hb4.cell 0
  have r1 := hb4.cell 1
  have r2 := hb4.cell 2
  have r3 := hb4.cell 3
  have f0 := hb4.frozen 0
  have f1 := hb4.frozen 1
  have f2 := hb4.frozen 2
  have f3 := hb4.frozen 3
  simp only [List.getElem?_toArray, List.getElem?_cons_zero, List.getElem?_cons_succ] at r0 r1 r2 r3
  have HB4 := Lib.hid hb4; have HR5 := Lib.hid hmr; have K5 := Lib.hid k5; clear hb4 hmr k5 HC
  go_upto_region 18 with fail
  have hb4 := HB4.out.set4 (.int .i64 nx.epoch) (.string nx.session) (.slice E nx.typed.length m) (.string nx.screen)
  have kx : Kpt (One (w1.heap.size + 1 + 1)) w5 ((((w5.setCell ⟨w1.heap.size + 1 + 1, 0, none⟩ (.int .i64 nx.epoch)).setCell ⟨w1.heap.size + 1 + 1, 1, none⟩ (.string nx.session)).setCell ⟨w1.heap.size + 1 + 1, 2, none⟩ (.slice E nx.typed.length m)).setCell ⟨w1.heap.size + 1 + 1, 3, none⟩ (.string nx.screen)) := Kpt.set4 (Kpt.refl (One (w1.heap.size + 1 + 1)) w5) (fun _ => rfl) _ _ _ _
  generalize ((((w5.setCell ⟨w1.heap.size + 1 + 1, 0, none⟩ (.int .i64 nx.epoch)).setCell ⟨w1.heap.size + 1 + 1, 1, none⟩ (.string nx.session)).setCell ⟨w1.heap.size + 1 + 1, 2, none⟩ (.slice E nx.typed.length m)).setCell ⟨w1.heap.size + 1 + 1, 3, none⟩ (.string nx.screen)) = w6 at hb4 kx ⊢
  have hb7 := (HM.out.b7.kpt K5.out (fun e => e)).kpt kx (fun e => by have e' : w1.heap.size + 1 + 1 + 1 = w1.heap.size + 1 + 1 := e; omega)
  have k6 : Kpt Non w1 w6 := Kpt.trans (Kpt.trans HM.out.kk K5.out (fun _ e _ => e)) kx (fun i e hlt => by have e' : i = w1.heap.size + 1 + 1 := e; omega)
  have hcl := HM.out.b7.lt
  have hr6 := (HR5.out.kpt kx (fun i h e => by have e' : i = w1.heap.size + 1 + 1 := e; rcases h with (h | h) | h; have := hD i h; omega; omega; omega)).more (D' := fun i => D i ∨ w1.heap.size + 1 + 1 + 1 < i) (fun i h => by rcases h with (h | h) | h; exact .inl h; right; omega; right; omega)
  clear r0 r1 r2 r3 f0 f1 f2 f3 kx HB4
  have n0 : nx.typed.length ≤ m := hm1
  have r0 := hb4.cell 0
  have r1 := hb4.cell 1
  have r2 := hb4.cell 2
  have r3 := hb4.cell 3
  have f0 := hb4.frozen 0
  have f1 := hb4.frozen 1
  have f2 := hb4.frozen 2
  have f3 := hb4.frozen 3
  have z0 := hb7.cell 0
  have z1 := hb7.cell 1
  have z2 := hb7.cell 2
  have z3 := hb7.cell 3
  have g0 := hb7.frozen 0
  have g1 := hb7.frozen 1
  have g2 := hb7.frozen 2
  have g3 := hb7.frozen 3
  simp only [List.getElem?_toArray, List.getElem?_cons_zero, List.getElem?_cons_succ] at r0 r1 r2 r3 z0 z1 z2 z3
  have HB4 := Lib.hid hb4; have HB7 := Lib.hid hb7; have HR6 := Lib.hid hr6; have K6 := Lib.hid k6; clear hb4 hb7 hr6 k6
  have hn47 : w1.heap.size + 1 + 1 ≠ w1.heap.size + 1 + 1 + 1 := by omega
  go_region
  go_wp2_with fail
  have hz4 := (HB4.out.set4 (.int .i64 nx.epoch) (.string nx.session) (.slice E nx.typed.length m) (.string nx.screen)).kpt (Kpt.set4 (Kpt.refl (One (w1.heap.size + 1 + 1 + 1)) _) (fun _ => rfl) (.int .i64 0) (.string ⟨#[]⟩) (.slice none 0 0) (.string ⟨#[]⟩)) (fun e => by have e' : w1.heap.size + 1 + 1 = w1.heap.size + 1 + 1 + 1 := e; omega)
  have hz7 := (HB7.out.kpt (Kpt.set4 (Kpt.refl (One (w1.heap.size + 1 + 1)) w6) (fun _ => rfl) (.int .i64 nx.epoch) (.string nx.session) (.slice E nx.typed.length m) (.string nx.screen)) (fun e => by have e' : w1.heap.size + 1 + 1 + 1 = w1.heap.size + 1 + 1 := e; omega)).set4 (.int .i64 0) (.string ⟨#[]⟩) (.slice none 0 0) (.string ⟨#[]⟩)
  have kz : Kpt (fun i => i = w1.heap.size + 1 + 1 ∨ i = w1.heap.size + 1 + 1 + 1) w6 (((((((((w6.setCell ⟨w1.heap.size + 1 + 1, 0, none⟩ (.int .i64 nx.epoch)).setCell ⟨w1.heap.size + 1 + 1, 1, none⟩ (.string nx.session)).setCell ⟨w1.heap.size + 1 + 1, 2, none⟩ (.slice E nx.typed.length m)).setCell ⟨w1.heap.size + 1 + 1, 3, none⟩ (.string nx.screen)).setCell ⟨w1.heap.size + 1 + 1 + 1, 0, none⟩ (.int .i64 0)).setCell ⟨w1.heap.size + 1 + 1 + 1, 1, none⟩ (.string ⟨#[]⟩)).setCell ⟨w1.heap.size + 1 + 1 + 1, 2, none⟩ (.slice none 0 0)).setCell ⟨w1.heap.size + 1 + 1 + 1, 3, none⟩ (.string ⟨#[]⟩))).drew := Kpt.drew (Kpt.set4 (Kpt.set4 (Kpt.refl _ w6) (fun _ => .inl rfl) _ _ _ _) (fun _ => .inr rfl) _ _ _ _)
  have kf : Kpt Non w1 (((((((((w6.setCell ⟨w1.heap.size + 1 + 1, 0, none⟩ (.int .i64 nx.epoch)).setCell ⟨w1.heap.size + 1 + 1, 1, none⟩ (.string nx.session)).setCell ⟨w1.heap.size + 1 + 1, 2, none⟩ (.slice E nx.typed.length m)).setCell ⟨w1.heap.size + 1 + 1, 3, none⟩ (.string nx.screen)).setCell ⟨w1.heap.size + 1 + 1 + 1, 0, none⟩ (.int .i64 0)).setCell ⟨w1.heap.size + 1 + 1 + 1, 1, none⟩ (.string ⟨#[]⟩)).setCell ⟨w1.heap.size + 1 + 1 + 1, 2, none⟩ (.slice none 0 0)).setCell ⟨w1.heap.size + 1 + 1 + 1, 3, none⟩ (.string ⟨#[]⟩))).drew := Kpt.trans K6.out kz (fun i e hlt => by rcases e with e | e <;> omega)
  have hy4 := hz4.drew
  have hy7 := hz7.drew
  have y0 := hy4.cell 0
  have y1 := hy4.cell 1
  have y2 := hy4.cell 2
  have y3 := hy4.cell 3
  have x0 := hy7.cell 0
  have x1 := hy7.cell 1
  have x2 := hy7.cell 2
  have x3 := hy7.cell 3
  simp only [List.getElem?_toArray, List.getElem?_cons_zero, List.getElem?_cons_succ] at y0 y1 y2 y3 x0 x1 x2 x3
  refine bodyPost_ret (v := .tuple #[.agg #[(.int .i64 nx.epoch), (.string nx.session), (.slice E nx.typed.length m), (.string nx.screen)], .int .i64 er, .string ⟨#[]⟩, .agg #[(.int .i64 0), (.string ⟨#[]⟩), (.slice none 0 0), (.string ⟨#[]⟩)]]) ?_ rfl ⟨E, m, none, 0, rfl, ⟨E, m, rfl, hm1, hm2, (HR6.out.kpt kz (fun i h e => by rcases e with e | e; rcases h with h | h; have := hD i h; omega; omega; rcases h with h | h; have := hD i h; omega; omega)).more (fun i h => by rcases h with h | h; exact .inl h; right; omega)⟩, tmv_zero _ _, kf⟩
  clear hz4 hz7 kz kf hy4 hy7
  generalize (((((((((w6.setCell ⟨w1.heap.size + 1 + 1, 0, none⟩ (.int .i64 nx.epoch)).setCell ⟨w1.heap.size + 1 + 1, 1, none⟩ (.string nx.session)).setCell ⟨w1.heap.size + 1 + 1, 2, none⟩ (.slice E nx.typed.length m)).setCell ⟨w1.heap.size + 1 + 1, 3, none⟩ (.string nx.screen)).setCell ⟨w1.heap.size + 1 + 1 + 1, 0, none⟩ (.int .i64 0)).setCell ⟨w1.heap.size + 1 + 1 + 1, 1, none⟩ (.string ⟨#[]⟩)).setCell ⟨w1.heap.size + 1 + 1 + 1, 2, none⟩ (.slice none 0 0)).setCell ⟨w1.heap.size + 1 + 1 + 1, 3, none⟩ (.string ⟨#[]⟩))).drew = wf at y0 y1 y2 y3 x0 x1 x2 x3
  simp [results, Tryz.results71, go_sem, y0, y1, y2, y3, x0, x1, x2, x3]
set_option maxRecDepth 100000 in
set_option maxHeartbeats 1000000 in
theorem f120_get (hv : TmV w1 D t (.agg #[(.int .i64 t.epoch), (.string t.session), (.slice A t.typed.length c), (.string t.screen)])) (hD : ∀ i, D i → i < w1.heap.size) (hk : o.kind % 8 = 7) (hk0 : 0 ≤ o.kind) (hk1 : o.kind ≤ 255) (hcut : o.cut = o) (_hw : o.who.size ≤ 100) (_ht : o.text.size ≤ 3000)
    (_hs1 : (inRef t o.epoch).screen.size ≤ 1099511627776) (_hs2 : (inRef t o.epoch).typed.length ≤ 1048576) (_hs3 : (inRef t o.epoch).session.size ≤ 140737488351232) :
    Calls Tryz.prog 71 #[.agg #[(.int .i64 t.epoch), (.string t.session), (.slice A t.typed.length c), (.string t.screen)], .agg #[.int .u8 o.kind, .int .i64 o.number, .int .i64 o.epoch, .string o.who, .string o.text]] w1 (SamePost w1 D (inRef t o.epoch) 0 es (inRef t o.epoch)) := by
  have HB := Lib.hid (same_boxes w1 #[(.int .i64 t.epoch), (.string t.session), (.slice A t.typed.length c), (.string t.screen)] #[.int .u8 o.kind, .int .i64 o.number, .int .i64 o.epoch, .string o.who, .string o.text] #[(.int .i64 0), (.string ⟨#[]⟩), (.slice none 0 0), (.string ⟨#[]⟩)] #[(.int .i64 0), (.string ⟨#[]⟩), (.slice none 0 0), (.string ⟨#[]⟩)])
  have HVt := Lib.hid hv
  have e118 := fun w => f118_any o w (by omega) (by omega)
  rw [hcut] at e118
  unfold Opn.val Opn.cells at e118
  have E118 := Lib.hid e118
  have e72 := fun w (k : Kpt Non w1 w) => f72_any t o.epoch _ D w (hv.kpt k (fun _ _ e => e))
  generalize inRef t o.epoch = u at e72 _hs1 _hs2 _hs3 ⊢
  have E72 := Lib.hid e72
  clear e118 hcut hv e72
  go_enter Tryz.func71, Tryz.ntmps71
  go_wp2_with fail
  refine (E118.out _).mono ?_
  rintro e w2 ⟨rfl, k2⟩
  have hb2 := HB.out.1.kpt k2 (fun e => e)
  have hb3 := HB.out.2.1.kpt k2 (fun e => e)
  have hb4 := HB.out.2.2.1.kpt k2 (fun e => e)
  have hb7 := HB.out.2.2.2.1.kpt k2 (fun e => e)
  have K2 := Lib.hid (Kpt.trans HB.out.2.2.2.2 k2 (fun _ e _ => e))
  have p0 := hb2.cell 0
  have p1 := hb2.cell 1
  have p2 := hb2.cell 2
  have p3 := hb2.cell 3
  have q0 := hb3.cell 0
  have q1 := hb3.cell 1
  have q2 := hb3.cell 2
  have q3 := hb3.cell 3
  have q4 := hb3.cell 4
  have g0 := hb3.frozen 0
  have g1 := hb3.frozen 1
  have g2 := hb3.frozen 2
  have g3 := hb3.frozen 3
  have g4 := hb3.frozen 4
  simp only [List.getElem?_toArray, List.getElem?_cons_zero, List.getElem?_cons_succ] at p0 p1 p2 p3 q0 q1 q2 q3 q4
  have HB2 := Lib.hid hb2; have HB3 := Lib.hid hb3; have HB4 := Lib.hid hb4; have HB7 := Lib.hid hb7; clear hb2 hb3 hb4 hb7 k2
  go_upto_region 2 with fail
  have kx : Kpt (One (w1.heap.size + 1)) w2 (((((w2.setCell ⟨w1.heap.size + 1, 0, none⟩ (.int .u8 o.kind)).setCell ⟨w1.heap.size + 1, 1, none⟩ (.int .i64 o.number)).setCell ⟨w1.heap.size + 1, 2, none⟩ (.int .i64 o.epoch)).setCell ⟨w1.heap.size + 1, 3, none⟩ (.string o.who)).setCell ⟨w1.heap.size + 1, 4, none⟩ (.string o.text)) := Kpt.set5 (Kpt.refl (One (w1.heap.size + 1)) w2) (fun _ => rfl) _ _ _ _ _
  have hb3 := HB3.out.same5
  generalize (((((w2.setCell ⟨w1.heap.size + 1, 0, none⟩ (.int .u8 o.kind)).setCell ⟨w1.heap.size + 1, 1, none⟩ (.int .i64 o.number)).setCell ⟨w1.heap.size + 1, 2, none⟩ (.int .i64 o.epoch)).setCell ⟨w1.heap.size + 1, 3, none⟩ (.string o.who)).setCell ⟨w1.heap.size + 1, 4, none⟩ (.string o.text)) = w3 at kx hb3 ⊢
  have k3 : Kpt Non w1 w3 := Kpt.trans K2.out kx (fun i e hlt => by have e' : i = w1.heap.size + 1 := e; omega)
  have hb2 := HB2.out.kpt kx (fun e => by have e' : w1.heap.size = w1.heap.size + 1 := e; omega)
  have hb4 := HB4.out.kpt kx (fun e => by have e' : w1.heap.size + 1 + 1 = w1.heap.size + 1 := e; omega)
  have hb7 := HB7.out.kpt kx (fun e => by have e' : w1.heap.size + 1 + 1 + 1 = w1.heap.size + 1 := e; omega)
  clear p0 p1 p2 p3 q0 q1 q2 q3 q4 g0 g1 g2 g3 g4 HB2 HB3 HB4 HB7 kx K2
  have p0 := hb2.cell 0
  have p1 := hb2.cell 1
  have p2 := hb2.cell 2
  have p3 := hb2.cell 3
  have q0 := hb3.cell 0
  have q1 := hb3.cell 1
  have q2 := hb3.cell 2
  have q3 := hb3.cell 3
  have q4 := hb3.cell 4
  simp only [List.getElem?_toArray, List.getElem?_cons_zero, List.getElem?_cons_succ] at p0 p1 p2 p3 q0 q1 q2 q3 q4
  have HB2 := Lib.hid hb2; have HB3 := Lib.hid hb3; have HB4 := Lib.hid hb4; have HB7 := Lib.hid hb7; have K3 := Lib.hid k3; clear hb2 hb3 hb4 hb7 k3
  go_wp2_with fail
  refine (E72.out _ K3.out).mono ?_
  rintro e w4 ⟨v4, rfl, ⟨B, d, rfl, hd1, hd2, hdr⟩, k4⟩
  have hb2 := HB2.out.kpt k4 (fun e => e)
  have hb3 := HB3.out.kpt k4 (fun e => e)
  have hb4 := HB4.out.kpt k4 (fun e => e)
  have hb7 := HB7.out.kpt k4 (fun e => e)
  have h3lt := HB7.out.lt
  clear p0 p1 p2 p3 q0 q1 q2 q3 q4
  have p0 := hb2.cell 0
  have p1 := hb2.cell 1
  have p2 := hb2.cell 2
  have p3 := hb2.cell 3
  have g0 := hb2.frozen 0
  have g1 := hb2.frozen 1
  have g2 := hb2.frozen 2
  have g3 := hb2.frozen 3
  have r0 := hb4.cell 0
  have r1 := hb4.cell 1
  have r2 := hb4.cell 2
  have r3 := hb4.cell 3
  have f0 := hb4.frozen 0
  have f1 := hb4.frozen 1
  have f2 := hb4.frozen 2
  have f3 := hb4.frozen 3
  simp only [List.getElem?_toArray, List.getElem?_cons_zero, List.getElem?_cons_succ] at p0 p1 p2 p3 r0 r1 r2 r3
  have K4 := Lib.hid (Kpt.trans K3.out k4 (fun _ e _ => e)); have HR := Lib.hid hdr; clear HB2 HB3 HB4 HB7
  have HB2 := Lib.hid hb2; have HB3 := Lib.hid hb3; have HB4 := Lib.hid hb4; have HB7 := Lib.hid hb7; clear hb2 hb3 hb4 hb7 k4 hdr
  have hn12 : w1.heap.size ≠ w1.heap.size + 1 + 1 := by omega
  go_upto_region 4 with fail
  have hm : SameMid w1 D o u B d ((((((((w4.setCell ⟨w1.heap.size, 0, none⟩ (.int .i64 u.epoch)).setCell ⟨w1.heap.size, 1, none⟩ (.string u.session)).setCell ⟨w1.heap.size, 2, none⟩ (.slice B u.typed.length d)).setCell ⟨w1.heap.size, 3, none⟩ (.string u.screen)).setCell ⟨w1.heap.size + 1 + 1, 0, none⟩ (.int .i64 u.epoch)).setCell ⟨w1.heap.size + 1 + 1, 1, none⟩ (.string u.session)).setCell ⟨w1.heap.size + 1 + 1, 2, none⟩ (.slice B u.typed.length d)).setCell ⟨w1.heap.size + 1 + 1, 3, none⟩ (.string u.screen)) := by
    have ka : Kpt (One w1.heap.size) w4 ((((w4.setCell ⟨w1.heap.size, 0, none⟩ (.int .i64 u.epoch)).setCell ⟨w1.heap.size, 1, none⟩ (.string u.session)).setCell ⟨w1.heap.size, 2, none⟩ (.slice B u.typed.length d)).setCell ⟨w1.heap.size, 3, none⟩ (.string u.screen)) := Kpt.set4 (Kpt.refl (One w1.heap.size) w4) (fun _ => rfl) _ _ _ _
    have kb : Kpt (One (w1.heap.size + 1 + 1)) ((((w4.setCell ⟨w1.heap.size, 0, none⟩ (.int .i64 u.epoch)).setCell ⟨w1.heap.size, 1, none⟩ (.string u.session)).setCell ⟨w1.heap.size, 2, none⟩ (.slice B u.typed.length d)).setCell ⟨w1.heap.size, 3, none⟩ (.string u.screen)) ((((((((w4.setCell ⟨w1.heap.size, 0, none⟩ (.int .i64 u.epoch)).setCell ⟨w1.heap.size, 1, none⟩ (.string u.session)).setCell ⟨w1.heap.size, 2, none⟩ (.slice B u.typed.length d)).setCell ⟨w1.heap.size, 3, none⟩ (.string u.screen)).setCell ⟨w1.heap.size + 1 + 1, 0, none⟩ (.int .i64 u.epoch)).setCell ⟨w1.heap.size + 1 + 1, 1, none⟩ (.string u.session)).setCell ⟨w1.heap.size + 1 + 1, 2, none⟩ (.slice B u.typed.length d)).setCell ⟨w1.heap.size + 1 + 1, 3, none⟩ (.string u.screen)) := Kpt.set4 (Kpt.refl (One (w1.heap.size + 1 + 1)) _) (fun _ => rfl) _ _ _ _
    have ba := HB2.out.set4 (.int .i64 u.epoch) (.string u.session) (.slice B u.typed.length d) (.string u.screen)
    have b4a := HB4.out.kpt ka (fun e => by have e' : w1.heap.size + 1 + 1 = w1.heap.size := e; omega)
    refine ⟨ba.kpt kb (fun e => by have e' : w1.heap.size = w1.heap.size + 1 + 1 := e; omega), (HB3.out.kpt ka (fun e => by have e' : w1.heap.size + 1 = w1.heap.size := e; omega)).kpt kb (fun e => by have e' : w1.heap.size + 1 = w1.heap.size + 1 + 1 := e; omega), b4a.set4 _ _ _ _,
      (HB7.out.kpt ka (fun e => by have e' : w1.heap.size + 1 + 1 + 1 = w1.heap.size := e; omega)).kpt kb (fun e => by have e' : w1.heap.size + 1 + 1 + 1 = w1.heap.size + 1 + 1 := e; omega), Kpt.trans (Kpt.trans K4.out ka (fun i e hlt => by have e' : i = w1.heap.size := e; omega)) kb (fun i e hlt => by have e' : i = w1.heap.size + 1 + 1 := e; omega), ?_⟩
    have hD' : ∀ i, (D i ∨ w3.heap.size ≤ i) → i ≠ w1.heap.size ∧ i ≠ w1.heap.size + 1 + 1 := fun i h => by
      rcases h with h | h
      · have := hD i h; omega
      · omega
    exact ⟨B, d, rfl, hd1, hd2, ((HR.out.kpt ka (fun i h e => (hD' i h).1 e)).kpt kb (fun i h e => (hD' i h).2 e)).more (fun i h => by rcases h with h | h; exact .inl h; right; omega)⟩
  generalize ((((((((w4.setCell ⟨w1.heap.size, 0, none⟩ (.int .i64 u.epoch)).setCell ⟨w1.heap.size, 1, none⟩ (.string u.session)).setCell ⟨w1.heap.size, 2, none⟩ (.slice B u.typed.length d)).setCell ⟨w1.heap.size, 3, none⟩ (.string u.screen)).setCell ⟨w1.heap.size + 1 + 1, 0, none⟩ (.int .i64 u.epoch)).setCell ⟨w1.heap.size + 1 + 1, 1, none⟩ (.string u.session)).setCell ⟨w1.heap.size + 1 + 1, 2, none⟩ (.slice B u.typed.length d)).setCell ⟨w1.heap.size + 1 + 1, 3, none⟩ (.string u.screen)) = wc at hm ⊢
  clear p0 p1 p2 p3 r0 r1 r2 r3 g0 g1 g2 g3 f0 f1 f2 f3 HB2 HB3 HB4 HB7 HR K4 h3lt
  have hb2 := hm.b2
  have hb3 := hm.b3
  have hb4 := hm.b4
  have hb7 := hm.b7
  have p0 := hb2.cell 0
  have p1 := hb2.cell 1
  have p2 := hb2.cell 2
  have p3 := hb2.cell 3
  have q0 := hb3.cell 0
  have q1 := hb3.cell 1
  have q2 := hb3.cell 2
  have q3 := hb3.cell 3
  have q4 := hb3.cell 4
  simp only [List.getElem?_toArray, List.getElem?_cons_zero, List.getElem?_cons_succ] at p0 p1 p2 p3 q0 q1 q2 q3 q4
  have HM := Lib.hid hm; have HTv := Lib.hid hm.tv; clear hb2 hb3 hb4 hb7 hm hd1 hd2
  have hb7 := HM.out.b7
  have r0 := hb7.cell 0
  have r1 := hb7.cell 1
  have r2 := hb7.cell 2
  have r3 := hb7.cell 3
  have f0 := hb7.frozen 0
  have f1 := hb7.frozen 1
  have f2 := hb7.frozen 2
  have f3 := hb7.frozen 3
  simp only [List.getElem?_toArray, List.getElem?_cons_zero, List.getElem?_cons_succ] at r0 r1 r2 r3
  clear hb7
  go_upto_region 18 with fail
  have hb7 := HM.out.b7.set4 (.int .i64 u.epoch) (.string u.session) (.slice B u.typed.length d) (.string u.screen)
  have kx : Kpt (One (w1.heap.size + 1 + 1 + 1)) wc ((((wc.setCell ⟨w1.heap.size + 1 + 1 + 1, 0, none⟩ (.int .i64 u.epoch)).setCell ⟨w1.heap.size + 1 + 1 + 1, 1, none⟩ (.string u.session)).setCell ⟨w1.heap.size + 1 + 1 + 1, 2, none⟩ (.slice B u.typed.length d)).setCell ⟨w1.heap.size + 1 + 1 + 1, 3, none⟩ (.string u.screen)) := Kpt.set4 (Kpt.refl (One (w1.heap.size + 1 + 1 + 1)) wc) (fun _ => rfl) _ _ _ _
  generalize ((((wc.setCell ⟨w1.heap.size + 1 + 1 + 1, 0, none⟩ (.int .i64 u.epoch)).setCell ⟨w1.heap.size + 1 + 1 + 1, 1, none⟩ (.string u.session)).setCell ⟨w1.heap.size + 1 + 1 + 1, 2, none⟩ (.slice B u.typed.length d)).setCell ⟨w1.heap.size + 1 + 1 + 1, 3, none⟩ (.string u.screen)) = w6 at hb7 kx ⊢
  have hb4 := HM.out.b4.kpt kx (fun e => by have e' : w1.heap.size + 1 + 1 = w1.heap.size + 1 + 1 + 1 := e; omega)
  have k6 : Kpt Non w1 w6 := Kpt.trans HM.out.kk kx (fun i e hlt => by have e' : i = w1.heap.size + 1 + 1 + 1 := e; omega)
  have hr6 := (TmV.parts HTv.out).2.2.kpt kx (fun i h e => by have e' : i = w1.heap.size + 1 + 1 + 1 := e; rcases h with h | h; have := hD i h; omega; omega)
  have hm1 := (TmV.parts HTv.out).1
  have hm2 := (TmV.parts HTv.out).2.1
  clear r0 r1 r2 r3 f0 f1 f2 f3 kx p0 p1 p2 p3 q0 q1 q2 q3 q4
  have r0 := hb4.cell 0
  have r1 := hb4.cell 1
  have r2 := hb4.cell 2
  have r3 := hb4.cell 3
  have f0 := hb4.frozen 0
  have f1 := hb4.frozen 1
  have f2 := hb4.frozen 2
  have f3 := hb4.frozen 3
  have z0 := hb7.cell 0
  have z1 := hb7.cell 1
  have z2 := hb7.cell 2
  have z3 := hb7.cell 3
  have g0 := hb7.frozen 0
  have g1 := hb7.frozen 1
  have g2 := hb7.frozen 2
  have g3 := hb7.frozen 3
  simp only [List.getElem?_toArray, List.getElem?_cons_zero, List.getElem?_cons_succ] at r0 r1 r2 r3 z0 z1 z2 z3
  have HB4 := Lib.hid hb4; have HB7 := Lib.hid hb7; have HR6 := Lib.hid hr6; have K6 := Lib.hid k6; clear hb4 hb7 hr6 k6
  have hn47 : w1.heap.size + 1 + 1 ≠ w1.heap.size + 1 + 1 + 1 := by omega
  go_region
  go_wp2_with fail
  have hz4 := (HB4.out.set4 (.int .i64 u.epoch) (.string u.session) (.slice B u.typed.length d) (.string u.screen)).kpt (Kpt.set4 (Kpt.refl (One (w1.heap.size + 1 + 1 + 1)) _) (fun _ => rfl) (.int .i64 u.epoch) (.string u.session) (.slice B u.typed.length d) (.string u.screen)) (fun e => by have e' : w1.heap.size + 1 + 1 = w1.heap.size + 1 + 1 + 1 := e; omega)
  have hz7 := (HB7.out.kpt (Kpt.set4 (Kpt.refl (One (w1.heap.size + 1 + 1)) w6) (fun _ => rfl) (.int .i64 u.epoch) (.string u.session) (.slice B u.typed.length d) (.string u.screen)) (fun e => by have e' : w1.heap.size + 1 + 1 + 1 = w1.heap.size + 1 + 1 := e; omega)).set4 (.int .i64 u.epoch) (.string u.session) (.slice B u.typed.length d) (.string u.screen)
  have kz : Kpt (fun i => i = w1.heap.size + 1 + 1 ∨ i = w1.heap.size + 1 + 1 + 1) w6 (((((((((w6.setCell ⟨w1.heap.size + 1 + 1, 0, none⟩ (.int .i64 u.epoch)).setCell ⟨w1.heap.size + 1 + 1, 1, none⟩ (.string u.session)).setCell ⟨w1.heap.size + 1 + 1, 2, none⟩ (.slice B u.typed.length d)).setCell ⟨w1.heap.size + 1 + 1, 3, none⟩ (.string u.screen)).setCell ⟨w1.heap.size + 1 + 1 + 1, 0, none⟩ (.int .i64 u.epoch)).setCell ⟨w1.heap.size + 1 + 1 + 1, 1, none⟩ (.string u.session)).setCell ⟨w1.heap.size + 1 + 1 + 1, 2, none⟩ (.slice B u.typed.length d)).setCell ⟨w1.heap.size + 1 + 1 + 1, 3, none⟩ (.string u.screen))).drew := Kpt.drew (Kpt.set4 (Kpt.set4 (Kpt.refl _ w6) (fun _ => .inl rfl) _ _ _ _) (fun _ => .inr rfl) _ _ _ _)
  have kf : Kpt Non w1 (((((((((w6.setCell ⟨w1.heap.size + 1 + 1, 0, none⟩ (.int .i64 u.epoch)).setCell ⟨w1.heap.size + 1 + 1, 1, none⟩ (.string u.session)).setCell ⟨w1.heap.size + 1 + 1, 2, none⟩ (.slice B u.typed.length d)).setCell ⟨w1.heap.size + 1 + 1, 3, none⟩ (.string u.screen)).setCell ⟨w1.heap.size + 1 + 1 + 1, 0, none⟩ (.int .i64 u.epoch)).setCell ⟨w1.heap.size + 1 + 1 + 1, 1, none⟩ (.string u.session)).setCell ⟨w1.heap.size + 1 + 1 + 1, 2, none⟩ (.slice B u.typed.length d)).setCell ⟨w1.heap.size + 1 + 1 + 1, 3, none⟩ (.string u.screen))).drew := Kpt.trans K6.out kz (fun i e hlt => by rcases e with e | e <;> omega)
  have hy4 := hz4.drew
  have hy7 := hz7.drew
  have y0 := hy4.cell 0
  have y1 := hy4.cell 1
  have y2 := hy4.cell 2
  have y3 := hy4.cell 3
  have x0 := hy7.cell 0
  have x1 := hy7.cell 1
  have x2 := hy7.cell 2
  have x3 := hy7.cell 3
  simp only [List.getElem?_toArray, List.getElem?_cons_zero, List.getElem?_cons_succ] at y0 y1 y2 y3 x0 x1 x2 x3
  refine bodyPost_ret (v := .tuple #[.agg #[(.int .i64 u.epoch), (.string u.session), (.slice B u.typed.length d), (.string u.screen)], .int .i64 0, .string ⟨#[]⟩, .agg #[(.int .i64 u.epoch), (.string u.session), (.slice B u.typed.length d), (.string u.screen)]]) ?_ rfl ⟨B, d, B, d, rfl, ⟨B, d, rfl, hm1, hm2, (HR6.out.kpt kz (fun i h e => by rcases e with e | e; rcases h with h | h; have := hD i h; omega; omega; rcases h with h | h; have := hD i h; omega; omega)).more (fun i h => by rcases h with h | h; exact .inl h; right; omega)⟩, ⟨B, d, rfl, hm1, hm2, (HR6.out.kpt kz (fun i h e => by rcases e with e | e; rcases h with h | h; have := hD i h; omega; omega; rcases h with h | h; have := hD i h; omega; omega)).more (fun i h => by rcases h with h | h; exact .inl h; right; omega)⟩, kf⟩
  clear hz4 hz7 kz kf hy4 hy7
  generalize (((((((((w6.setCell ⟨w1.heap.size + 1 + 1, 0, none⟩ (.int .i64 u.epoch)).setCell ⟨w1.heap.size + 1 + 1, 1, none⟩ (.string u.session)).setCell ⟨w1.heap.size + 1 + 1, 2, none⟩ (.slice B u.typed.length d)).setCell ⟨w1.heap.size + 1 + 1, 3, none⟩ (.string u.screen)).setCell ⟨w1.heap.size + 1 + 1 + 1, 0, none⟩ (.int .i64 u.epoch)).setCell ⟨w1.heap.size + 1 + 1 + 1, 1, none⟩ (.string u.session)).setCell ⟨w1.heap.size + 1 + 1 + 1, 2, none⟩ (.slice B u.typed.length d)).setCell ⟨w1.heap.size + 1 + 1 + 1, 3, none⟩ (.string u.screen))).drew = wf at y0 y1 y2 y3 x0 x1 x2 x3
  simp [results, Tryz.results71, go_sem, y0, y1, y2, y3, x0, x1, x2, x3]
end
end Go.Proofs.YtkpmabknjdgkmaaGreatDoor
