/- The walk of do: an operation of the laws on a view. No condition but that sizes fit the machine. -/
import Derived.Test.YtkpmabknjdgkmaaGreatDoorPlay1
namespace Go.Proofs.YtkpmabknjdgkmaaGreatDoor
open Go.RowKit

/-- What do answers. -/
def DoPost (w : World) (top : Nat) (w1 : World) (b c : Nat) (X : Ts) (err : Int) (line : ByteArray) (t : Tm) (e : Ending) (w2 : World) : Prop :=
  ∃ A cp, e = .returned (.tuple #[.int .i64 err, .string line, .agg #[.int .i64 t.epoch, .string t.session, .slice A t.typed.length cp, .string t.screen]]) ∧
    TmV w2 (fun i => w1.heap.size ≤ i) t (.agg #[.int .i64 t.epoch, .string t.session, .slice A t.typed.length cp, .string t.screen]) ∧ V w top w2 b c X ∧ Kpt (Btw w top) w1 w2

section
variable {w w1 : World} {top b c c' : Nat} {X X' : Ts} {err : Int} {o : Opn}

theorem do_boxes (o : Opn) (w : World) : Blk ((w.alloc (.cells o.cells.toArray 74)).alloc (.cells #[.int .i64 0, .string ⟨#[]⟩, .slice none 0 0, .string ⟨#[]⟩] 36)) w.heap.size 74 o.cells.toArray ∧
    Blk ((w.alloc (.cells o.cells.toArray 74)).alloc (.cells #[.int .i64 0, .string ⟨#[]⟩, .slice none 0 0, .string ⟨#[]⟩] 36)) (w.heap.size + 1) 36 #[.int .i64 0, .string ⟨#[]⟩, .slice none 0 0, .string ⟨#[]⟩] ∧
    Kpt Non w ((w.alloc (.cells o.cells.toArray 74)).alloc (.cells #[.int .i64 0, .string ⟨#[]⟩, .slice none 0 0, .string ⟨#[]⟩] 36)) := by
  refine ⟨(Blk.new w 74 _).alloc _, ?_, Kpt.alloc (Kpt.alloc (Kpt.refl _ _) _) _⟩
  have := Blk.new (w.alloc (.cells o.cells.toArray 74)) 36 #[.int .i64 0, .string ⟨#[]⟩, .slice none 0 0, .string ⟨#[]⟩]
  simpa using this

theorem V.one {w2 : World} {p : Nat} {t : TypeId} {cs : Array Value} (h : V w top w1 b c X) (hp : Blk w1 p t cs) (ht : top ≤ p) (h1 : t ≠ 90) (h2 : t ≠ 86) (k : Kpt (One p) w1 w2) : V w top w2 b c X := by
  obtain ⟨bs, sa, r, n, ⟨m, hv, hs, hc⟩, h1', h2', h3', k0⟩ := h
  have hbs := hv.hb
  exact ⟨bs, sa, r, n, ⟨m, hv.one hp (by omega) h1 h2 k, hs, hc⟩, h1', h2', h3', Kpt.trans k0 k (fun i e hlt => by have e' : i = p := e; omega)⟩

/-- How do stands behind its call of short. -/
def DoMid (w1 : World) (o : Opn) (wc : World) : Prop :=
  Blk wc w1.heap.size 74 #[.int .u8 o.kind, .int .i64 o.number, .int .i64 o.epoch, .string o.who, .string o.text] ∧
    Blk wc (w1.heap.size + 1) 36 #[.int .i64 0, .string ⟨#[]⟩, .slice none 0 0, .string ⟨#[]⟩] ∧ Kpt Non w1 wc

set_option maxRecDepth 100000 in
set_option maxHeartbeats 1000000 in
theorem f83_begin (h : V w top w1 b c X) (htop : top ≤ w1.heap.size) (hk : o.kind % 8 = 0) (hk0 : 0 ≤ o.kind) (hk1 : o.kind ≤ 255) (hcut : o.cut = o) (hw : o.who.size ≤ 100) (ht : o.text.size ≤ 3000) (hc : c ≤ 1000000) (hx : opR X o.number o.epoch (beginT o.who) = (X', err)) (hcc : (if err = 0 then c + 1 else c) = c') :
    Calls Tryz.prog 39 #[.pointer (some ⟨b, 0, none⟩), .agg #[.int .u8 o.kind, .int .i64 o.number, .int .i64 o.epoch, .string o.who, .string o.text]] w1 (DoPost w top w1 b c' X' err es zeroT) := by
  have HB := Lib.hid (do_boxes o w1)
  have HV := Lib.hid h
  have e118 := fun w => f118_any o w (by omega) (by omega)
  rw [hcut] at e118
  unfold Opn.val at e118
  unfold Opn.cells at e118 HB
  have E118 := Lib.hid e118
  have HX := Lib.hid hx
  have HCC := Lib.hid hcc; clear hcc
  clear e118 hcut h hx
  go_enter Tryz.func39, Tryz.ntmps39
  go_upto_region 2 with (go_at_call 69; ((refine (E118.out _).mono ?_); rintro e w2 ⟨rfl, k2⟩; have hb := HB.out.1.kpt k2 (fun e => e); have hb6 := HB.out.2.1.kpt k2 (fun e => e); have g0 := hb.frozen 0; have g1 := hb.frozen 1; have g2 := hb.frozen 2; have g3 := hb.frozen 3; have g4 := hb.frozen 4; have q0 := hb.cell 0; have q1 := hb.cell 1; have q2 := hb.cell 2; have q3 := hb.cell 3; have q4 := hb.cell 4; simp only [List.getElem?_toArray, List.getElem?_cons_zero, List.getElem?_cons_succ] at q0 q1 q2 q3 q4; have HBb := Lib.hid hb; have HB6 := Lib.hid hb6; have K2 := Lib.hid (Kpt.trans HB.out.2.2 k2 (fun _ e _ => e)); clear hb hb6 k2))
  have hm : DoMid w1 o (((((w2.setCell ⟨w1.heap.size, 0, none⟩ (.int .u8 o.kind)).setCell ⟨w1.heap.size, 1, none⟩ (.int .i64 o.number)).setCell ⟨w1.heap.size, 2, none⟩ (.int .i64 o.epoch)).setCell ⟨w1.heap.size, 3, none⟩ (.string o.who)).setCell ⟨w1.heap.size, 4, none⟩ (.string o.text)) :=
    ⟨HBb.out.same5, HB6.out.kpt (Kpt.set5 (Kpt.refl (One w1.heap.size) w2) (fun _ => rfl) _ _ _ _ _) (fun e => by have e' : w1.heap.size + 1 = w1.heap.size := e; omega), Kpt.set5 K2.out (fun h => absurd h (Nat.lt_irrefl _)) _ _ _ _ _⟩
  generalize (((((w2.setCell ⟨w1.heap.size, 0, none⟩ (.int .u8 o.kind)).setCell ⟨w1.heap.size, 1, none⟩ (.int .i64 o.number)).setCell ⟨w1.heap.size, 2, none⟩ (.int .i64 o.epoch)).setCell ⟨w1.heap.size, 3, none⟩ (.string o.who)).setCell ⟨w1.heap.size, 4, none⟩ (.string o.text)) = wc at hm ⊢
  clear q0 q1 q2 q3 q4 g0 g1 g2 g3 g4 HBb HB6 K2
  have q0 := hm.1.cell 0
  have q1 := hm.1.cell 1
  have q2 := hm.1.cell 2
  have q3 := hm.1.cell 3
  have q4 := hm.1.cell 4
  simp only [List.getElem?_toArray, List.getElem?_cons_zero, List.getElem?_cons_succ] at q0 q1 q2 q3 q4
  have HV2 := Lib.hid (HV.out.non hm.2.2)
  have HM := Lib.hid hm; clear hm HV
  go_wp2_with fail
  refine (V.begin HV2.out o.who HX.out HCC.out hc (by omega)).mono ?_
  rintro e w3 ⟨rfl, hv3, k3⟩
  have hb6 := HM.out.2.1.kpt k3 (fun e => by have e1 := e.1; have e2 := e.2; omega)
  have z0 := hb6.cell 0
  have z1 := hb6.cell 1
  have z2 := hb6.cell 2
  have z3 := hb6.cell 3
  have f0 := hb6.frozen 0
  have f1 := hb6.frozen 1
  have f2 := hb6.frozen 2
  have f3 := hb6.frozen 3
  simp only [List.getElem?_toArray, List.getElem?_cons_zero, List.getElem?_cons_succ] at z0 z1 z2 z3
  have HB6 := Lib.hid hb6; have HV3 := Lib.hid hv3; have K3 := Lib.hid k3; clear hb6 hv3 k3 q0 q1 q2 q3 q4
  go_wp2_with fail
  go_region
  go_wp2_with fail
  have hzf := (HB6.out.set4 (.int .i64 0) (.string ⟨#[]⟩) (.slice none 0 0) (.string ⟨#[]⟩)).drew
  have kz : Kpt (One (w1.heap.size + 1)) w3 ((((w3.setCell ⟨w1.heap.size + 1, 0, none⟩ (.int .i64 0)).setCell ⟨w1.heap.size + 1, 1, none⟩ (.string ⟨#[]⟩)).setCell ⟨w1.heap.size + 1, 2, none⟩ (.slice none 0 0)).setCell ⟨w1.heap.size + 1, 3, none⟩ (.string ⟨#[]⟩)).drew := Kpt.drew (Kpt.set4 (Kpt.refl (One (w1.heap.size + 1)) w3) (fun _ => rfl) _ _ _ _)
  have kf : Kpt (Btw w top) w1 ((((w3.setCell ⟨w1.heap.size + 1, 0, none⟩ (.int .i64 0)).setCell ⟨w1.heap.size + 1, 1, none⟩ (.string ⟨#[]⟩)).setCell ⟨w1.heap.size + 1, 2, none⟩ (.slice none 0 0)).setCell ⟨w1.heap.size + 1, 3, none⟩ (.string ⟨#[]⟩)).drew := Kpt.trans (Kpt.trans HM.out.2.2.up K3.out (fun _ e _ => e)) kz (fun i e hlt => by have e' : i = w1.heap.size + 1 := e; omega)
  have y0 := hzf.cell 0
  have y1 := hzf.cell 1
  have y2 := hzf.cell 2
  have y3 := hzf.cell 3
  simp only [List.getElem?_toArray, List.getElem?_cons_zero, List.getElem?_cons_succ] at y0 y1 y2 y3
  refine bodyPost_ret (v := .tuple #[.int .i64 err, .string ⟨#[]⟩, .agg #[(.int .i64 0), (.string ⟨#[]⟩), (.slice none 0 0), (.string ⟨#[]⟩)]]) ?_ rfl ⟨none, 0, rfl, tmv_zero _ _, HV3.out.one HB6.out (by omega) (by decide) (by decide) kz, kf⟩
  clear hzf kz kf
  generalize ((((w3.setCell ⟨w1.heap.size + 1, 0, none⟩ (.int .i64 0)).setCell ⟨w1.heap.size + 1, 1, none⟩ (.string ⟨#[]⟩)).setCell ⟨w1.heap.size + 1, 2, none⟩ (.slice none 0 0)).setCell ⟨w1.heap.size + 1, 3, none⟩ (.string ⟨#[]⟩)).drew = wf at y0 y1 y2 y3
  simp [results, Tryz.results39, go_sem, y0, y1, y2, y3]
set_option maxRecDepth 100000 in
set_option maxHeartbeats 1000000 in
theorem f83_end (h : V w top w1 b c X) (htop : top ≤ w1.heap.size) (hk : o.kind % 8 = 1) (hk0 : 0 ≤ o.kind) (hk1 : o.kind ≤ 255) (hcut : o.cut = o) (hw : o.who.size ≤ 100) (ht : o.text.size ≤ 3000) (hc : c ≤ 1000000) (hx : opR X o.number o.epoch (endT o.who) = (X', err)) (hcc : (if err = 0 then c + 1 else c) = c') :
    Calls Tryz.prog 39 #[.pointer (some ⟨b, 0, none⟩), .agg #[.int .u8 o.kind, .int .i64 o.number, .int .i64 o.epoch, .string o.who, .string o.text]] w1 (DoPost w top w1 b c' X' err es zeroT) := by
  have HB := Lib.hid (do_boxes o w1)
  have HV := Lib.hid h
  have e118 := fun w => f118_any o w (by omega) (by omega)
  rw [hcut] at e118
  unfold Opn.val at e118
  unfold Opn.cells at e118 HB
  have E118 := Lib.hid e118
  have HX := Lib.hid hx
  have HCC := Lib.hid hcc; clear hcc
  clear e118 hcut h hx
  go_enter Tryz.func39, Tryz.ntmps39
  go_upto_region 2 with (go_at_call 69; ((refine (E118.out _).mono ?_); rintro e w2 ⟨rfl, k2⟩; have hb := HB.out.1.kpt k2 (fun e => e); have hb6 := HB.out.2.1.kpt k2 (fun e => e); have g0 := hb.frozen 0; have g1 := hb.frozen 1; have g2 := hb.frozen 2; have g3 := hb.frozen 3; have g4 := hb.frozen 4; have q0 := hb.cell 0; have q1 := hb.cell 1; have q2 := hb.cell 2; have q3 := hb.cell 3; have q4 := hb.cell 4; simp only [List.getElem?_toArray, List.getElem?_cons_zero, List.getElem?_cons_succ] at q0 q1 q2 q3 q4; have HBb := Lib.hid hb; have HB6 := Lib.hid hb6; have K2 := Lib.hid (Kpt.trans HB.out.2.2 k2 (fun _ e _ => e)); clear hb hb6 k2))
  have hm : DoMid w1 o (((((w2.setCell ⟨w1.heap.size, 0, none⟩ (.int .u8 o.kind)).setCell ⟨w1.heap.size, 1, none⟩ (.int .i64 o.number)).setCell ⟨w1.heap.size, 2, none⟩ (.int .i64 o.epoch)).setCell ⟨w1.heap.size, 3, none⟩ (.string o.who)).setCell ⟨w1.heap.size, 4, none⟩ (.string o.text)) :=
    ⟨HBb.out.same5, HB6.out.kpt (Kpt.set5 (Kpt.refl (One w1.heap.size) w2) (fun _ => rfl) _ _ _ _ _) (fun e => by have e' : w1.heap.size + 1 = w1.heap.size := e; omega), Kpt.set5 K2.out (fun h => absurd h (Nat.lt_irrefl _)) _ _ _ _ _⟩
  generalize (((((w2.setCell ⟨w1.heap.size, 0, none⟩ (.int .u8 o.kind)).setCell ⟨w1.heap.size, 1, none⟩ (.int .i64 o.number)).setCell ⟨w1.heap.size, 2, none⟩ (.int .i64 o.epoch)).setCell ⟨w1.heap.size, 3, none⟩ (.string o.who)).setCell ⟨w1.heap.size, 4, none⟩ (.string o.text)) = wc at hm ⊢
  clear q0 q1 q2 q3 q4 g0 g1 g2 g3 g4 HBb HB6 K2
  have q0 := hm.1.cell 0
  have q1 := hm.1.cell 1
  have q2 := hm.1.cell 2
  have q3 := hm.1.cell 3
  have q4 := hm.1.cell 4
  simp only [List.getElem?_toArray, List.getElem?_cons_zero, List.getElem?_cons_succ] at q0 q1 q2 q3 q4
  have HV2 := Lib.hid (HV.out.non hm.2.2)
  have HM := Lib.hid hm; clear hm HV
  go_wp2_with fail
  refine (V.end_ HV2.out o.who HX.out HCC.out hc).mono ?_
  rintro e w3 ⟨rfl, hv3, k3⟩
  have hb6 := HM.out.2.1.kpt k3 (fun e => by have e1 := e.1; have e2 := e.2; omega)
  have z0 := hb6.cell 0
  have z1 := hb6.cell 1
  have z2 := hb6.cell 2
  have z3 := hb6.cell 3
  have f0 := hb6.frozen 0
  have f1 := hb6.frozen 1
  have f2 := hb6.frozen 2
  have f3 := hb6.frozen 3
  simp only [List.getElem?_toArray, List.getElem?_cons_zero, List.getElem?_cons_succ] at z0 z1 z2 z3
  have HB6 := Lib.hid hb6; have HV3 := Lib.hid hv3; have K3 := Lib.hid k3; clear hb6 hv3 k3 q0 q1 q2 q3 q4
  go_wp2_with fail
  go_region
  go_wp2_with fail
  have hzf := (HB6.out.set4 (.int .i64 0) (.string ⟨#[]⟩) (.slice none 0 0) (.string ⟨#[]⟩)).drew
  have kz : Kpt (One (w1.heap.size + 1)) w3 ((((w3.setCell ⟨w1.heap.size + 1, 0, none⟩ (.int .i64 0)).setCell ⟨w1.heap.size + 1, 1, none⟩ (.string ⟨#[]⟩)).setCell ⟨w1.heap.size + 1, 2, none⟩ (.slice none 0 0)).setCell ⟨w1.heap.size + 1, 3, none⟩ (.string ⟨#[]⟩)).drew := Kpt.drew (Kpt.set4 (Kpt.refl (One (w1.heap.size + 1)) w3) (fun _ => rfl) _ _ _ _)
  have kf : Kpt (Btw w top) w1 ((((w3.setCell ⟨w1.heap.size + 1, 0, none⟩ (.int .i64 0)).setCell ⟨w1.heap.size + 1, 1, none⟩ (.string ⟨#[]⟩)).setCell ⟨w1.heap.size + 1, 2, none⟩ (.slice none 0 0)).setCell ⟨w1.heap.size + 1, 3, none⟩ (.string ⟨#[]⟩)).drew := Kpt.trans (Kpt.trans HM.out.2.2.up K3.out (fun _ e _ => e)) kz (fun i e hlt => by have e' : i = w1.heap.size + 1 := e; omega)
  have y0 := hzf.cell 0
  have y1 := hzf.cell 1
  have y2 := hzf.cell 2
  have y3 := hzf.cell 3
  simp only [List.getElem?_toArray, List.getElem?_cons_zero, List.getElem?_cons_succ] at y0 y1 y2 y3
  refine bodyPost_ret (v := .tuple #[.int .i64 err, .string ⟨#[]⟩, .agg #[(.int .i64 0), (.string ⟨#[]⟩), (.slice none 0 0), (.string ⟨#[]⟩)]]) ?_ rfl ⟨none, 0, rfl, tmv_zero _ _, HV3.out.one HB6.out (by omega) (by decide) (by decide) kz, kf⟩
  clear hzf kz kf
  generalize ((((w3.setCell ⟨w1.heap.size + 1, 0, none⟩ (.int .i64 0)).setCell ⟨w1.heap.size + 1, 1, none⟩ (.string ⟨#[]⟩)).setCell ⟨w1.heap.size + 1, 2, none⟩ (.slice none 0 0)).setCell ⟨w1.heap.size + 1, 3, none⟩ (.string ⟨#[]⟩)).drew = wf at y0 y1 y2 y3
  simp [results, Tryz.results39, go_sem, y0, y1, y2, y3]
set_option maxRecDepth 100000 in
set_option maxHeartbeats 1000000 in
theorem f83_type2 (h : V w top w1 b c X) (htop : top ≤ w1.heap.size) (hk : o.kind % 8 = 2) (hk0 : 0 ≤ o.kind) (hk1 : o.kind ≤ 255) (hcut : o.cut = o) (hw : o.who.size ≤ 100) (ht : o.text.size ≤ 3000) (hc : c ≤ 1000000) (hx : opR X o.number o.epoch (typedT o.text) = (X', err)) (hcc : (if err = 0 then c + 1 else c) = c') :
    Calls Tryz.prog 39 #[.pointer (some ⟨b, 0, none⟩), .agg #[.int .u8 o.kind, .int .i64 o.number, .int .i64 o.epoch, .string o.who, .string o.text]] w1 (DoPost w top w1 b c' X' err es zeroT) := by
  have HB := Lib.hid (do_boxes o w1)
  have HV := Lib.hid h
  have e118 := fun w => f118_any o w (by omega) (by omega)
  rw [hcut] at e118
  unfold Opn.val at e118
  unfold Opn.cells at e118 HB
  have E118 := Lib.hid e118
  have HX := Lib.hid hx
  have HCC := Lib.hid hcc; clear hcc
  clear e118 hcut h hx
  go_enter Tryz.func39, Tryz.ntmps39
  go_upto_region 2 with (go_at_call 69; ((refine (E118.out _).mono ?_); rintro e w2 ⟨rfl, k2⟩; have hb := HB.out.1.kpt k2 (fun e => e); have hb6 := HB.out.2.1.kpt k2 (fun e => e); have g0 := hb.frozen 0; have g1 := hb.frozen 1; have g2 := hb.frozen 2; have g3 := hb.frozen 3; have g4 := hb.frozen 4; have q0 := hb.cell 0; have q1 := hb.cell 1; have q2 := hb.cell 2; have q3 := hb.cell 3; have q4 := hb.cell 4; simp only [List.getElem?_toArray, List.getElem?_cons_zero, List.getElem?_cons_succ] at q0 q1 q2 q3 q4; have HBb := Lib.hid hb; have HB6 := Lib.hid hb6; have K2 := Lib.hid (Kpt.trans HB.out.2.2 k2 (fun _ e _ => e)); clear hb hb6 k2))
  have hm : DoMid w1 o (((((w2.setCell ⟨w1.heap.size, 0, none⟩ (.int .u8 o.kind)).setCell ⟨w1.heap.size, 1, none⟩ (.int .i64 o.number)).setCell ⟨w1.heap.size, 2, none⟩ (.int .i64 o.epoch)).setCell ⟨w1.heap.size, 3, none⟩ (.string o.who)).setCell ⟨w1.heap.size, 4, none⟩ (.string o.text)) :=
    ⟨HBb.out.same5, HB6.out.kpt (Kpt.set5 (Kpt.refl (One w1.heap.size) w2) (fun _ => rfl) _ _ _ _ _) (fun e => by have e' : w1.heap.size + 1 = w1.heap.size := e; omega), Kpt.set5 K2.out (fun h => absurd h (Nat.lt_irrefl _)) _ _ _ _ _⟩
  generalize (((((w2.setCell ⟨w1.heap.size, 0, none⟩ (.int .u8 o.kind)).setCell ⟨w1.heap.size, 1, none⟩ (.int .i64 o.number)).setCell ⟨w1.heap.size, 2, none⟩ (.int .i64 o.epoch)).setCell ⟨w1.heap.size, 3, none⟩ (.string o.who)).setCell ⟨w1.heap.size, 4, none⟩ (.string o.text)) = wc at hm ⊢
  clear q0 q1 q2 q3 q4 g0 g1 g2 g3 g4 HBb HB6 K2
  have q0 := hm.1.cell 0
  have q1 := hm.1.cell 1
  have q2 := hm.1.cell 2
  have q3 := hm.1.cell 3
  have q4 := hm.1.cell 4
  simp only [List.getElem?_toArray, List.getElem?_cons_zero, List.getElem?_cons_succ] at q0 q1 q2 q3 q4
  have HV2 := Lib.hid (HV.out.non hm.2.2)
  have HM := Lib.hid hm; clear hm HV
  go_wp2_with fail
  refine (V.type HV2.out o.text HX.out HCC.out hc (by omega)).mono ?_
  rintro e w3 ⟨rfl, hv3, k3⟩
  have hb6 := HM.out.2.1.kpt k3 (fun e => by have e1 := e.1; have e2 := e.2; omega)
  have z0 := hb6.cell 0
  have z1 := hb6.cell 1
  have z2 := hb6.cell 2
  have z3 := hb6.cell 3
  have f0 := hb6.frozen 0
  have f1 := hb6.frozen 1
  have f2 := hb6.frozen 2
  have f3 := hb6.frozen 3
  simp only [List.getElem?_toArray, List.getElem?_cons_zero, List.getElem?_cons_succ] at z0 z1 z2 z3
  have HB6 := Lib.hid hb6; have HV3 := Lib.hid hv3; have K3 := Lib.hid k3; clear hb6 hv3 k3 q0 q1 q2 q3 q4
  go_wp2_with fail
  go_region
  go_wp2_with fail
  have hzf := (HB6.out.set4 (.int .i64 0) (.string ⟨#[]⟩) (.slice none 0 0) (.string ⟨#[]⟩)).drew
  have kz : Kpt (One (w1.heap.size + 1)) w3 ((((w3.setCell ⟨w1.heap.size + 1, 0, none⟩ (.int .i64 0)).setCell ⟨w1.heap.size + 1, 1, none⟩ (.string ⟨#[]⟩)).setCell ⟨w1.heap.size + 1, 2, none⟩ (.slice none 0 0)).setCell ⟨w1.heap.size + 1, 3, none⟩ (.string ⟨#[]⟩)).drew := Kpt.drew (Kpt.set4 (Kpt.refl (One (w1.heap.size + 1)) w3) (fun _ => rfl) _ _ _ _)
  have kf : Kpt (Btw w top) w1 ((((w3.setCell ⟨w1.heap.size + 1, 0, none⟩ (.int .i64 0)).setCell ⟨w1.heap.size + 1, 1, none⟩ (.string ⟨#[]⟩)).setCell ⟨w1.heap.size + 1, 2, none⟩ (.slice none 0 0)).setCell ⟨w1.heap.size + 1, 3, none⟩ (.string ⟨#[]⟩)).drew := Kpt.trans (Kpt.trans HM.out.2.2.up K3.out (fun _ e _ => e)) kz (fun i e hlt => by have e' : i = w1.heap.size + 1 := e; omega)
  have y0 := hzf.cell 0
  have y1 := hzf.cell 1
  have y2 := hzf.cell 2
  have y3 := hzf.cell 3
  simp only [List.getElem?_toArray, List.getElem?_cons_zero, List.getElem?_cons_succ] at y0 y1 y2 y3
  refine bodyPost_ret (v := .tuple #[.int .i64 err, .string ⟨#[]⟩, .agg #[(.int .i64 0), (.string ⟨#[]⟩), (.slice none 0 0), (.string ⟨#[]⟩)]]) ?_ rfl ⟨none, 0, rfl, tmv_zero _ _, HV3.out.one HB6.out (by omega) (by decide) (by decide) kz, kf⟩
  clear hzf kz kf
  generalize ((((w3.setCell ⟨w1.heap.size + 1, 0, none⟩ (.int .i64 0)).setCell ⟨w1.heap.size + 1, 1, none⟩ (.string ⟨#[]⟩)).setCell ⟨w1.heap.size + 1, 2, none⟩ (.slice none 0 0)).setCell ⟨w1.heap.size + 1, 3, none⟩ (.string ⟨#[]⟩)).drew = wf at y0 y1 y2 y3
  simp [results, Tryz.results39, go_sem, y0, y1, y2, y3]
set_option maxRecDepth 100000 in
set_option maxHeartbeats 1000000 in
theorem f83_type3 (h : V w top w1 b c X) (htop : top ≤ w1.heap.size) (hk : o.kind % 8 = 3) (hk0 : 0 ≤ o.kind) (hk1 : o.kind ≤ 255) (hcut : o.cut = o) (hw : o.who.size ≤ 100) (ht : o.text.size ≤ 3000) (hc : c ≤ 1000000) (hx : opR X o.number o.epoch (typedT o.text) = (X', err)) (hcc : (if err = 0 then c + 1 else c) = c') :
    Calls Tryz.prog 39 #[.pointer (some ⟨b, 0, none⟩), .agg #[.int .u8 o.kind, .int .i64 o.number, .int .i64 o.epoch, .string o.who, .string o.text]] w1 (DoPost w top w1 b c' X' err es zeroT) := by
  have HB := Lib.hid (do_boxes o w1)
  have HV := Lib.hid h
  have e118 := fun w => f118_any o w (by omega) (by omega)
  rw [hcut] at e118
  unfold Opn.val at e118
  unfold Opn.cells at e118 HB
  have E118 := Lib.hid e118
  have HX := Lib.hid hx
  have HCC := Lib.hid hcc; clear hcc
  clear e118 hcut h hx
  go_enter Tryz.func39, Tryz.ntmps39
  go_upto_region 2 with (go_at_call 69; ((refine (E118.out _).mono ?_); rintro e w2 ⟨rfl, k2⟩; have hb := HB.out.1.kpt k2 (fun e => e); have hb6 := HB.out.2.1.kpt k2 (fun e => e); have g0 := hb.frozen 0; have g1 := hb.frozen 1; have g2 := hb.frozen 2; have g3 := hb.frozen 3; have g4 := hb.frozen 4; have q0 := hb.cell 0; have q1 := hb.cell 1; have q2 := hb.cell 2; have q3 := hb.cell 3; have q4 := hb.cell 4; simp only [List.getElem?_toArray, List.getElem?_cons_zero, List.getElem?_cons_succ] at q0 q1 q2 q3 q4; have HBb := Lib.hid hb; have HB6 := Lib.hid hb6; have K2 := Lib.hid (Kpt.trans HB.out.2.2 k2 (fun _ e _ => e)); clear hb hb6 k2))
  have hm : DoMid w1 o (((((w2.setCell ⟨w1.heap.size, 0, none⟩ (.int .u8 o.kind)).setCell ⟨w1.heap.size, 1, none⟩ (.int .i64 o.number)).setCell ⟨w1.heap.size, 2, none⟩ (.int .i64 o.epoch)).setCell ⟨w1.heap.size, 3, none⟩ (.string o.who)).setCell ⟨w1.heap.size, 4, none⟩ (.string o.text)) :=
    ⟨HBb.out.same5, HB6.out.kpt (Kpt.set5 (Kpt.refl (One w1.heap.size) w2) (fun _ => rfl) _ _ _ _ _) (fun e => by have e' : w1.heap.size + 1 = w1.heap.size := e; omega), Kpt.set5 K2.out (fun h => absurd h (Nat.lt_irrefl _)) _ _ _ _ _⟩
  generalize (((((w2.setCell ⟨w1.heap.size, 0, none⟩ (.int .u8 o.kind)).setCell ⟨w1.heap.size, 1, none⟩ (.int .i64 o.number)).setCell ⟨w1.heap.size, 2, none⟩ (.int .i64 o.epoch)).setCell ⟨w1.heap.size, 3, none⟩ (.string o.who)).setCell ⟨w1.heap.size, 4, none⟩ (.string o.text)) = wc at hm ⊢
  clear q0 q1 q2 q3 q4 g0 g1 g2 g3 g4 HBb HB6 K2
  have q0 := hm.1.cell 0
  have q1 := hm.1.cell 1
  have q2 := hm.1.cell 2
  have q3 := hm.1.cell 3
  have q4 := hm.1.cell 4
  simp only [List.getElem?_toArray, List.getElem?_cons_zero, List.getElem?_cons_succ] at q0 q1 q2 q3 q4
  have HV2 := Lib.hid (HV.out.non hm.2.2)
  have HM := Lib.hid hm; clear hm HV
  go_wp2_with fail
  refine (V.type HV2.out o.text HX.out HCC.out hc (by omega)).mono ?_
  rintro e w3 ⟨rfl, hv3, k3⟩
  have hb6 := HM.out.2.1.kpt k3 (fun e => by have e1 := e.1; have e2 := e.2; omega)
  have z0 := hb6.cell 0
  have z1 := hb6.cell 1
  have z2 := hb6.cell 2
  have z3 := hb6.cell 3
  have f0 := hb6.frozen 0
  have f1 := hb6.frozen 1
  have f2 := hb6.frozen 2
  have f3 := hb6.frozen 3
  simp only [List.getElem?_toArray, List.getElem?_cons_zero, List.getElem?_cons_succ] at z0 z1 z2 z3
  have HB6 := Lib.hid hb6; have HV3 := Lib.hid hv3; have K3 := Lib.hid k3; clear hb6 hv3 k3 q0 q1 q2 q3 q4
  go_wp2_with fail
  go_region
  go_wp2_with fail
  have hzf := (HB6.out.set4 (.int .i64 0) (.string ⟨#[]⟩) (.slice none 0 0) (.string ⟨#[]⟩)).drew
  have kz : Kpt (One (w1.heap.size + 1)) w3 ((((w3.setCell ⟨w1.heap.size + 1, 0, none⟩ (.int .i64 0)).setCell ⟨w1.heap.size + 1, 1, none⟩ (.string ⟨#[]⟩)).setCell ⟨w1.heap.size + 1, 2, none⟩ (.slice none 0 0)).setCell ⟨w1.heap.size + 1, 3, none⟩ (.string ⟨#[]⟩)).drew := Kpt.drew (Kpt.set4 (Kpt.refl (One (w1.heap.size + 1)) w3) (fun _ => rfl) _ _ _ _)
  have kf : Kpt (Btw w top) w1 ((((w3.setCell ⟨w1.heap.size + 1, 0, none⟩ (.int .i64 0)).setCell ⟨w1.heap.size + 1, 1, none⟩ (.string ⟨#[]⟩)).setCell ⟨w1.heap.size + 1, 2, none⟩ (.slice none 0 0)).setCell ⟨w1.heap.size + 1, 3, none⟩ (.string ⟨#[]⟩)).drew := Kpt.trans (Kpt.trans HM.out.2.2.up K3.out (fun _ e _ => e)) kz (fun i e hlt => by have e' : i = w1.heap.size + 1 := e; omega)
  have y0 := hzf.cell 0
  have y1 := hzf.cell 1
  have y2 := hzf.cell 2
  have y3 := hzf.cell 3
  simp only [List.getElem?_toArray, List.getElem?_cons_zero, List.getElem?_cons_succ] at y0 y1 y2 y3
  refine bodyPost_ret (v := .tuple #[.int .i64 err, .string ⟨#[]⟩, .agg #[(.int .i64 0), (.string ⟨#[]⟩), (.slice none 0 0), (.string ⟨#[]⟩)]]) ?_ rfl ⟨none, 0, rfl, tmv_zero _ _, HV3.out.one HB6.out (by omega) (by decide) (by decide) kz, kf⟩
  clear hzf kz kf
  generalize ((((w3.setCell ⟨w1.heap.size + 1, 0, none⟩ (.int .i64 0)).setCell ⟨w1.heap.size + 1, 1, none⟩ (.string ⟨#[]⟩)).setCell ⟨w1.heap.size + 1, 2, none⟩ (.slice none 0 0)).setCell ⟨w1.heap.size + 1, 3, none⟩ (.string ⟨#[]⟩)).drew = wf at y0 y1 y2 y3
  simp [results, Tryz.results39, go_sem, y0, y1, y2, y3]
set_option maxRecDepth 100000 in
set_option maxHeartbeats 1000000 in
theorem f83_read4 (h : V w top w1 b c X) (htop : top ≤ w1.heap.size) (hk : o.kind % 8 = 4) (hk0 : 0 ≤ o.kind) (hk1 : o.kind ≤ 255) (hcut : o.cut = o) (hw : o.who.size ≤ 100) (ht : o.text.size ≤ 3000) (hc : c ≤ 1000000) {line : ByteArray} (hx : opR X o.number o.epoch (readT o.who) = (X', err)) (hl : lineR X o.number o.epoch o.who = line) (hcc : (if err = 0 then c + 1 else c) = c') :
    Calls Tryz.prog 39 #[.pointer (some ⟨b, 0, none⟩), .agg #[.int .u8 o.kind, .int .i64 o.number, .int .i64 o.epoch, .string o.who, .string o.text]] w1 (DoPost w top w1 b c' X' err line zeroT) := by
  have HB := Lib.hid (do_boxes o w1)
  have HV := Lib.hid h
  have e118 := fun w => f118_any o w (by omega) (by omega)
  rw [hcut] at e118
  unfold Opn.val at e118
  unfold Opn.cells at e118 HB
  have E118 := Lib.hid e118
  have HX := Lib.hid hx
  have HCC := Lib.hid hcc; have HL := Lib.hid hl; clear hcc hl
  clear e118 hcut h hx
  go_enter Tryz.func39, Tryz.ntmps39
  go_upto_region 2 with (go_at_call 69; ((refine (E118.out _).mono ?_); rintro e w2 ⟨rfl, k2⟩; have hb := HB.out.1.kpt k2 (fun e => e); have hb6 := HB.out.2.1.kpt k2 (fun e => e); have g0 := hb.frozen 0; have g1 := hb.frozen 1; have g2 := hb.frozen 2; have g3 := hb.frozen 3; have g4 := hb.frozen 4; have q0 := hb.cell 0; have q1 := hb.cell 1; have q2 := hb.cell 2; have q3 := hb.cell 3; have q4 := hb.cell 4; simp only [List.getElem?_toArray, List.getElem?_cons_zero, List.getElem?_cons_succ] at q0 q1 q2 q3 q4; have HBb := Lib.hid hb; have HB6 := Lib.hid hb6; have K2 := Lib.hid (Kpt.trans HB.out.2.2 k2 (fun _ e _ => e)); clear hb hb6 k2))
  have hm : DoMid w1 o (((((w2.setCell ⟨w1.heap.size, 0, none⟩ (.int .u8 o.kind)).setCell ⟨w1.heap.size, 1, none⟩ (.int .i64 o.number)).setCell ⟨w1.heap.size, 2, none⟩ (.int .i64 o.epoch)).setCell ⟨w1.heap.size, 3, none⟩ (.string o.who)).setCell ⟨w1.heap.size, 4, none⟩ (.string o.text)) :=
    ⟨HBb.out.same5, HB6.out.kpt (Kpt.set5 (Kpt.refl (One w1.heap.size) w2) (fun _ => rfl) _ _ _ _ _) (fun e => by have e' : w1.heap.size + 1 = w1.heap.size := e; omega), Kpt.set5 K2.out (fun h => absurd h (Nat.lt_irrefl _)) _ _ _ _ _⟩
  generalize (((((w2.setCell ⟨w1.heap.size, 0, none⟩ (.int .u8 o.kind)).setCell ⟨w1.heap.size, 1, none⟩ (.int .i64 o.number)).setCell ⟨w1.heap.size, 2, none⟩ (.int .i64 o.epoch)).setCell ⟨w1.heap.size, 3, none⟩ (.string o.who)).setCell ⟨w1.heap.size, 4, none⟩ (.string o.text)) = wc at hm ⊢
  clear q0 q1 q2 q3 q4 g0 g1 g2 g3 g4 HBb HB6 K2
  have q0 := hm.1.cell 0
  have q1 := hm.1.cell 1
  have q2 := hm.1.cell 2
  have q3 := hm.1.cell 3
  have q4 := hm.1.cell 4
  simp only [List.getElem?_toArray, List.getElem?_cons_zero, List.getElem?_cons_succ] at q0 q1 q2 q3 q4
  have HV2 := Lib.hid (HV.out.non hm.2.2)
  have HM := Lib.hid hm; clear hm HV
  go_wp2_with fail
  refine (V.read HV2.out o.who HX.out HL.out HCC.out hc (by omega)).mono ?_
  rintro e w3 ⟨rfl, hv3, k3⟩
  have hb6 := HM.out.2.1.kpt k3 (fun e => by have e1 := e.1; have e2 := e.2; omega)
  have z0 := hb6.cell 0
  have z1 := hb6.cell 1
  have z2 := hb6.cell 2
  have z3 := hb6.cell 3
  have f0 := hb6.frozen 0
  have f1 := hb6.frozen 1
  have f2 := hb6.frozen 2
  have f3 := hb6.frozen 3
  simp only [List.getElem?_toArray, List.getElem?_cons_zero, List.getElem?_cons_succ] at z0 z1 z2 z3
  have HB6 := Lib.hid hb6; have HV3 := Lib.hid hv3; have K3 := Lib.hid k3; clear hb6 hv3 k3 q0 q1 q2 q3 q4
  go_wp2_with fail
  go_region
  go_wp2_with fail
  have hzf := (HB6.out.set4 (.int .i64 0) (.string ⟨#[]⟩) (.slice none 0 0) (.string ⟨#[]⟩)).drew
  have kz : Kpt (One (w1.heap.size + 1)) w3 ((((w3.setCell ⟨w1.heap.size + 1, 0, none⟩ (.int .i64 0)).setCell ⟨w1.heap.size + 1, 1, none⟩ (.string ⟨#[]⟩)).setCell ⟨w1.heap.size + 1, 2, none⟩ (.slice none 0 0)).setCell ⟨w1.heap.size + 1, 3, none⟩ (.string ⟨#[]⟩)).drew := Kpt.drew (Kpt.set4 (Kpt.refl (One (w1.heap.size + 1)) w3) (fun _ => rfl) _ _ _ _)
  have kf : Kpt (Btw w top) w1 ((((w3.setCell ⟨w1.heap.size + 1, 0, none⟩ (.int .i64 0)).setCell ⟨w1.heap.size + 1, 1, none⟩ (.string ⟨#[]⟩)).setCell ⟨w1.heap.size + 1, 2, none⟩ (.slice none 0 0)).setCell ⟨w1.heap.size + 1, 3, none⟩ (.string ⟨#[]⟩)).drew := Kpt.trans (Kpt.trans HM.out.2.2.up K3.out (fun _ e _ => e)) kz (fun i e hlt => by have e' : i = w1.heap.size + 1 := e; omega)
  have y0 := hzf.cell 0
  have y1 := hzf.cell 1
  have y2 := hzf.cell 2
  have y3 := hzf.cell 3
  simp only [List.getElem?_toArray, List.getElem?_cons_zero, List.getElem?_cons_succ] at y0 y1 y2 y3
  refine bodyPost_ret (v := .tuple #[.int .i64 err, .string line, .agg #[(.int .i64 0), (.string ⟨#[]⟩), (.slice none 0 0), (.string ⟨#[]⟩)]]) ?_ rfl ⟨none, 0, rfl, tmv_zero _ _, HV3.out.one HB6.out (by omega) (by decide) (by decide) kz, kf⟩
  clear hzf kz kf
  generalize ((((w3.setCell ⟨w1.heap.size + 1, 0, none⟩ (.int .i64 0)).setCell ⟨w1.heap.size + 1, 1, none⟩ (.string ⟨#[]⟩)).setCell ⟨w1.heap.size + 1, 2, none⟩ (.slice none 0 0)).setCell ⟨w1.heap.size + 1, 3, none⟩ (.string ⟨#[]⟩)).drew = wf at y0 y1 y2 y3
  simp [results, Tryz.results39, go_sem, y0, y1, y2, y3]
set_option maxRecDepth 100000 in
set_option maxHeartbeats 1000000 in
theorem f83_read5 (h : V w top w1 b c X) (htop : top ≤ w1.heap.size) (hk : o.kind % 8 = 5) (hk0 : 0 ≤ o.kind) (hk1 : o.kind ≤ 255) (hcut : o.cut = o) (hw : o.who.size ≤ 100) (ht : o.text.size ≤ 3000) (hc : c ≤ 1000000) {line : ByteArray} (hx : opR X o.number o.epoch (readT o.who) = (X', err)) (hl : lineR X o.number o.epoch o.who = line) (hcc : (if err = 0 then c + 1 else c) = c') :
    Calls Tryz.prog 39 #[.pointer (some ⟨b, 0, none⟩), .agg #[.int .u8 o.kind, .int .i64 o.number, .int .i64 o.epoch, .string o.who, .string o.text]] w1 (DoPost w top w1 b c' X' err line zeroT) := by
  have HB := Lib.hid (do_boxes o w1)
  have HV := Lib.hid h
  have e118 := fun w => f118_any o w (by omega) (by omega)
  rw [hcut] at e118
  unfold Opn.val at e118
  unfold Opn.cells at e118 HB
  have E118 := Lib.hid e118
  have HX := Lib.hid hx
  have HCC := Lib.hid hcc; have HL := Lib.hid hl; clear hcc hl
  clear e118 hcut h hx
  go_enter Tryz.func39, Tryz.ntmps39
  go_upto_region 2 with (go_at_call 69; ((refine (E118.out _).mono ?_); rintro e w2 ⟨rfl, k2⟩; have hb := HB.out.1.kpt k2 (fun e => e); have hb6 := HB.out.2.1.kpt k2 (fun e => e); have g0 := hb.frozen 0; have g1 := hb.frozen 1; have g2 := hb.frozen 2; have g3 := hb.frozen 3; have g4 := hb.frozen 4; have q0 := hb.cell 0; have q1 := hb.cell 1; have q2 := hb.cell 2; have q3 := hb.cell 3; have q4 := hb.cell 4; simp only [List.getElem?_toArray, List.getElem?_cons_zero, List.getElem?_cons_succ] at q0 q1 q2 q3 q4; have HBb := Lib.hid hb; have HB6 := Lib.hid hb6; have K2 := Lib.hid (Kpt.trans HB.out.2.2 k2 (fun _ e _ => e)); clear hb hb6 k2))
  have hm : DoMid w1 o (((((w2.setCell ⟨w1.heap.size, 0, none⟩ (.int .u8 o.kind)).setCell ⟨w1.heap.size, 1, none⟩ (.int .i64 o.number)).setCell ⟨w1.heap.size, 2, none⟩ (.int .i64 o.epoch)).setCell ⟨w1.heap.size, 3, none⟩ (.string o.who)).setCell ⟨w1.heap.size, 4, none⟩ (.string o.text)) :=
    ⟨HBb.out.same5, HB6.out.kpt (Kpt.set5 (Kpt.refl (One w1.heap.size) w2) (fun _ => rfl) _ _ _ _ _) (fun e => by have e' : w1.heap.size + 1 = w1.heap.size := e; omega), Kpt.set5 K2.out (fun h => absurd h (Nat.lt_irrefl _)) _ _ _ _ _⟩
  generalize (((((w2.setCell ⟨w1.heap.size, 0, none⟩ (.int .u8 o.kind)).setCell ⟨w1.heap.size, 1, none⟩ (.int .i64 o.number)).setCell ⟨w1.heap.size, 2, none⟩ (.int .i64 o.epoch)).setCell ⟨w1.heap.size, 3, none⟩ (.string o.who)).setCell ⟨w1.heap.size, 4, none⟩ (.string o.text)) = wc at hm ⊢
  clear q0 q1 q2 q3 q4 g0 g1 g2 g3 g4 HBb HB6 K2
  have q0 := hm.1.cell 0
  have q1 := hm.1.cell 1
  have q2 := hm.1.cell 2
  have q3 := hm.1.cell 3
  have q4 := hm.1.cell 4
  simp only [List.getElem?_toArray, List.getElem?_cons_zero, List.getElem?_cons_succ] at q0 q1 q2 q3 q4
  have HV2 := Lib.hid (HV.out.non hm.2.2)
  have HM := Lib.hid hm; clear hm HV
  go_wp2_with fail
  refine (V.read HV2.out o.who HX.out HL.out HCC.out hc (by omega)).mono ?_
  rintro e w3 ⟨rfl, hv3, k3⟩
  have hb6 := HM.out.2.1.kpt k3 (fun e => by have e1 := e.1; have e2 := e.2; omega)
  have z0 := hb6.cell 0
  have z1 := hb6.cell 1
  have z2 := hb6.cell 2
  have z3 := hb6.cell 3
  have f0 := hb6.frozen 0
  have f1 := hb6.frozen 1
  have f2 := hb6.frozen 2
  have f3 := hb6.frozen 3
  simp only [List.getElem?_toArray, List.getElem?_cons_zero, List.getElem?_cons_succ] at z0 z1 z2 z3
  have HB6 := Lib.hid hb6; have HV3 := Lib.hid hv3; have K3 := Lib.hid k3; clear hb6 hv3 k3 q0 q1 q2 q3 q4
  go_wp2_with fail
  go_region
  go_wp2_with fail
  have hzf := (HB6.out.set4 (.int .i64 0) (.string ⟨#[]⟩) (.slice none 0 0) (.string ⟨#[]⟩)).drew
  have kz : Kpt (One (w1.heap.size + 1)) w3 ((((w3.setCell ⟨w1.heap.size + 1, 0, none⟩ (.int .i64 0)).setCell ⟨w1.heap.size + 1, 1, none⟩ (.string ⟨#[]⟩)).setCell ⟨w1.heap.size + 1, 2, none⟩ (.slice none 0 0)).setCell ⟨w1.heap.size + 1, 3, none⟩ (.string ⟨#[]⟩)).drew := Kpt.drew (Kpt.set4 (Kpt.refl (One (w1.heap.size + 1)) w3) (fun _ => rfl) _ _ _ _)
  have kf : Kpt (Btw w top) w1 ((((w3.setCell ⟨w1.heap.size + 1, 0, none⟩ (.int .i64 0)).setCell ⟨w1.heap.size + 1, 1, none⟩ (.string ⟨#[]⟩)).setCell ⟨w1.heap.size + 1, 2, none⟩ (.slice none 0 0)).setCell ⟨w1.heap.size + 1, 3, none⟩ (.string ⟨#[]⟩)).drew := Kpt.trans (Kpt.trans HM.out.2.2.up K3.out (fun _ e _ => e)) kz (fun i e hlt => by have e' : i = w1.heap.size + 1 := e; omega)
  have y0 := hzf.cell 0
  have y1 := hzf.cell 1
  have y2 := hzf.cell 2
  have y3 := hzf.cell 3
  simp only [List.getElem?_toArray, List.getElem?_cons_zero, List.getElem?_cons_succ] at y0 y1 y2 y3
  refine bodyPost_ret (v := .tuple #[.int .i64 err, .string line, .agg #[(.int .i64 0), (.string ⟨#[]⟩), (.slice none 0 0), (.string ⟨#[]⟩)]]) ?_ rfl ⟨none, 0, rfl, tmv_zero _ _, HV3.out.one HB6.out (by omega) (by decide) (by decide) kz, kf⟩
  clear hzf kz kf
  generalize ((((w3.setCell ⟨w1.heap.size + 1, 0, none⟩ (.int .i64 0)).setCell ⟨w1.heap.size + 1, 1, none⟩ (.string ⟨#[]⟩)).setCell ⟨w1.heap.size + 1, 2, none⟩ (.slice none 0 0)).setCell ⟨w1.heap.size + 1, 3, none⟩ (.string ⟨#[]⟩)).drew = wf at y0 y1 y2 y3
  simp [results, Tryz.results39, go_sem, y0, y1, y2, y3]
set_option maxRecDepth 100000 in
set_option maxHeartbeats 1000000 in
theorem f83_show (h : V w top w1 b c X) (htop : top ≤ w1.heap.size) (hk : o.kind % 8 = 6) (hk0 : 0 ≤ o.kind) (hk1 : o.kind ≤ 255) (hcut : o.cut = o) (hw : o.who.size ≤ 100) (ht : o.text.size ≤ 3000) (hc : c ≤ 1000000) {i : Nat} (hx : shwR X o.number o.epoch o.text = (X', err, i)) (hcc : c + i = c') :
    Calls Tryz.prog 39 #[.pointer (some ⟨b, 0, none⟩), .agg #[.int .u8 o.kind, .int .i64 o.number, .int .i64 o.epoch, .string o.who, .string o.text]] w1 (DoPost w top w1 b c' X' err es zeroT) := by
  have HB := Lib.hid (do_boxes o w1)
  have HV := Lib.hid h
  have e118 := fun w => f118_any o w (by omega) (by omega)
  rw [hcut] at e118
  unfold Opn.val at e118
  unfold Opn.cells at e118 HB
  have E118 := Lib.hid e118
  have HX := Lib.hid hx
  have HCC := Lib.hid hcc; clear hcc
  clear e118 hcut h hx
  go_enter Tryz.func39, Tryz.ntmps39
  go_upto_region 2 with (go_at_call 69; ((refine (E118.out _).mono ?_); rintro e w2 ⟨rfl, k2⟩; have hb := HB.out.1.kpt k2 (fun e => e); have hb6 := HB.out.2.1.kpt k2 (fun e => e); have g0 := hb.frozen 0; have g1 := hb.frozen 1; have g2 := hb.frozen 2; have g3 := hb.frozen 3; have g4 := hb.frozen 4; have q0 := hb.cell 0; have q1 := hb.cell 1; have q2 := hb.cell 2; have q3 := hb.cell 3; have q4 := hb.cell 4; simp only [List.getElem?_toArray, List.getElem?_cons_zero, List.getElem?_cons_succ] at q0 q1 q2 q3 q4; have HBb := Lib.hid hb; have HB6 := Lib.hid hb6; have K2 := Lib.hid (Kpt.trans HB.out.2.2 k2 (fun _ e _ => e)); clear hb hb6 k2))
  have hm : DoMid w1 o (((((w2.setCell ⟨w1.heap.size, 0, none⟩ (.int .u8 o.kind)).setCell ⟨w1.heap.size, 1, none⟩ (.int .i64 o.number)).setCell ⟨w1.heap.size, 2, none⟩ (.int .i64 o.epoch)).setCell ⟨w1.heap.size, 3, none⟩ (.string o.who)).setCell ⟨w1.heap.size, 4, none⟩ (.string o.text)) :=
    ⟨HBb.out.same5, HB6.out.kpt (Kpt.set5 (Kpt.refl (One w1.heap.size) w2) (fun _ => rfl) _ _ _ _ _) (fun e => by have e' : w1.heap.size + 1 = w1.heap.size := e; omega), Kpt.set5 K2.out (fun h => absurd h (Nat.lt_irrefl _)) _ _ _ _ _⟩
  generalize (((((w2.setCell ⟨w1.heap.size, 0, none⟩ (.int .u8 o.kind)).setCell ⟨w1.heap.size, 1, none⟩ (.int .i64 o.number)).setCell ⟨w1.heap.size, 2, none⟩ (.int .i64 o.epoch)).setCell ⟨w1.heap.size, 3, none⟩ (.string o.who)).setCell ⟨w1.heap.size, 4, none⟩ (.string o.text)) = wc at hm ⊢
  clear q0 q1 q2 q3 q4 g0 g1 g2 g3 g4 HBb HB6 K2
  have q0 := hm.1.cell 0
  have q1 := hm.1.cell 1
  have q2 := hm.1.cell 2
  have q3 := hm.1.cell 3
  have q4 := hm.1.cell 4
  simp only [List.getElem?_toArray, List.getElem?_cons_zero, List.getElem?_cons_succ] at q0 q1 q2 q3 q4
  have HV2 := Lib.hid (HV.out.non hm.2.2)
  have HM := Lib.hid hm; clear hm HV
  go_wp2_with fail
  refine (V.show HV2.out o.text HX.out HCC.out hc).mono ?_
  rintro e w3 ⟨rfl, hv3, k3⟩
  have hb6 := HM.out.2.1.kpt k3 (fun e => by have e1 := e.1; have e2 := e.2; omega)
  have z0 := hb6.cell 0
  have z1 := hb6.cell 1
  have z2 := hb6.cell 2
  have z3 := hb6.cell 3
  have f0 := hb6.frozen 0
  have f1 := hb6.frozen 1
  have f2 := hb6.frozen 2
  have f3 := hb6.frozen 3
  simp only [List.getElem?_toArray, List.getElem?_cons_zero, List.getElem?_cons_succ] at z0 z1 z2 z3
  have HB6 := Lib.hid hb6; have HV3 := Lib.hid hv3; have K3 := Lib.hid k3; clear hb6 hv3 k3 q0 q1 q2 q3 q4
  go_wp2_with fail
  go_region
  go_wp2_with fail
  have hzf := (HB6.out.set4 (.int .i64 0) (.string ⟨#[]⟩) (.slice none 0 0) (.string ⟨#[]⟩)).drew
  have kz : Kpt (One (w1.heap.size + 1)) w3 ((((w3.setCell ⟨w1.heap.size + 1, 0, none⟩ (.int .i64 0)).setCell ⟨w1.heap.size + 1, 1, none⟩ (.string ⟨#[]⟩)).setCell ⟨w1.heap.size + 1, 2, none⟩ (.slice none 0 0)).setCell ⟨w1.heap.size + 1, 3, none⟩ (.string ⟨#[]⟩)).drew := Kpt.drew (Kpt.set4 (Kpt.refl (One (w1.heap.size + 1)) w3) (fun _ => rfl) _ _ _ _)
  have kf : Kpt (Btw w top) w1 ((((w3.setCell ⟨w1.heap.size + 1, 0, none⟩ (.int .i64 0)).setCell ⟨w1.heap.size + 1, 1, none⟩ (.string ⟨#[]⟩)).setCell ⟨w1.heap.size + 1, 2, none⟩ (.slice none 0 0)).setCell ⟨w1.heap.size + 1, 3, none⟩ (.string ⟨#[]⟩)).drew := Kpt.trans (Kpt.trans HM.out.2.2.up K3.out (fun _ e _ => e)) kz (fun i e hlt => by have e' : i = w1.heap.size + 1 := e; omega)
  have y0 := hzf.cell 0
  have y1 := hzf.cell 1
  have y2 := hzf.cell 2
  have y3 := hzf.cell 3
  simp only [List.getElem?_toArray, List.getElem?_cons_zero, List.getElem?_cons_succ] at y0 y1 y2 y3
  refine bodyPost_ret (v := .tuple #[.int .i64 err, .string ⟨#[]⟩, .agg #[(.int .i64 0), (.string ⟨#[]⟩), (.slice none 0 0), (.string ⟨#[]⟩)]]) ?_ rfl ⟨none, 0, rfl, tmv_zero _ _, HV3.out.one HB6.out (by omega) (by decide) (by decide) kz, kf⟩
  clear hzf kz kf
  generalize ((((w3.setCell ⟨w1.heap.size + 1, 0, none⟩ (.int .i64 0)).setCell ⟨w1.heap.size + 1, 1, none⟩ (.string ⟨#[]⟩)).setCell ⟨w1.heap.size + 1, 2, none⟩ (.slice none 0 0)).setCell ⟨w1.heap.size + 1, 3, none⟩ (.string ⟨#[]⟩)).drew = wf at y0 y1 y2 y3
  simp [results, Tryz.results39, go_sem, y0, y1, y2, y3]
set_option maxRecDepth 100000 in
set_option maxHeartbeats 1000000 in
theorem f83_get (h : V w top w1 b c X) (htop : top ≤ w1.heap.size) (hk : o.kind % 8 = 7) (hk0 : 0 ≤ o.kind) (hk1 : o.kind ≤ 255) (hcut : o.cut = o) (hw : o.who.size ≤ 100) (ht : o.text.size ≤ 3000)  {t : Tm} (hx : getR X o.number o.epoch = (t, err)) :
    Calls Tryz.prog 39 #[.pointer (some ⟨b, 0, none⟩), .agg #[.int .u8 o.kind, .int .i64 o.number, .int .i64 o.epoch, .string o.who, .string o.text]] w1 (DoPost w top w1 b c X err es t) := by
  have HB := Lib.hid (do_boxes o w1)
  have HV := Lib.hid h
  have e118 := fun w => f118_any o w (by omega) (by omega)
  rw [hcut] at e118
  unfold Opn.val at e118
  unfold Opn.cells at e118 HB
  have E118 := Lib.hid e118
  have HX := Lib.hid hx
  clear e118 hcut h hx
  go_enter Tryz.func39, Tryz.ntmps39
  go_upto_region 2 with (go_at_call 69; ((refine (E118.out _).mono ?_); rintro e w2 ⟨rfl, k2⟩; have hb := HB.out.1.kpt k2 (fun e => e); have hb6 := HB.out.2.1.kpt k2 (fun e => e); have g0 := hb.frozen 0; have g1 := hb.frozen 1; have g2 := hb.frozen 2; have g3 := hb.frozen 3; have g4 := hb.frozen 4; have q0 := hb.cell 0; have q1 := hb.cell 1; have q2 := hb.cell 2; have q3 := hb.cell 3; have q4 := hb.cell 4; simp only [List.getElem?_toArray, List.getElem?_cons_zero, List.getElem?_cons_succ] at q0 q1 q2 q3 q4; have HBb := Lib.hid hb; have HB6 := Lib.hid hb6; have K2 := Lib.hid (Kpt.trans HB.out.2.2 k2 (fun _ e _ => e)); clear hb hb6 k2))
  have hm : DoMid w1 o (((((w2.setCell ⟨w1.heap.size, 0, none⟩ (.int .u8 o.kind)).setCell ⟨w1.heap.size, 1, none⟩ (.int .i64 o.number)).setCell ⟨w1.heap.size, 2, none⟩ (.int .i64 o.epoch)).setCell ⟨w1.heap.size, 3, none⟩ (.string o.who)).setCell ⟨w1.heap.size, 4, none⟩ (.string o.text)) :=
    ⟨HBb.out.same5, HB6.out.kpt (Kpt.set5 (Kpt.refl (One w1.heap.size) w2) (fun _ => rfl) _ _ _ _ _) (fun e => by have e' : w1.heap.size + 1 = w1.heap.size := e; omega), Kpt.set5 K2.out (fun h => absurd h (Nat.lt_irrefl _)) _ _ _ _ _⟩
  generalize (((((w2.setCell ⟨w1.heap.size, 0, none⟩ (.int .u8 o.kind)).setCell ⟨w1.heap.size, 1, none⟩ (.int .i64 o.number)).setCell ⟨w1.heap.size, 2, none⟩ (.int .i64 o.epoch)).setCell ⟨w1.heap.size, 3, none⟩ (.string o.who)).setCell ⟨w1.heap.size, 4, none⟩ (.string o.text)) = wc at hm ⊢
  clear q0 q1 q2 q3 q4 g0 g1 g2 g3 g4 HBb HB6 K2
  have q0 := hm.1.cell 0
  have q1 := hm.1.cell 1
  have q2 := hm.1.cell 2
  have q3 := hm.1.cell 3
  have q4 := hm.1.cell 4
  simp only [List.getElem?_toArray, List.getElem?_cons_zero, List.getElem?_cons_succ] at q0 q1 q2 q3 q4
  have HV2 := Lib.hid (HV.out.non hm.2.2)
  have HM := Lib.hid hm; clear hm HV
  go_wp2_with fail
  refine (V.getTm HV2.out HX.out).mono ?_
  rintro e w4 ⟨A, cp, rfl, hca, hcb, hrd, hv4, k4⟩
  have hb4 := HM.out.2.1.kpt k4 (fun e => by have e1 := e.1; have e2 := e.2; omega)
  have z0 := hb4.cell 0
  have z1 := hb4.cell 1
  have z2 := hb4.cell 2
  have z3 := hb4.cell 3
  have f0 := hb4.frozen 0
  have f1 := hb4.frozen 1
  have f2 := hb4.frozen 2
  have f3 := hb4.frozen 3
  simp only [List.getElem?_toArray, List.getElem?_cons_zero, List.getElem?_cons_succ] at z0 z1 z2 z3
  have HB4 := Lib.hid hb4; have HV4 := Lib.hid hv4; have K4 := Lib.hid k4; have HR4 := Lib.hid hrd; clear hb4 hv4 k4 hrd q0 q1 q2 q3 q4
  go_wp2_with fail
  have hb6 := HB4.out.set4 (.int .i64 t.epoch) (.string t.session) (.slice A t.typed.length cp) (.string t.screen)
  have kx : Kpt (One (w1.heap.size + 1)) w4 ((((w4.setCell ⟨w1.heap.size + 1, 0, none⟩ (.int .i64 t.epoch)).setCell ⟨w1.heap.size + 1, 1, none⟩ (.string t.session)).setCell ⟨w1.heap.size + 1, 2, none⟩ (.slice A t.typed.length cp)).setCell ⟨w1.heap.size + 1, 3, none⟩ (.string t.screen)) := Kpt.set4 (Kpt.refl (One (w1.heap.size + 1)) w4) (fun _ => rfl) _ _ _ _
  generalize ((((w4.setCell ⟨w1.heap.size + 1, 0, none⟩ (.int .i64 t.epoch)).setCell ⟨w1.heap.size + 1, 1, none⟩ (.string t.session)).setCell ⟨w1.heap.size + 1, 2, none⟩ (.slice A t.typed.length cp)).setCell ⟨w1.heap.size + 1, 3, none⟩ (.string t.screen)) = w3 at hb6 kx ⊢
  have hv3 := HV4.out.one HB4.out (by omega) (by decide) (by decide) kx
  have k3 : Kpt (fun i => Btw w top i ∨ i = w1.heap.size + 1) wc w3 := Kpt.trans (K4.out.mono (fun i e => Or.inl e)) kx (fun i e _ => Or.inr e)
  have HRd := Lib.hid (HR4.out.kpt kx (fun i h e => by have h1 : wc.heap.size ≤ i := h; have e1 : i = w1.heap.size + 1 := e; have := HM.out.2.1.lt; omega))
  clear z0 z1 z2 z3 f0 f1 f2 f3 kx
  have z0 := hb6.cell 0
  have z1 := hb6.cell 1
  have z2 := hb6.cell 2
  have z3 := hb6.cell 3
  have f0 := hb6.frozen 0
  have f1 := hb6.frozen 1
  have f2 := hb6.frozen 2
  have f3 := hb6.frozen 3
  simp only [List.getElem?_toArray, List.getElem?_cons_zero, List.getElem?_cons_succ] at z0 z1 z2 z3
  have HB6 := Lib.hid hb6; have HV3 := Lib.hid hv3; have K3 := Lib.hid k3; clear hb6 hv3 k3
  go_wp2_with fail
  go_region
  go_wp2_with fail
  have hzf := (HB6.out.set4 (.int .i64 t.epoch) (.string t.session) (.slice A t.typed.length cp) (.string t.screen)).drew
  have kz : Kpt (One (w1.heap.size + 1)) w3 ((((w3.setCell ⟨w1.heap.size + 1, 0, none⟩ (.int .i64 t.epoch)).setCell ⟨w1.heap.size + 1, 1, none⟩ (.string t.session)).setCell ⟨w1.heap.size + 1, 2, none⟩ (.slice A t.typed.length cp)).setCell ⟨w1.heap.size + 1, 3, none⟩ (.string t.screen)).drew := Kpt.drew (Kpt.set4 (Kpt.refl (One (w1.heap.size + 1)) w3) (fun _ => rfl) _ _ _ _)
  have kf : Kpt (Btw w top) w1 ((((w3.setCell ⟨w1.heap.size + 1, 0, none⟩ (.int .i64 t.epoch)).setCell ⟨w1.heap.size + 1, 1, none⟩ (.string t.session)).setCell ⟨w1.heap.size + 1, 2, none⟩ (.slice A t.typed.length cp)).setCell ⟨w1.heap.size + 1, 3, none⟩ (.string t.screen)).drew := Kpt.trans (Kpt.trans HM.out.2.2.up K3.out (fun i e hlt => by rcases e with e | e; exact e; omega)) kz (fun i e hlt => by have e' : i = w1.heap.size + 1 := e; omega)
  have y0 := hzf.cell 0
  have y1 := hzf.cell 1
  have y2 := hzf.cell 2
  have y3 := hzf.cell 3
  simp only [List.getElem?_toArray, List.getElem?_cons_zero, List.getElem?_cons_succ] at y0 y1 y2 y3
  refine bodyPost_ret (v := .tuple #[.int .i64 err, .string ⟨#[]⟩, .agg #[(.int .i64 t.epoch), (.string t.session), (.slice A t.typed.length cp), (.string t.screen)]]) ?_ rfl ⟨A, cp, rfl, ⟨A, cp, rfl, hca, hcb, (HRd.out.kpt kz (fun i h e => by have h1 : wc.heap.size ≤ i := h; have e1 : i = w1.heap.size + 1 := e; have := HM.out.2.1.lt; omega)).more (fun i h => by have h1 : wc.heap.size ≤ i := h; have := HM.out.2.2.size; omega)⟩, HV3.out.one HB6.out (by omega) (by decide) (by decide) kz, kf⟩
  clear hzf kz kf
  generalize ((((w3.setCell ⟨w1.heap.size + 1, 0, none⟩ (.int .i64 t.epoch)).setCell ⟨w1.heap.size + 1, 1, none⟩ (.string t.session)).setCell ⟨w1.heap.size + 1, 2, none⟩ (.slice A t.typed.length cp)).setCell ⟨w1.heap.size + 1, 3, none⟩ (.string t.screen)).drew = wf at y0 y1 y2 y3
  simp [results, Tryz.results39, go_sem, y0, y1, y2, y3]
end
end Go.Proofs.YtkpmabknjdgkmaaGreatDoor
