/- The law TerminalLines: its walk, and what it computes. No condition but that each text's size fits the machine. -/
import Derived.Test.YtkpmabknjdgkmaaGreatDoorLaw4
import Derived.Deep.Upon
import Derived.Deep.DeepCutAuto
namespace Go.Proofs.YtkpmabknjdgkmaaGreatDoor
open Go.RowKit

/-- A view is left as it is by what happens in a row of strings of the law's own. -/
theorem IsView.own1 {K : Nm → Prop} {bs : Nat} {w w' : World} {sa : Addr} {b r n : Nat} {m : VwM} {base cnt : Nat} {tv : Value} {xs : List Value} (h : IsView K bs w sa b r n m) (ho : w.ownsRow base 9 1 tv cnt xs) (hb : bs ≤ base) (k : Kpt (fun i => tv.ownBlock = some i) w w') : IsView K bs w' sa b r n m := by
  rcases ho.2 with ⟨rfl, _⟩ | ⟨g, cap, cur, rfl, hg, hh, _⟩
  · exact h.non ⟨k.os, k.tape, k.output, k.size, fun i hi _ => k.block i hi (fun e => by simp [Value.ownBlock] at e)⟩
  · exact h.two (p := g) (p' := g) hh hh (by omega) (by omega) (by decide) (by decide) (by decide) (by decide) (k.mono (fun i e => .inl (by
      have : g = i := by simpa [Value.ownBlock] using e
      exact this.symm)))
theorem V.own1 {w w1 w2 : World} {top b c base cnt : Nat} {X : Ts} {tv : Value} {xs : List Value} (h : V w top w1 b c X) (ho : w1.ownsRow base 9 1 tv cnt xs) (hb : top ≤ base) (hw : w.heap.size ≤ base) (k : Kpt (fun i => tv.ownBlock = some i) w1 w2) : V w top w2 b c X := by
  obtain ⟨bs, sa, r, n, ⟨m, hv, hs, hc⟩, h1, h2, h3, k0⟩ := h
  have hbs := hv.hb
  exact ⟨bs, sa, r, n, ⟨m, hv.own1 ho (by omega) k, hs, hc⟩, h1, h2, h3, Kpt.trans k0 k (fun i e hlt => by have := (ho.lt i e).1; omega)⟩

def s3 : ByteArray := ⟨#[51]⟩
def s32 : ByteArray := ⟨#[51, 46, 50]⟩
theorem v3 : validB (bytesOf s3) = true ∧ s3.size ≠ 0 := by decide +kernel
theorem w32 : withinB (bytesOf s32) (bytesOf s3) = true := by decide +kernel

abbrev X0L : Ts := fun _ => none
/-- How the law stands: T has been typed, G has been read, the terminal holds the rest. -/
def LSt (w : World) (top b kt kc : Nat) (tv gv : Value) (wr : World) : Prop :=
  ∃ (T G ls : List ByteArray) (sc : ByteArray) (c : Nat) (X : Ts), Hid (V w top wr b c X) ∧ c ≤ kc ∧ X 1 = some ⟨0, s3, ls, sc⟩ ∧ ls.length ≤ 16 ∧ T = G ++ ls ∧ T.length ≤ kt ∧
    Hid (wr.ownsRow top 9 1 tv T.length (T.map Value.string)) ∧ Hid (wr.ownsRow top 9 1 gv G.length (G.map Value.string)) ∧ Hid (∀ g, tv.ownBlock = some g → gv.ownBlock ≠ some g) ∧ top ≤ wr.heap.size

/-- What Type makes of a terminal of the law. -/
theorem lines_type {X : Ts} {ls : List ByteArray} {sc : ByteArray} (x : ByteArray) (hX : X 1 = some ⟨0, s3, ls, sc⟩) (hl : ls.length ≤ 16) :
    ∃ X1 err ls1 sc1, opR X 1 0 (typedT x) = (X1, err) ∧ X1 1 = some ⟨0, s3, ls1, sc1⟩ ∧ ls1.length ≤ 16 ∧ ((err = 0 ∧ ls1 = ls ++ [x]) ∨ (err ≠ 0 ∧ ls1 = ls)) := by
  have hin : inT (X 1) 0 = ⟨0, s3, ls, sc⟩ := by rw [hX]; rfl
  by_cases h1 : lineErr x = 0
  · by_cases h2 : 16 ≤ ls.length
    · exact ⟨X, 9, ls, sc, opR_err (t' := ⟨0, s3, ls, sc⟩) (by omega) (by omega) hin (by unfold typedT; rw [if_pos h1, if_neg v3.2, if_pos h2]) (by decide), hX, hl, .inr ⟨by decide, rfl⟩⟩
    · exact ⟨_, 0, ls ++ [x], _, opR_ok (by omega) (by omega) hin (by unfold typedT; rw [if_pos h1, if_neg v3.2, if_neg h2]; rfl), Ts.put_same _ _ _, by simp; omega, .inl ⟨rfl, rfl⟩⟩
  · exact ⟨X, lineErr x, ls, sc, opR_err (t' := ⟨0, s3, ls, sc⟩) (by omega) (by omega) hin (by unfold typedT; rw [if_neg h1]) h1, hX, hl, .inr ⟨h1, rfl⟩⟩
/-- What ReadLine makes of it. -/
theorem lines_read {X : Ts} {ls : List ByteArray} {sc : ByteArray} (hX : X 1 = some ⟨0, s3, ls, sc⟩) :
    ∃ X1 err line, opR X 1 0 (readT s32) = (X1, err) ∧ lineR X 1 0 s32 = line ∧ ((err = 19 ∧ X1 = X) ∨ (err = 0 ∧ ∃ l, ls = line :: l ∧ X1 1 = some ⟨0, s3, l, sc⟩)) := by
  have hin : inT (X 1) 0 = ⟨0, s3, ls, sc⟩ := by rw [hX]; rfl
  have hl : lineR X 1 0 s32 = readL s32 ⟨0, s3, ls, sc⟩ := by
    unfold lineR
    rw [if_pos (by omega), hin]
  cases ls with
  | nil => exact ⟨X, 19, _, opR_err (t' := ⟨0, s3, [], sc⟩) (by omega) (by omega) hin (by unfold readT; rw [if_pos ⟨v3.2, w32⟩]) (by decide), rfl, .inl ⟨rfl, rfl⟩⟩
  | cons a l => exact ⟨X.put 1 ⟨0, s3, l, sc⟩, 0, a, opR_ok (by omega) (by omega) hin (by unfold readT; rw [if_pos ⟨v3.2, w32⟩]), by rw [hl]; unfold readL; rw [if_pos ⟨v3.2, w32⟩]; rfl, .inr ⟨rfl, l, rfl, Ts.put_same _ _ _⟩⟩

/-- Nothing is appended. -/
theorem wpList_append_none {P : Program} {ops : Array Oper} {rest : List Oper} {o : Oper} {a : Act} {w : World} {Q : Exit → Act → World → Prop} (hgd : o.guard = none) (s x : Operand) (t : TypeId)
    (ho : o.op = .call { callee := .builtin .append, args := #[s, x], argTypes := #[t, t] }) (e : TypeId) (i : TypeInfo) (ht : P.underlying t = some (.slice e)) (hi : P.info? e = some i)
    (A : Option Addr) (n c : Nat) (hle : n ≤ c) (hs : a.eval s = .slice A n c) (c' : Nat) (hx : a.eval x = .slice none 0 c') (h : wpList P ops Q rest (a.put o.dst (.slice A n c)) w) : wpList P ops Q (o :: rest) a w := by
  refine wpList_plain hgd fun K hK => ?_
  have hr := run_append_nothing w t t o.type e i ht hi A n c hle (.slice none 0 c') (Src.ofNil w ht c')
  unfold Oper.wp execOp
  simp only [ho, resolve, invoke, builtin, Sem.run_bind, Sem.run_pure, Result.andThen_ok, List.map_toArray, List.map_cons, List.map_nil, hs, hx, hr]
  exact hK _ _ h

/-- An append to one of the two rows. -/
theorem own_other {w w' : World} {base cnt : Nat} {tv gv : Value} {xs : List Value} {o : Obj} (h : w.ownsRow base 9 1 gv cnt xs) (hg : (w.alloc o).grownBy w' tv.ownBlock) (hne : ∀ g, tv.ownBlock = some g → gv.ownBlock ≠ some g) : w'.ownsRow base 9 1 gv cnt xs :=
  own_kpt h (S := fun i => tv.ownBlock = some i) (Kpt.trans (Kpt.alloc (Kpt.refl (fun i => tv.ownBlock = some i) w) o) (Kpt.grown (Kpt.refl (fun i => tv.ownBlock = some i) _) hg (fun _ e _ => e)) (fun _ h _ => h)) (fun g hg' e => hne g e hg')

theorem own_btw {w w1 w2 : World} {top cnt : Nat} {v : Value} {xs : List Value} (h : w1.ownsRow top 9 1 v cnt xs) (k : Kpt (Btw w top) w1 w2) : w2.ownsRow top 9 1 v cnt xs :=
  own_kpt h k (fun g hg e => by have := (h.lt g hg).1; have := e.2; omega)
theorem own_alloc_ne {w : World} {base cnt : Nat} {gv v' tv : Value} {xs : List Value} (h : w.ownsRow base 9 1 gv cnt xs) (o : Obj) (hat : v'.ownBlock = tv.ownBlock ∨ v'.ownBlock = some (w.alloc o).heap.size) (hne : ∀ g, tv.ownBlock = some g → gv.ownBlock ≠ some g) : ∀ g, v'.ownBlock = some g → gv.ownBlock ≠ some g := by
  intro g hg e
  rcases hat with h1 | h1
  · exact hne g (h1 ▸ hg) e
  · rw [h1] at hg
    have hg' : (w.alloc o).heap.size = g := by injection hg
    have := (h.lt g e).2
    simp at hg'
    omega

theorem LSt.mono {w wr : World} {top b kt kt' kc kc' : Nat} {tv gv : Value} (h : LSt w top b kt kc tv gv wr) (h1 : kt ≤ kt') (h2 : kc ≤ kc') : LSt w top b kt' kc' tv gv wr := by
  obtain ⟨T, G, ls, sc, c, X, HV, hc, hX, hls, hT, hTl, r⟩ := h
  exact ⟨T, G, ls, sc, c, X, HV, by omega, hX, hls, hT, by omega, r⟩
theorem lines_begin : opR X0L 1 0 (beginT s3) = (X0L.put 1 ⟨0, s3, [], es⟩, 0) :=
  opR_ok (t := emptyT 0) (by omega) (by omega) rfl (by unfold beginT; rw [if_pos v3, if_neg (by simp [emptyT, size_es])]; rfl)

set_option maxRecDepth 100000 in
/-- Too many texts: the answer is known's. -/
theorem f3_many (A B : Option Addr) (n cn m cm : Nat) (w : World) (h40 : (40 : Int) < (n : Int)) :
    Calls Tryz.prog 3 #[.slice A n cn, .slice B m cm] w fun e w' => e = .returned (.bool true) ∧ Kpt Non w w' := by
  go_enter Tryz.func3, Tryz.ntmps3
  go_wp2_with fail
  refine (f24_any _).mono ?_
  rintro e w1 ⟨rfl, k1⟩
  have K1 := Lib.hid k1; clear k1
  go_wp2_with fail
  refine (f24_any _).mono ?_
  rintro e w2 ⟨rfl, k2⟩
  have K2 := Lib.hid k2; clear k2
  go_wp2_with fail
  go_ret
  exact ⟨rfl, Kpt.trans K1.out K2.out (fun _ e _ => e)⟩

set_option maxRecDepth 100000 in
set_option maxHeartbeats 4000000 in
theorem f3_few (A B : Option Addr) (n cn m cm : Nat) (lines : List ByteArray) (rs : List Bool) (w : World) (hl : Rd w (fun i => i < w.heap.size) 1 A n (lines.map Value.string)) (hr : Rd w (fun i => i < w.heap.size) 1 B m (rs.map Value.bool))
    (hs : ∀ s ∈ lines, s.size ≤ 140737488351232) (h40 : ¬ (40 : Int) < (n : Int)) :
    Calls Tryz.prog 3 #[.slice A n cn, .slice B m cm] w fun e w' => e = .returned (.bool true) ∧ Kpt Non w w' := by
  obtain ⟨i0, hi, hz, hz0, hz1⟩ := info_parts info9
  have HI := Lib.hid hi; have HZ := Lib.hid hz; have HZ0 := Lib.hid hz0; have HZ1 := Lib.hid hz1; clear hi hz hz0 hz1
  have HL := Lib.hid hl; have HR := Lib.hid hr; have HS := Lib.hid hs; clear hl hr hs
  go_enter Tryz.func3, Tryz.ntmps3
  go_wp2_with fail
  refine (f24_any _).mono ?_
  rintro e w1 ⟨rfl, k1⟩
  have K1 := Lib.hid k1; clear k1
  have hs1 := K1.out.size
  go_wp2_with fail
  refine (f26_any _).mono ?_
  rintro e w2 ⟨rfl, rfl⟩
  go_wp2_with fail
  refine (V.new w1).mono ?_
  rintro e w2 ⟨b, rfl, hv⟩
  have htop : w1.heap.size ≤ w2.heap.size := hv.kpt.size
  obtain ⟨top, ht⟩ : ∃ top, w2.heap.size = top := ⟨_, rfl⟩
  rw [ht] at hv htop
  have HT := Lib.hid ht; clear ht
  have HV := Lib.hid hv; clear hv
  go_wp2_with fail
  refine (V.begin (c' := 1) HV.out s3 lines_begin rfl (by decide) (by decide)).mono ?_
  rintro e w3 ⟨rfl, hv, k3⟩
  have hs3 : top ≤ w3.heap.size := by rw [← HT.out]; exact k3.size
  have HV := Lib.hid hv; clear hv k3
  go_wp2_with fail
  go_loopw [6, 7, 8] (fun x6 x7 xi wr => ∃ (k : Nat) (tv gv : Value), tv = x6 ∧ gv = x7 ∧ xi = .int .i64 k ∧ k ≤ n ∧ LSt w1 top b k (2 * k + 1) tv gv wr) (fun _ _ xi _ => n - (intOf xi).toNat)
  case atStart =>
    exact ⟨0, _, _, rfl, rfl, rfl, Nat.zero_le _, [], [], [], es, 1, _, HV, by omega, Ts.put_same _ _ _, by simp, rfl, by simp, Lib.hid (World.ownsRow_nil _ _ _ _), Lib.hid (World.ownsRow_nil _ _ _ _), Lib.hid (by simp [Value.ownBlock]), hs3⟩
  case round =>
    obtain ⟨k, tv, gv, rfl, rfl, rfl, hk, T, G, ls, sc, c, X, HV, hc, hX, hls, rfl, hTl, HTo, HGo, HNe, hsz⟩ := hrel
    have hkr : Kpt Non w wr := Kpt.trans K1.out HV.out.kpt (fun _ e _ => e)
    by_cases h1 : k < n
    · have h1' : (k : Int) < (n : Int) := by omega
      obtain ⟨ad, u, rfl, had, hu, hcell⟩ := (HL.out.kpt hkr (fun _ _ e => e)).at_ h1
      rw [List.getElem?_map] at hu
      obtain ⟨s, hs, rfl⟩ := Option.map_eq_some_iff.1 hu
      clear hu hkr
      have hm := HS.out s (List.mem_of_getElem? hs)
      clear hs
      have hnb : ¬ Btw w1 top (ad.add k).block := by
        rw [block_add]
        intro e
        have h2 := e.1
        have h3 : ad.block < w.heap.size := had
        omega
      obtain ⟨X1, err, ls1, sc1, hx1, hX1, hl1, hcase⟩ := lines_type s hX hls
      have E28 := Lib.hid (V.type HV.out s hx1 rfl (by omega) hm)
      have HNB := Lib.hid hnb; clear hnb hx1
      go_upto_if 39 with (go_at_call 15; refine E28.out.mono ?_; rintro e w4 ⟨rfl, hv4, k4⟩)
      have hc4 := k4.cellv hcell HNB.out
      have HV4 := Lib.hid hv4; have K4 := Lib.hid k4; have HTo4 := Lib.hid (own_btw HTo.out k4); have HGo4 := Lib.hid (own_btw HGo.out k4)
      have hsz4 := k4.size
      clear hv4 k4
      go_cut [6] (fun x6 wc => ∃ tx, tx = x6 ∧ LSt w1 top b (k + 1) (2 * k + 2) tx gv wc)
      case first =>
        rcases hcase with ⟨rfl, rfl⟩ | ⟨herr, rfl⟩
        · go_wp2_with (refine wpList_append_own_at _ rfl _ _ 22 rfl top 9 i0 _ 1 16 Tryz.underlying22 HI.out HZ.out HZ0.out HZ1.out (by rfl) (by omega) tv _ _ rfl (HTo4.out.alloc _) ⟨w4.heap.size, 0, none⟩ 1 1 [.string s] rfl rfl (cell_one_new _ _ _) (by simp [Value.oneCell']) (by simp only [maxLen]; omega) (by omega) (by simp; omega) ?_; intro v' w5 ho hg _ hat; have HO5 := Lib.hid ho; have HG5 := Lib.hid hg; have HAt := Lib.hid hat; clear ho hg hat)
          go_meet
          refine ⟨v', rfl, (G ++ ls) ++ [s], G, ls ++ [s], sc1, c + 1, X1, Lib.hid ?_, by omega, hX1, hl1, by simp, by simp at hTl ⊢; omega, Lib.hid (by simpa [Nat.add_assoc] using HO5.out), Lib.hid (own_other HGo4.out HG5.out HNe.out), Lib.hid (own_alloc_ne HGo4.out _ HAt.out HNe.out), ?_⟩
          · exact V.own1 (V.non (show V w1 top w4 b (c + 1) X1 by simpa using HV4.out) (Kpt.alloc (Kpt.refl _ _) _)) (HTo4.out.alloc _) (Nat.le_refl _) htop (Kpt.grown (Kpt.refl _ _) HG5.out (fun _ e _ => e))
          · have := HG5.out.size
            simp at this
            omega
        · have herr' : (err == 0) = false := by rw [beq_eq_false_iff_ne]; exact herr
          have HErr := Lib.hid herr; clear herr
          go_wp2_with fail
          go_meet
          refine ⟨tv, rfl, G ++ ls1, G, ls1, sc1, c, X1, Lib.hid ?_, by omega, hX1, hl1, rfl, by omega, HTo4, HGo4, HNe, by omega⟩
          have := HV4.out
          rw [if_neg HErr.out] at this
          exact this
      case rest =>
        clear hcase hcell hc4 hX1 hl1 hX hls hTl hc HV HV4 HTo HTo4 HGo HGo4 HNe K4 E28 HNB
        obtain ⟨tx, rfl, T, G, ls, sc, c, X, HV, hc, hX, hls, rfl, hTl, HTo, HGo, HNe, hsz⟩ := hcut
        have hkr : Kpt Non w wc := Kpt.trans K1.out HV.out.kpt (fun _ e _ => e)
        by_cases h2 : k < m
        · have h2' : (k : Int) < (m : Int) := by omega
          obtain ⟨ad', u, rfl, had', hu, hcell'⟩ := (HR.out.kpt hkr (fun _ _ e => e)).at_ h2
          rw [List.getElem?_map] at hu
          obtain ⟨rb, hrb, rfl⟩ := Option.map_eq_some_iff.1 hu
          clear hu hkr hrb
          cases rb with
          | false =>
            go_wp2_with fail
            exact ⟨⟨k + 1, _, _, rfl, rfl, by go_num, by omega, _, _, _, _, _, _, HV, by omega, hX, hls, rfl, hTl, HTo, HGo, HNe, hsz⟩, by simp [intOf]; omega⟩
          | true =>
            obtain ⟨X2, err2, line, hx2, hl2, hcase2⟩ := lines_read hX
            have E29 := Lib.hid (V.read HV.out s32 hx2 hl2 rfl (by omega) (by decide)); clear hx2 hl2
            go_wp2_with fail
            refine E29.out.mono ?_
            rintro e w6 ⟨rfl, hv6, k6⟩
            have HV6 := Lib.hid hv6; have HTo6 := Lib.hid (own_btw HTo.out k6); have HGo6 := Lib.hid (own_btw HGo.out k6)
            have hsz6 := k6.size
            clear hv6 k6
            rcases hcase2 with ⟨rfl, rfl⟩ | ⟨rfl, l, rfl, hX2⟩
            · go_wp2_with fail
              exact ⟨⟨k + 1, _, _, rfl, rfl, by go_num, by omega, G ++ ls, G, ls, sc, c, X2, Lib.hid (by simpa using HV6.out), by omega, hX, hls, rfl, hTl, HTo6, HGo6, HNe, by omega⟩, by simp [intOf]; omega⟩
            · have hgl : G.length ≤ k + 1 := by simp at hTl; omega
              go_wp2_with (refine wpList_append_own_at _ rfl _ _ 22 rfl top 9 i0 _ 1 16 Tryz.underlying22 HI.out HZ.out HZ0.out HZ1.out (by rfl) (by omega) gv _ _ rfl (HGo6.out.alloc _) ⟨w6.heap.size, 0, none⟩ 1 1 [.string line] rfl rfl (cell_one_new _ _ _) (by simp [Value.oneCell']) (by simp only [maxLen]; omega) (by omega) (by simp; omega) ?_; intro v' w5 ho hg _ hat; have HO5 := Lib.hid ho; have HG5 := Lib.hid hg; have HAt := Lib.hid hat; clear ho hg hat)
              have hne' : ∀ g, gv.ownBlock = some g → tx.ownBlock ≠ some g := fun g hg e => HNe.out g e hg
              refine ⟨⟨k + 1, _, _, rfl, rfl, by go_num, by omega, G ++ line :: l, G ++ [line], l, sc, c + 1, X2, Lib.hid ?_, by omega, hX2, by simp at hls ⊢; omega, by simp, hTl, Lib.hid (own_other HTo6.out HG5.out hne'), Lib.hid (by simpa using HO5.out), Lib.hid ?_, ?_⟩, by simp [intOf]; omega⟩
              · exact V.own1 (V.non (show V w1 top w6 b (c + 1) X2 by simpa using HV6.out) (Kpt.alloc (Kpt.refl _ _) _)) (HGo6.out.alloc _) (Nat.le_refl _) htop (Kpt.grown (Kpt.refl _ _) HG5.out (fun _ e _ => e))
              · exact fun g hg e => own_alloc_ne HTo6.out _ HAt.out hne' g e hg
              · have := HG5.out.size
                simp at this
                omega
        · have h2' : ¬ (k : Int) < (m : Int) := by omega
          clear hkr
          go_wp2_with fail
          exact ⟨⟨k + 1, _, _, rfl, rfl, by go_num, by omega, _, _, _, _, _, _, HV, by omega, hX, hls, rfl, hTl, HTo, HGo, HNe, hsz⟩, by simp [intOf]; omega⟩
    · have h1' : ¬ (k : Int) < (n : Int) := by omega
      have hq : getR X 1 0 = (⟨0, s3, ls, sc⟩, 0) := by
        unfold getR
        rw [if_pos (by omega), hX]; rfl
      have E30 := Lib.hid (V.getTm HV.out hq); clear hq
      have h16 : ¬ (16 : Int) < (ls.length : Int) := by omega
      obtain ⟨T, hT⟩ : ∃ T, G ++ ls = T := ⟨_, rfl⟩
      have hto := HTo.out
      rw [hT] at hto
      have hT40 : T.length ≤ 40 := by rw [← hT]; omega
      have HTo := Lib.hid hto; have HTT := Lib.hid hT; clear hto hT
      obtain ⟨Ag, cg, rfl, hcg1, hcg2⟩ := own_slice HGo.out
      obtain ⟨At, ct, rfl, hct1, hct2⟩ := own_slice HTo.out
      clear hX hls hc hkr
      go_wp2_with fail
      refine E30.out.mono ?_
      rintro e w4 ⟨A', cp, rfl, hca, hcb, hrd, hv4, k4⟩
      have HTo4 := Lib.hid (own_btw HTo.out k4); have HGo4 := Lib.hid (own_btw HGo.out k4)
      have hsz4 := k4.size
      have kk4 : Kpt Non w w4 := Kpt.trans K1.out hv4.kpt (fun _ e _ => e)
      have KK4 := Lib.hid kk4; have HRd := Lib.hid hrd
      clear hv4 k4 kk4 hrd
      go_upto_region 19 with fail
      go_cut [7] (fun x7 wc => ∃ v', v' = x7 ∧ Hid (wc.ownsRow top 9 1 v' T.length (T.map Value.string)) ∧ Hid (wc.ownsRow top 9 1 (.slice At T.length ct) T.length (T.map Value.string)) ∧ Hid (Kpt Non w wc))
      case first =>
        cases A' with
        | none =>
          have hls0 : ls = [] := by
            cases ls with
            | nil => rfl
            | cons a l =>
              obtain ⟨ad, e, _⟩ := HRd.out.2 (by simp)
              cases e
          subst hls0
          go_wp2_with (refine wpList_append_none rfl _ _ 22 rfl 9 i0 Tryz.underlying22 HI.out Ag G.length cg hcg1 rfl cp rfl ?_)
          go_meet
          refine ⟨_, rfl, Lib.hid ?_, Lib.hid (HTo4.out.alloc _), Lib.hid (Kpt.alloc KK4.out _)⟩
          have := HGo4.out.alloc (.cells #[.int .i64 0, .string s3, .slice none 0 cp, .string sc] 36)
          rw [← HTT.out]
          simpa using this
        | some ad =>
          have hn5 := HRd.out.alloc (.cells #[.int .i64 0, .string s3, .slice (some ad) ls.length cp, .string sc] 36)
          have HN5 := Lib.hid hn5; clear hn5
          have hnews : ∀ j u, (ls.map Value.string)[j]? = some u → (w4.alloc (.cells #[.int .i64 0, .string s3, .slice (some ad) ls.length cp, .string sc] 36)).cell? (ad.add j) = some u := by
            intro j u hu
            have hj := (List.getElem?_eq_some_iff.1 hu).1
            simp at hj
            obtain ⟨ad', e, _, hc⟩ := HN5.out.2 (by omega)
            injection e with e
            subst e
            exact hc j u hu
          have HNews := Lib.hid hnews; clear hnews
          go_wp2_with (refine wpList_append_own_at _ rfl _ _ 22 rfl top 9 i0 _ 1 16 Tryz.underlying22 HI.out HZ.out HZ0.out HZ1.out (by rfl) (by omega) _ _ _ rfl (HGo4.out.alloc _) ad ls.length cp (ls.map Value.string) rfl (by simp) HNews.out (one_strs _) (by simp at hTl; simp only [maxLen]; omega) (by simp at hTl; omega) (by simp; omega) ?_; intro v' w5 ho hg _ hat; have HO5 := Lib.hid ho; have HG5 := Lib.hid hg; have HAt := Lib.hid hat; clear ho hg hat)
          go_meet
          refine ⟨_, rfl, Lib.hid (by rw [← HTT.out]; simpa using HO5.out), Lib.hid (own_other HTo4.out HG5.out (fun g hg e => HNe.out g e hg)), Lib.hid ?_⟩
          exact Kpt.trans (Kpt.alloc KK4.out _) (Kpt.grown (Kpt.refl (fun i => (Value.slice Ag G.length cg).ownBlock = some i) _) HG5.out (fun _ e _ => e)) (fun i e hlt => by have := (HGo4.out.lt i e).1; omega)
      case rest =>
        obtain ⟨v', rfl, HOv, HOt, HKw⟩ := hcut
        obtain ⟨Av, cv, rfl, hcv1, hcv2⟩ := own_slice HOv.out
        clear HV HTo HGo HNe E30
        go_wp2_with fail
        go_loopw [13] (fun xi wr => ∃ j : Nat, xi = .int .i64 j ∧ j ≤ T.length ∧ Hid (Kpt Non wc wr)) (fun xi _ => T.length - (intOf xi).toNat)
        case atStart => exact ⟨0, rfl, Nat.zero_le _, Lib.hid (Kpt.refl _ _)⟩
        case round =>
          obtain ⟨j, rfl, hj, HK⟩ := hrel
          by_cases hj1 : j < T.length
          · have hj1' : (j : Int) < (T.length : Int) := by omega
            obtain ⟨ad1, u1, rfl, _, hu1, hc1⟩ := (Rd.of_own (own_kpt HOv.out HK.out (fun _ _ e => e))).at_ hj1
            obtain ⟨ad2, u2, rfl, _, hu2, hc2⟩ := (Rd.of_own (own_kpt HOt.out HK.out (fun _ _ e => e))).at_ hj1
            rw [hu1] at hu2
            injection hu2 with hu2
            subst hu2
            rw [List.getElem?_map] at hu1
            obtain ⟨x, _, rfl⟩ := Option.map_eq_some_iff.1 hu1
            clear hu1
            have hc1d : wr.drew.cell? (ad1.add j) = some (.string x) := hc1
            have hc2d : wr.drew.cell? (ad2.add j) = some (.string x) := hc2
            go_wp2_with fail
            go_region_held3 (fun w' => w'.cell? (ad1.add j) = some (.string x) ∧ w'.cell? (ad2.add j) = some (.string x)) (first | exact ⟨hc1d, hc2d⟩ | exact ⟨hc1, hc2⟩) (first | fail)
            go_wp2_with fail
            exact ⟨⟨j + 1, by go_num, by omega, Lib.hid (Kpt.drewN HK.out _)⟩, by simp [intOf]; omega⟩
          · have hj1' : ¬ (j : Int) < (T.length : Int) := by omega
            go_wp2_with fail
            go_ret
            exact ⟨rfl, Kpt.trans HKw.out HK.out (fun _ e _ => e)⟩

theorem f3_any (A B : Option Addr) (n cn m cm : Nat) (lines : List ByteArray) (rs : List Bool) (w : World) (hl : Rd w (fun i => i < w.heap.size) 1 A n (lines.map Value.string)) (hr : Rd w (fun i => i < w.heap.size) 1 B m (rs.map Value.bool))
    (hs : ∀ s ∈ lines, s.size ≤ 140737488351232) :
    Calls Tryz.prog 3 #[.slice A n cn, .slice B m cm] w fun e w' => e = .returned (.bool true) ∧ Kpt Non w w' := by
  by_cases h : (40 : Int) < (n : Int)
  · exact f3_many A B n cn m cm w h
  · exact f3_few A B n cn m cm lines rs w hl hr hs h
end Go.Proofs.YtkpmabknjdgkmaaGreatDoor
