/- The walks of codec's Writer. -/
import Derived.Test.YtkpmabknjdgkmaaGreatDoorCodec1
import Derived.Test.YtkpmabknjdgkmaaGreatDoorOwn
namespace Go.Proofs.YtkpmabknjdgkmaaGreatDoor
open Go.RowKit

/-- A part: where it lies, its capacity, its bytes. -/
abbrev Part := Addr × Nat × List UInt8
def Part.val (p : Part) : Value := .slice (some p.1) p.2.2.length p.2.1

/-- A Writer at block b that has written l, and has no error. -/
structure Wr (base : Nat) (w : World) (b : Nat) (v : Value) (l : List UInt8) : Prop where
  blk : Blk w b 140 #[v, .int .i64 0]
  own : w.ownsRow base 5 1 v l.length (l.map byteV)

theorem take_snocP {ps : List Part} {k : Nat} {p : Part} (h : ps[k]? = some p) : ps.take (k + 1) = ps.take k ++ [p] := by
  rw [List.take_add_one, h]; rfl
theorem bflat (ps : List Part) (k : Nat) (p : Part) (h : ps[k]? = some p) : (ps.take (k + 1)).flatMap (·.2.2) = (ps.take k).flatMap (·.2.2) ++ p.2.2 := by
  rw [take_snocP h, List.flatMap_append]
  simp

theorem flen_take (ps : List Part) (k : Nat) : ((ps.take k).flatMap (·.2.2)).length ≤ (ps.flatMap (·.2.2)).length := by
  conv => rhs; rw [← List.take_append_drop k ps, List.flatMap_append, List.length_append]
  omega
theorem flen_take1 (ps : List Part) (k : Nat) (p : Part) (h : ps[k]? = some p) : ((ps.take k).flatMap (·.2.2)).length + p.2.2.length ≤ (ps.flatMap (·.2.2)).length := by
  have := flen_take ps (k + 1)
  rw [bflat ps k p h, List.length_append] at this
  exact this

set_option maxRecDepth 100000 in
set_option maxHeartbeats 1000000 in
theorem f166_any (base b g : Nat) (v : Value) (l : List UInt8) (ps : List Part) (D : Nat → Prop) (w : World) (hw : Wr base w b v l) (hbase : base ≤ w.heap.size) (hg : Blk w g 81 (ps.map Part.val).toArray)
    (hp : ∀ p ∈ ps, Rd w D 1 (some p.1) p.2.2.length (p.2.2.map byteV)) (hD : ∀ i, D i → i < w.heap.size ∧ i ≠ b ∧ v.ownBlock ≠ some i) (hlen : l.length + (ps.flatMap (·.2.2)).length ≤ 1099511627776) (hk : ps.length ≤ 1000) :
    Calls Tryz.prog 82 #[.pointer (some ⟨b, 0, none⟩), .int .i64 0, .slice (some ⟨g, 0, none⟩) ps.length ps.length] w fun e w' => ∃ v', e = .returned (.tuple #[]) ∧ Wr base w' b v' (l ++ ps.flatMap (·.2.2)) ∧ (v'.ownBlock = v.ownBlock ∨ ∀ k, v'.ownBlock = some k → w.heap.size ≤ k) ∧ Kpt (fun i => i = b ∨ v.ownBlock = some i) w w' := by
  obtain ⟨i0, hi, hz, hz0, hz1⟩ := info_parts info5
  have HI := Lib.hid hi; have HZ := Lib.hid hz; have HZ0 := Lib.hid hz0; have HZ1 := Lib.hid hz1; clear hi hz hz0 hz1
  have b0 := hw.blk.cell 0
  have b1 := hw.blk.cell 1
  have fb0 := hw.blk.frozen 0
  have fb1 := hw.blk.frozen 1
  simp only [List.getElem?_toArray, List.getElem?_cons_zero, List.getElem?_cons_succ] at b0 b1
  have HW := Lib.hid hw; have HG := Lib.hid hg; have HP := Lib.hid hp; have HD := Lib.hid hD; clear hw hg hp hD
  go_enter Tryz.func82, Tryz.ntmps82
  go_wp2_with fail
  go_loopw [7, 25] (fun p i wr => ∃ (k : Nat) (v' : Value) (L : List UInt8), i = .int .i64 (k : Int) ∧ k ≤ ps.length ∧ Hid (L = l ++ (ps.take k).flatMap (·.2.2)) ∧ Hid (Wr base wr b v' L) ∧ Hid (v'.ownBlock = v.ownBlock ∨ ∀ k, v'.ownBlock = some k → w.heap.size ≤ k) ∧ Hid (Kpt (fun i => i = b ∨ v.ownBlock = some i) w wr)) (fun _ i _ => ps.length - (intOf i).toNat)
  case atStart =>
    refine ⟨0, v, l, rfl, Nat.zero_le _, Lib.hid (by simp), Lib.hid ⟨HW.out.blk.set_ 1 _, ?_⟩, Lib.hid (.inl rfl), Lib.hid (Kpt.setCell (Kpt.refl _ _) (fun _ => .inl rfl) _)⟩
    have := own_kpt HW.out.own ((Kpt.refl (One b) w).setOne 1 (.int .i64 0)) (fun g' hg' e => Blk.own_ne HW.out.blk HW.out.own (by decide) (by rw [hg']; exact congrArg some e))
    simpa using this
  case round =>
    obtain ⟨k, v', L, rfl, hk', HL, HWr, HV, HK⟩ := hrel
    have hbb := HWr.out.blk
    have c0 := hbb.cell 0
    have d0 := hbb.frozen 0
    simp only [List.getElem?_toArray, List.getElem?_cons_zero] at c0
    clear hbb
    have hng : ¬ (g = b ∨ v.ownBlock = some g) := fun e => by
      rcases e with e | e
      · exact Blk.ne_ HG.out HW.out.blk (by decide) e
      · exact Blk.own_ne HG.out HW.out.own (by decide) e
    by_cases h : k < ps.length
    · have h' : (k : Int) < (ps.length : Int) := by omega
      obtain ⟨⟨ad, c, bs⟩, hpk⟩ : ∃ p, ps[k]? = some p := ⟨_, List.getElem?_eq_getElem h⟩
      have hmem : (ad, c, bs) ∈ ps := List.mem_of_getElem? hpk
      have hgc := (HG.out.kpt HK.out hng).cell k
      rw [List.getElem?_toArray, List.getElem?_map, hpk] at hgc
      simp only [Option.map_some, Part.val] at hgc
      have hgc' : wr.cell? ((⟨g, 0, none⟩ : Addr).add k) = some (.slice (some ad) bs.length c) := by rw [add_plain]; exact hgc
      have hrd := (HP.out _ hmem).kpt HK.out (fun i hi e => by
        have := HD.out i hi
        rcases e with e | e
        · exact this.2.1 e
        · exact this.2.2 e)
      have hrn : ∀ j u, (bs.map byteV)[j]? = some u → wr.cell? (ad.add j) = some u := fun j u hu => by
        rcases Nat.eq_zero_or_pos bs.length with h0 | h0
        · have : bs = [] := List.eq_nil_of_length_eq_zero h0
          subst this
          simp at hu
        · obtain ⟨ad', e', _, hh⟩ := hrd.2 h0
          injection e' with e'
          subst e'
          exact hh j u hu
      have hfl := flen_take1 ps k _ hpk
      have HR := Lib.hid hrn; clear hrn hrd
      have HPK := Lib.hid hpk; clear hpk
      have HF := Lib.hid hfl
      simp only at hfl
      have hwl : L.length + bs.length ≤ 1099511627776 := by rw [HL.out, List.length_append]; omega
      have hws := HK.out.size
      go_wp2_with (refine wpList_append_own_at _ rfl _ _ 81 rfl base 5 i0 _ 1 1 Tryz.underlying81 HI.out HZ.out HZ0.out HZ1.out (by rfl) (by omega) v' _ _ rfl HWr.out.own ad bs.length c (bs.map byteV) rfl (by simp) HR.out (one_bytes _) (by simp only [maxLen]; omega) (by omega) (by omega) ?_; intro v1 w1 ho hg _ hat; obtain ⟨A1, c1, rfl, hcc1, hcc2⟩ := own_slice ho; have hb1 := HWr.out.blk.grown hg (fun e => Blk.own_ne HWr.out.blk HWr.out.own (by decide) e.symm); have c01 := hb1.cell 0; have d01 := hb1.frozen 0; simp only [List.getElem?_toArray, List.getElem?_cons_zero] at c01; have HB1 := Lib.hid hb1; have HAt := Lib.hid hat; clear hat; have HO1 := Lib.hid ho; have HG1 := Lib.hid hg; clear ho hg hb1)
      refine ⟨⟨k + 1, _, L ++ bs, by go_num, by omega, Lib.hid (by rw [bflat ps k _ HPK.out, ← List.append_assoc, HL.out]), Lib.hid ⟨HB1.out.set_ 0 _, ?_⟩, Lib.hid ?_, Lib.hid ?_⟩, by simp [intOf]; omega⟩
      · have := own_kpt HO1.out ((Kpt.refl (One b) _).setOne 0 (.slice A1 (L.length + bs.length) c1)) (fun g' hg' e => Blk.own_ne HB1.out HO1.out (by decide) (by rw [hg']; exact congrArg some e))
        rw [List.length_append, List.map_append]
        exact this
      · rcases HAt.out with e | e
        · rcases HV.out with e' | e'
          · exact .inl (e.trans e')
          · exact .inr (fun k hk => e' k (e ▸ hk))
        · exact .inr (fun k hk => by rw [e] at hk; injection hk with hk; omega)
      · refine Kpt.setCell (Kpt.grown HK.out HG1.out ?_) (fun _ => .inl rfl) _
        intro i hi hlt
        rcases HV.out with e | e
        · exact .inr (by rw [← e]; exact hi)
        · have := e i hi; omega
    · have h' : decide ((k : Int) < (ps.length : Int)) = false := by simp; omega
      have hkk : ps.length ≤ k := by omega
      go_wp2_with fail
      refine bodyPost_end (v := .tuple #[]) (by simp [results, Tryz.results82, go_sem]) rfl ⟨v', rfl, ?_, HV.out, HK.out⟩
      have := HWr.out
      rw [HL.out, List.take_of_length_le hkk] at this
      exact this

/-- A Writer that was made after w0. -/
def WrAt (w0 w : World) (b : Nat) (l : List UInt8) : Prop :=
  ∃ v, Wr w0.heap.size w b v l ∧ w0.heap.size ≤ b ∧ Kpt Non w0 w

theorem WrAt.next {w0 w w' : World} {b : Nat} {v v' : Value} {l l' : List UInt8} (h : Wr w0.heap.size w b v l) (hb : w0.heap.size ≤ b) (k0 : Kpt Non w0 w) (h' : Wr w0.heap.size w' b v' l')
    (k : Kpt (fun i => i = b ∨ v.ownBlock = some i) w w') : WrAt w0 w' b l' :=
  ⟨v', h', hb, Kpt.trans k0 k (fun i hi hlt => by
    rcases hi with e | e
    · omega
    · have := (h.own.lt i e).1; omega)⟩
theorem WrAt.kpt {w0 w w' : World} {b : Nat} {l : List UInt8} (h : WrAt w0 w b l) (k : Kpt Non w w') : WrAt w0 w' b l := by
  obtain ⟨v, h1, h2, h3⟩ := h
  exact ⟨v, ⟨h1.blk.kpt k (fun e => e), own_kpt h1.own k (fun _ _ e => e)⟩, h2, Kpt.trans h3 k (fun _ e _ => e)⟩

set_option maxHeartbeats 400000 in
theorem f103_any (w : World) : Calls Tryz.prog 54 #[] w fun e w' => e = .returned (.pointer (some ⟨w.heap.size, 0, none⟩)) ∧ WrAt w w' w.heap.size [] := by
  go_enter Tryz.func54, Tryz.ntmps54
  go_wp2_with fail
  go_ret
  exact ⟨rfl, .slice none 0 0, ⟨Blk.new _ _ _, World.ownsRow_nil _ _ _ _⟩, Nat.le_refl _, Kpt.alloc (Kpt.refl _ _) _⟩

theorem natB_len_pos (u : Nat) : 0 < (natB u).length := by
  by_cases h : u < 128
  · rw [natB_small h]; simp
  · rw [natB_big h]; simp
theorem natB_len_le : ∀ u : Nat, (natB u).length ≤ u + 1 := by
  intro u
  induction u using Nat.strongRecOn with
  | _ u ih =>
    by_cases h : u < 128
    · rw [natB_small h]; simp
    · rw [natB_big h, List.length_cons]
      have := ih (u / 128) (by omega)
      omega

set_option maxRecDepth 100000 in
set_option maxHeartbeats 1000000 in
theorem f104_any (w0 w : World) (b : Nat) (l : List UInt8) (n : Nat) (h : WrAt w0 w b l) (hn : n ≤ 1073741824) (hl : l.length ≤ 1073741824) :
    Calls Tryz.prog 55 #[.pointer (some ⟨b, 0, none⟩), .int .i64 (n : Int)] w fun e w' => e = .returned (.tuple #[]) ∧ WrAt w0 w' b (l ++ natB n) := by
  obtain ⟨v, hw, hb, k0⟩ := h
  have hlt : ¬ ((n : Int) < 0) := by omega
  have HL := natB_len_le n
  have HP := natB_len_pos n
  have hbl := hw.blk.lt
  have HW := Lib.hid hw; clear hw
  have K0 := Lib.hid k0; clear k0
  have hsz := K0.out.size
  go_enter Tryz.func55, Tryz.ntmps55
  go_wp2_with fail
  refine (f167_any w0.heap.size n _ (by omega) (by omega)).mono ?_
  rintro e w1 ⟨v1, rfl, ho1, hob1, k1⟩
  obtain ⟨g1, c1, rfl, hg1, hg1'⟩ := ho1.form HP
  have HO1 := Lib.hid ho1; have K1 := Lib.hid k1; have HB1 := Lib.hid hob1; clear ho1 k1 hob1
  go_wp2_with fail
  have hw1 : Wr w0.heap.size w1 b v l := ⟨HW.out.blk.kpt K1.out (fun e => e), own_kpt HW.out.own K1.out (fun _ _ e => e)⟩
  have hs1 := K1.out.size
  have hg1b := HB1.out g1 rfl
  refine (f166_any w0.heap.size b w1.heap.size v l [(⟨g1, 0, none⟩, c1, natB n)] (fun i => i = g1) _ ⟨hw1.blk.alloc _, hw1.own.alloc _⟩ (by simp; omega) (Blk.new _ _ _) (fun p hp => ?_) (fun i hi => ?_) (by simp; omega) (by simp)).mono ?_
  · simp only [List.mem_singleton] at hp
    subst hp
    refine ⟨by simp, fun _ => ⟨_, rfl, rfl, fun j u hu => own_cells (HO1.out.alloc _) j u hu⟩⟩
  · subst hi
    refine ⟨by simp; omega, by omega, fun e => ?_⟩
    have := (HW.out.own.lt _ e).2
    omega
  · rintro e w2 ⟨v2, rfl, hw2, _, k2⟩
    go_wp2_with fail
    refine bodyPost_end (v := .tuple #[]) (by simp [results, Tryz.results55, go_sem]) rfl ⟨rfl, ?_⟩
    simp only [List.flatMap_cons, List.flatMap_nil, List.append_nil] at hw2
    exact WrAt.next (w := w1.alloc _) ⟨hw1.blk.alloc _, hw1.own.alloc _⟩ hb (Kpt.alloc (Kpt.trans K0.out K1.out (fun _ e _ => e)) _) hw2 k2
end Go.Proofs.YtkpmabknjdgkmaaGreatDoor
