/- The walks of codec's Writer: Text, Bytes. -/
import Derived.Test.YtkpmabknjdgkmaaGreatDoorCodec2
namespace Go.Proofs.YtkpmabknjdgkmaaGreatDoor
open Go.RowKit

def bytesOf (s : ByteArray) : List UInt8 := s.data.toList
theorem len_bytesOf (s : ByteArray) : (bytesOf s).length = s.size := by rw [bytesOf, Array.length_toList]; rfl
def textB (s : ByteArray) : List UInt8 := natB s.size ++ bytesOf s

theorem cells_bytes {w : World} {g : Nat} {s : ByteArray} (h : ∀ (j : Nat) (h : j < s.size), w.cell? ⟨g, j, none⟩ = some (.int .u8 (s[j].toNat : Int))) : ∀ j u, ((bytesOf s).map byteV)[j]? = some u → w.cell? ((⟨g, 0, none⟩ : Addr).add j) = some u := by
  intro j u hu
  have hj : j < s.size := by
    have := (List.getElem?_eq_some_iff.1 hu).1
    rw [List.length_map, len_bytesOf] at this
    exact this
  rw [add_plain, h j hj]
  rw [List.getElem?_map] at hu
  obtain ⟨x, hx, rfl⟩ := Option.map_eq_some_iff.1 hu
  have : s[j] = x := by
    have h2 : (bytesOf s)[j]? = some s[j] := by
      unfold bytesOf
      rw [List.getElem?_eq_getElem (by simpa using hj)]
      rfl
    rw [h2] at hx
    injection hx
  rw [this]
  rfl

set_option maxRecDepth 100000 in
set_option maxHeartbeats 1000000 in
theorem f105_any (w0 w : World) (b : Nat) (l : List UInt8) (s : ByteArray) (h : WrAt w0 w b l) (hn : s.size ≤ 16777216) (hl : l.length ≤ 1073741824) :
    Calls Tryz.prog 56 #[.pointer (some ⟨b, 0, none⟩), .string s] w fun e w' => e = .returned (.tuple #[]) ∧ WrAt w0 w' b (l ++ textB s) := by
  obtain ⟨v, hw, hb, k0⟩ := h
  have hlt : ¬ ((16777216 : Int) < (s.size : Int)) := by omega
  have HL := natB_len_le s.size
  have HP := natB_len_pos s.size
  have hbl := hw.blk.lt
  have hbs := len_bytesOf s
  have HBS := Lib.hid hbs; clear hbs
  have HW := Lib.hid hw; clear hw
  have K0 := Lib.hid k0; clear k0
  have hsz := K0.out.size
  go_enter Tryz.func56, Tryz.ntmps56
  go_wp2_with fail
  refine (f167_any w0.heap.size s.size _ (by omega) (by omega)).mono ?_
  rintro e w1 ⟨v1, rfl, ho1, hob1, k1⟩
  obtain ⟨g1, c1, rfl, hg1, hg1'⟩ := ho1.form HP
  have HO1 := Lib.hid ho1; have K1 := Lib.hid k1; have HB1 := Lib.hid hob1; clear ho1 k1 hob1
  obtain ⟨c2, w2, hr2, hc2, hs2, hcell2, k2⟩ := toBytes (P := Tryz.prog) w1 9 81 5 s Tryz.underlying9 Tryz.underlying81 Tryz.underlying5
  have HS2 := Lib.hid hs2; have HC2 := Lib.hid (cells_bytes hcell2); have K2 := Lib.hid k2; clear hs2 hcell2 k2
  go_wp2_with fail
  have hs1 := K1.out.size
  have hs2 := K2.out.size
  have hs2' := HS2.out
  have hg1b := HB1.out g1 rfl
  have k2 : Kpt Non w1 w2 := K2.out
  have hw2 : Wr w0.heap.size w2 b v l := ⟨(HW.out.blk.kpt K1.out (fun e => e)).kpt k2 (fun e => e), own_kpt (own_kpt HW.out.own K1.out (fun _ _ e => e)) k2 (fun _ _ e => e)⟩
  have ho2 := own_kpt HO1.out k2 (fun _ _ e => e)
  have hpl : ((bytesOf s).map byteV).length = s.size * 1 := by rw [List.length_map, HBS.out]; omega
  rw [show Value.slice (some ⟨w1.heap.size, 0, none⟩) s.size c2 = Part.val (⟨w1.heap.size, 0, none⟩, c2, bytesOf s) by simp [Part.val, HBS.out]]
  refine (f166_any w0.heap.size b w2.heap.size v l [(⟨g1, 0, none⟩, c1, natB s.size), (⟨w1.heap.size, 0, none⟩, c2, bytesOf s)] (fun i => i = g1 ∨ i = w1.heap.size) _ ⟨hw2.blk.alloc _, hw2.own.alloc _⟩ (by simp; omega) (Blk.new _ _ _) (fun p hp => ?_) (fun i hi => ?_) (by simp [HBS.out]; omega) (by simp)).mono ?_
  · simp only [List.mem_cons, List.not_mem_nil, or_false] at hp
    rcases hp with rfl | rfl
    · exact ⟨by simp, fun _ => ⟨_, rfl, .inl rfl, fun j u hu => own_cells (ho2.alloc _) j u hu⟩⟩
    · refine ⟨by simp, fun _ => ⟨_, rfl, .inr rfl, fun j u hu => cell_alloc_ (HC2.out j u hu) _⟩⟩
  · have hbv := fun e => (HW.out.own.lt i e).2
    rcases hi with rfl | rfl
    · exact ⟨by simp; omega, by omega, fun e => by have := hbv e; omega⟩
    · exact ⟨by simp; omega, by omega, fun e => by have := hbv e; omega⟩
  · rintro e w3 ⟨v3, rfl, hw3, _, k3⟩
    go_wp2_with fail
    refine bodyPost_end (v := .tuple #[]) (by simp [results, Tryz.results56, go_sem]) rfl ⟨rfl, ?_⟩
    simp only [List.flatMap_cons, List.flatMap_nil, List.append_nil] at hw3
    exact WrAt.next (w := w2.alloc _) ⟨hw2.blk.alloc _, hw2.own.alloc _⟩ hb (Kpt.alloc (Kpt.trans (Kpt.trans K0.out K1.out (fun _ e _ => e)) k2 (fun _ e _ => e)) _) hw3 k3

set_option maxRecDepth 100000 in
set_option maxHeartbeats 1000000 in
theorem f106_any (w0 w : World) (b : Nat) (l : List UInt8) (h : WrAt w0 w b l) (hl : l.length ≤ 1073741824) (hpos : 0 < l.length) :
    Calls Tryz.prog 57 #[.pointer (some ⟨b, 0, none⟩)] w fun e w' => ∃ v, e = .returned (.tuple #[v, .int .i64 0]) ∧ w'.ownsRow w.heap.size 5 1 v l.length (l.map byteV) ∧ Kpt Non w w' := by
  obtain ⟨i0, hi, hz, hz0, hz1⟩ := info_parts info5
  have HI := Lib.hid hi; have HZ := Lib.hid hz; have HZ0 := Lib.hid hz0; have HZ1 := Lib.hid hz1; clear hi hz hz0 hz1
  obtain ⟨v, hw, hb, k0⟩ := h
  have b0 := hw.blk.cell 0
  have b1 := hw.blk.cell 1
  simp only [List.getElem?_toArray, List.getElem?_cons_zero, List.getElem?_cons_succ] at b0 b1
  obtain ⟨g, c, rfl, _, _⟩ := hw.own.form hpos
  have ba : ∀ o, (w.alloc o).cell? ⟨b, 0, none⟩ = some (.slice (some ⟨g, 0, none⟩) l.length c) := fun o => cell_alloc_ b0 o
  have HW := Lib.hid hw; clear hw
  go_enter Tryz.func57, Tryz.ntmps57
  go_wp2_with (refine wpList_append_own _ rfl _ _ 81 rfl w.heap.size 5 i0 _ 1 1 Tryz.underlying81 HI.out HZ.out HZ0.out HZ1.out (by rfl) (by omega) (.slice (some ⟨w.heap.size, 0, none⟩) 0 0) 0 [] rfl (World.ownsRow_lit w #[] 0 (Nat.le_refl _) (by simp [maxLen]) rfl) ⟨g, 0, none⟩ _ c (l.map byteV) rfl HW.out.own.1 (own_cells (HW.out.own.alloc _)) (one_bytes _) (by simp only [maxLen]; omega) (by omega) (by simp) ?_; intro v1 w1 ho hg _; have HO1 := Lib.hid ho; have HG1 := Lib.hid hg; clear ho hg)
  go_ret2
  have ho := HO1.out
  simp only [Nat.zero_add, List.nil_append] at ho
  exact ⟨_, rfl, ho, Kpt.app (Kpt.alloc (Kpt.refl Non w) _) HG1.out (by simp [Value.ownBlock])⟩
end Go.Proofs.YtkpmabknjdgkmaaGreatDoor
