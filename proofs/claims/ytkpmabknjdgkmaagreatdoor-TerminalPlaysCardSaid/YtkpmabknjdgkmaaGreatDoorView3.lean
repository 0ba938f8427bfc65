/- The walks of package view: call, Set, Mark; slices.Clone. -/
import Derived.Test.YtkpmabknjdgkmaaGreatDoorView2
import Derived.Test.YtkpmabknjdgkmaaGreatDoorOwn
import Derived.Deep.DeepCutAuto
import Derived.Deep.RegionLaw
namespace Go.Proofs.YtkpmabknjdgkmaaGreatDoor
open Go.RowKit

theorem one_chs : ∀ (l : List Ch), ∀ u ∈ l.flatMap Ch.cells, u.oneCell' = true := by
  intro l u hu
  obtain ⟨c, _, hc⟩ := List.mem_flatMap.1 hu
  simp [Ch.cells, Nm.cells] at hc
  rcases hc with rfl | rfl | rfl | rfl | rfl | rfl | rfl <;> rfl
theorem len_chs : ∀ (l : List Ch), (l.flatMap Ch.cells).length = l.length * 7
  | [] => rfl
  | c :: l => by
    rw [List.flatMap_cons, List.length_append, len_chs l, List.length_cons]
    simp [Ch.cells, Nm.cells]
    omega

/-- An append onto a row of the call's own: what is kept. -/
theorem info81 : (Tryz.prog.info? 86).map (fun i => (i.zero, i.size, i.bytes)) = some (some (.agg #[.int .i64 0, .string ⟨#[]⟩, .int .i64 0, .int .i64 0, .string ⟨#[]⟩, .string ⟨#[]⟩, .bool false]), 7, 80) := by kernel_rfl

set_option maxRecDepth 100000 in
set_option maxHeartbeats 1000000 in
theorem f232_any (base bs n : Nat) (cv : Value) (xs : List Value) (w : World) (hbase : base ≤ w.heap.size) (hcv : w.ownsRow bs 86 7 cv n xs) (hn : n ≤ 1048576) (h1 : ∀ u ∈ xs, u.oneCell' = true) :
    Calls Tryz.prog 127 #[cv] w fun e w' => ∃ v', e = .returned v' ∧ w'.ownsRow base 86 7 v' n xs ∧ (∀ k, v'.ownBlock = some k → w.heap.size ≤ k) ∧ Kpt Non w w' := by
  obtain ⟨i0, hi, hz, hz0, hz1⟩ := info_parts info81
  obtain ⟨A, c, rfl, hc1, hc2⟩ := own_slice hcv
  have HC := Lib.hid hcv; clear hcv
  have HO := Lib.hid h1; clear h1
  have HI := Lib.hid hi; have HZ := Lib.hid hz; have HZ0 := Lib.hid hz0; have HZ1 := Lib.hid hz1; clear hi hz hz0 hz1
  cases A with
  | none =>
    have hz : n = 0 ∧ c = 0 := by
      rcases HC.out.2 with ⟨h, h'⟩ | ⟨g, cap, cur, h, _⟩
      · simp at h; exact ⟨by omega, h.2⟩
      · simp at h
    obtain ⟨rfl, rfl⟩ := hz
    have hx : xs = [] := List.eq_nil_of_length_eq_zero (by simpa using HC.out.1)
    subst hx
    have he : ∀ w, (binOp .eql 79 (.slice none 0 0) (.slice none 0 0)).run Tryz.prog w = .ok (.bool true) w := fun w => by kernel_rfl
    go_enter Tryz.func127, Tryz.ntmps127
    go_wp2_with fail
    go_ret
    exact ⟨_, rfl, World.ownsRow_nil _ _ _ _, by simp [Value.ownBlock], Kpt.refl _ _⟩
  | some ad =>
    have he : ∀ w, (binOp .eql 79 (.slice (some ad) n c) (.slice none 0 0)).run Tryz.prog w = .ok (.bool false) w := fun w => by kernel_rfl
    go_enter Tryz.func127, Tryz.ntmps127
    go_wp2_with (refine wpList_append_own _ rfl _ _ 79 rfl w.heap.size 86 i0 _ 7 80 Tryz.underlying79 HI.out HZ.out HZ0.out HZ1.out (by rfl) (by omega) _ 0 [] rfl (World.ownsRow_lit w #[] 0 (Nat.le_refl _) (by simp [maxLen]) rfl) ad n c xs rfl HC.out.1 ?_ HO.out (by simp only [maxLen]; omega) (by omega) (by simp) ?_)
    · exact own_cells (HC.out.alloc _)
    · skip
      intro v' w' ho hg _
      have HOw := Lib.hid ho; have HG := Lib.hid hg; clear ho hg
      go_wp2_with fail
      go_ret
      refine ⟨v', rfl, own_le HOw.out hbase, fun k hk => (HOw.out.lt k hk).1, (Kpt.app (Kpt.alloc (Kpt.refl Non w) _) HG.out (by simp [Value.ownBlock]))⟩

theorem info9 : (Tryz.prog.info? 9).map (fun i => (i.zero, i.size, i.bytes)) = some (some (.string ⟨#[]⟩), 1, 16) := by kernel_rfl

set_option maxRecDepth 100000 in
set_option maxHeartbeats 1000000 in
theorem f163_any (base n c : Nat) (A : Option Addr) (D : Nat → Prop) (xs : List Value) (w : World) (hbase : base ≤ w.heap.size) (hr : Rd w D 1 A n xs) (hn : n ≤ 1048576) (hc : n ≤ c) (h1 : ∀ u ∈ xs, u.oneCell' = true) :
    Calls Tryz.prog 79 #[.slice A n c] w fun e w' => ∃ v', e = .returned v' ∧ w'.ownsRow base 9 1 v' n xs ∧ (∀ k, v'.ownBlock = some k → w.heap.size ≤ k) ∧ Kpt Non w w' := by
  obtain ⟨i0, hi, hz, hz0, hz1⟩ := info_parts info9
  have HC := Lib.hid hr; clear hr
  have HO := Lib.hid h1; clear h1
  have HI := Lib.hid hi; have HZ := Lib.hid hz; have HZ0 := Lib.hid hz0; have HZ1 := Lib.hid hz1; clear hi hz hz0 hz1
  cases A with
  | none =>
    have hz : n = 0 := by
      rcases Nat.eq_zero_or_pos n with h | h
      · exact h
      · obtain ⟨ad, h', _⟩ := HC.out.2 h
        cases h'
    subst hz
    have hx : xs = [] := List.eq_nil_of_length_eq_zero (by simpa using HC.out.1)
    subst hx
    have he : ∀ w, (binOp .eql 22 (.slice none 0 c) (.slice none 0 0)).run Tryz.prog w = .ok (.bool true) w := fun w => by kernel_rfl
    go_enter Tryz.func79, Tryz.ntmps79
    go_wp2_with fail
    go_ret
    exact ⟨_, rfl, World.ownsRow_nil _ _ _ _, by simp [Value.ownBlock], Kpt.refl _ _⟩
  | some ad =>
    have he : ∀ w, (binOp .eql 22 (.slice (some ad) n c) (.slice none 0 0)).run Tryz.prog w = .ok (.bool false) w := fun w => by kernel_rfl
    go_enter Tryz.func79, Tryz.ntmps79
    go_wp2_with (refine wpList_append_own _ rfl _ _ 22 rfl w.heap.size 9 i0 _ 1 16 Tryz.underlying22 HI.out HZ.out HZ0.out HZ1.out (by rfl) (by omega) _ 0 [] rfl (World.ownsRow_lit w #[] 0 (Nat.le_refl _) (by simp [maxLen]) rfl) ad n c xs rfl HC.out.1 ?_ HO.out (by simp only [maxLen]; omega) (by omega) (by simp) ?_)
    · intro j u hu
      rcases Nat.eq_zero_or_pos n with h | h
      · have : xs = [] := List.eq_nil_of_length_eq_zero (by rw [HC.out.1, h])
        subst this
        simp at hu
      · obtain ⟨ad', h', _, hh⟩ := (HC.out.alloc _).2 h
        injection h' with h'
        subst h'
        exact hh j u hu
    · skip
      intro v' w' ho hg _
      have HOw := Lib.hid ho; have HG := Lib.hid hg; clear ho hg
      go_wp2_with fail
      go_ret
      refine ⟨v', rfl, own_le HOw.out hbase, fun k hk => (HOw.out.lt k hk).1, (Kpt.app (Kpt.alloc (Kpt.refl Non w) _) HG.out (by simp [Value.ownBlock]))⟩

set_option maxHeartbeats 400000 in
theorem f119_any (K : Nm → Prop) (bs : Nat) (w : World) (sa : Addr) (b r n : Nat) (m : VwM) (hv : IsView K bs w sa b r n m) :
    Calls Tryz.prog 70 #[.pointer (some ⟨b, 0, none⟩)] w fun e w' => e = .returned (.int .i64 m.calls.length) ∧ w = w' := by
  obtain ⟨cv, hb, hc⟩ := hv.blk
  obtain ⟨A, c, rfl, hc1, hc2⟩ := own_slice hc
  have b2 := hb.cell 2
  simp only [List.getElem?_toArray, List.getElem?_cons_zero, List.getElem?_cons_succ] at b2
  clear hb hc hv
  go_enter Tryz.func70, Tryz.ntmps70
  go_wp2_with fail
  go_ret
  exact ⟨rfl, rfl⟩

theorem blk_of_set {w : World} {b i : Nat} {t : TypeId} {cs : Array Value} {v : Value} (h : Blk w b t cs) : Blk (w.setCell ⟨b, i, none⟩ v) b t (cs.setIfInBounds i v) := h.set_ i v

set_option maxRecDepth 100000 in
set_option maxHeartbeats 2000000 in
theorem f208_any (K : Nm → Prop) (bs : Nat) (w : World) (sa : Addr) (b r n : Nat) (m : VwM) (hv : IsView K bs w sa b r n m) (c : Ch) (ok : OkNm c.name) (hlen : c.value.size ≤ 65536) (hcalls : m.calls.length ≤ 1000000) :
    Calls Tryz.prog 109 #[.pointer (some ⟨b, 0, none⟩), c.val] w fun e w' => e = .returned (.int .i64 0) ∧ Kpt (fun i => i = b ∨ i = n) w w' ∧ IsView K bs w' sa b r n (m.call c) := by
  obtain ⟨i0, hi, hz, hz0, hz1⟩ := info_parts info81
  have HI := Lib.hid hi; have HZ := Lib.hid hz; have HZ0 := Lib.hid hz0; have HZ1 := Lib.hid hz1; clear hi hz hz0 hz1
  unfold OkNm at ok
  have HV := Lib.hid hv; clear hv
  have OK := Lib.hid ok; clear ok
  obtain ⟨⟨n1, n2, n3, n4, n5⟩, n6, n7⟩ := c
  have hlen' : (n6.size : Int) ≤ 65536 := by simp only at hlen; omega
  unfold Ch.val Ch.cells Nm.val Nm.cells at *
  simp only [List.cons_append, List.nil_append]
  go_enter Tryz.func109, Tryz.ntmps109
  go_wp2_with fail
  refine (OK.out _).mono ?_
  rintro e w1 ⟨rfl, k1⟩
  have hv := HV.out.non (Kpt.trans (Kpt.alloc (Kpt.refl _ _) _) k1 (fun _ e _ => e))
  have hp := (Blk.new w 86 #[.int .i64 n1, .string n2, .int .i64 n3, .int .i64 n4, .string n5, .string n6, .bool n7]).kpt k1 (fun e => e)
  have K1 := Lib.hid k1; clear k1
  obtain ⟨cv, hb, hcv⟩ := hv.blk
  have hbw : b < w.heap.size := by
    obtain ⟨cv', hb', _⟩ := HV.out.blk
    exact hb'.lt
  have b2 := hb.cell 2
  have b3 := hb.cell 3
  have fb2 := hb.frozen 2
  have p0 := hp.cell 0
  have p1 := hp.cell 1
  have p2 := hp.cell 2
  have p3 := hp.cell 3
  have p4 := hp.cell 4
  have p5 := hp.cell 5
  have p6 := hp.cell 6
  simp only [List.getElem?_toArray, List.getElem?_cons_zero, List.getElem?_cons_succ] at b2 b3 p0 p1 p2 p3 p4 p5 p6
  have hps : ∀ w', Kpt (One b) w1 w' → (w'.cell? ⟨w.heap.size, 0, none⟩ = some (.int .i64 n1) ∧ w'.cell? ⟨w.heap.size, 1, none⟩ = some (.string n2) ∧ w'.cell? ⟨w.heap.size, 2, none⟩ = some (.int .i64 n3) ∧ w'.cell? ⟨w.heap.size, 3, none⟩ = some (.int .i64 n4) ∧ w'.cell? ⟨w.heap.size, 4, none⟩ = some (.string n5) ∧ w'.cell? ⟨w.heap.size, 5, none⟩ = some (.string n6) ∧ w'.cell? ⟨w.heap.size, 6, none⟩ = some (.bool n7)) :=
    fun w' k => by
      have hne : ¬ One b w.heap.size := fun e => by have e' : w.heap.size = b := e; omega
      exact ⟨k.cellv p0 hne, k.cellv p1 hne, k.cellv p2 hne, k.cellv p3 hne, k.cellv p4 hne, k.cellv p5 hne, k.cellv p6 hne⟩
  have HPS := Lib.hid hps; clear hps
  have hcc : ∀ w', Kpt Non w1 w' → w'.ownsRow bs 86 7 cv m.calls.length (m.calls.flatMap Ch.cells) := fun w' k => own_kpt hcv k (fun _ _ e => e)
  have HCC := Lib.hid hcc; clear hcc
  have hbb : ∀ w', Kpt Non w1 w' → (w'.cell? ⟨b, 2, none⟩ = some cv ∧ w'.frozen? ⟨b, 2, none⟩ = false) := fun w' k => ⟨k.cellv b2 (fun e => e), (k.frozen (p := ⟨b, 2, none⟩) hb.lt (fun e => e)).trans fb2⟩
  have HBB := Lib.hid hbb; clear hbb
  have hsz : w1.heap.size ≤ w1.heap.size := Nat.le_refl _
  have bd := (HBB.out w1.drew (Kpt.drew (Kpt.refl _ _))).1
  have bda : ∀ o, (w1.drew.alloc o).cell? ⟨b, 2, none⟩ = some cv := fun o => (HBB.out _ (Kpt.alloc (Kpt.drew (Kpt.refl _ _)) o)).1
  have bdb : ∀ o, (w1.alloc o).cell? ⟨b, 2, none⟩ = some cv := fun o => (HBB.out _ (Kpt.alloc (Kpt.refl _ _) o)).1
  have HV1 := Lib.hid hv; clear hv
  have HB := Lib.hid hb; clear hb
  have hbs : bs ≤ w1.heap.size := HV1.out.size
  have hd := HPS.out w1.drew (Kpt.up (Kpt.drew (Kpt.refl _ _)))
  obtain ⟨d0, d1, d2, d3, d4, d5, d6⟩ := hd
  go_upto_region 7 with fail
  go_cut [] (fun wx => ∃ v', wx.ownsRow bs 86 7 v' (m.calls.length + 1) (m.calls.flatMap Ch.cells ++ [.int .i64 n1, .string n2, .int .i64 n3, .int .i64 n4, .string n5, .string n6, .bool n7]) ∧ Kpt (One b) w1 wx ∧ Blk wx b 90 #[.pointer (some sa), .map (some r), v', .map (some n)])
  case first =>
    go_region_law
      (first
        | (go_simp; go_at_call 127; refine (f232_any w1.heap.size bs _ cv _ _ (by simp) (HCC.out _ (by ((repeat (first | with_reducible exact Kpt.refl _ _ | with_reducible apply Kpt.alloc | with_reducible apply Kpt.drew | with_reducible apply Kpt.drewN | (refine Kpt.trans (S' := Non) ?_ (by first | assumption | (apply Lib.Hid.out; assumption)) (fun _ e _ => e)))); done))) (by omega) (one_chs _)).mono ?_; rintro e w2 ⟨v', rfl, ho, hob, k2⟩; obtain ⟨g0, g1, g2, g3, g4, g5, g6⟩ := HPS.out w2 (Kpt.up (by ((repeat (first | with_reducible exact Kpt.refl _ _ | with_reducible apply Kpt.alloc | with_reducible apply Kpt.drew | with_reducible apply Kpt.drewN | (refine Kpt.trans (S' := Non) ?_ (by first | assumption | (apply Lib.Hid.out; assumption)) (fun _ e _ => e)))); done))); have HO := Lib.hid ho; clear ho; have HOB := Lib.hid hob; clear hob; first | (have hB := (Blk.new w1.drew _ _).kpt k2 (fun e => e); have HBl := Lib.hid hB; clear hB) | skip)
        | (refine step_append_lies _ (by rfl) _ _ _ (by rfl) w1.heap.size 86 i0 _ 7 80 Tryz.underlying79 HI.out HZ.out HZ0.out HZ1.out (by rfl) (by omega) v' _ _ (by rfl) (HO.out.alloc _) ⟨w2.heap.size, 0, none⟩ 1 1 [.int .i64 n1, .string n2, .int .i64 n3, .int .i64 n4, .string n5, .string n6, .bool n7] (by rfl) (by rfl) (World.news_of_block (heap_alloc_new w2 _)) (by simp [Value.oneCell']) (by omega) (by simp only [maxLen]; omega) (by omega) (by have := k2.size; simp at this ⊢; omega) _ rfl ?_; intro g cap w3 hown hgrow hat hlt; have k3 : Kpt Non w1 w3 := (Kpt.app (by ((repeat (first | with_reducible exact Kpt.refl _ _ | with_reducible apply Kpt.alloc | with_reducible apply Kpt.drew | with_reducible apply Kpt.drewN | (refine Kpt.trans (S' := Non) ?_ (by first | assumption | (apply Lib.Hid.out; assumption)) (fun _ e _ => e)))); done)) hgrow (fun k hk => (HO.out.lt k hk).1)); have q3 := HBB.out _ k3; have q31 := q3.1; have q32 := q3.2; clear q3; have HO3 := Lib.hid hown; clear hown hgrow hat)
        | (refine step_append_lies _ (by rfl) _ _ _ (by rfl) w1.heap.size 86 i0 _ 7 80 Tryz.underlying79 HI.out HZ.out HZ0.out HZ1.out (by rfl) (by omega) v' _ _ (by rfl) HO.out ⟨w1.heap.size, 0, none⟩ 1 1 [.int .i64 n1, .string n2, .int .i64 n3, .int .i64 n4, .string n5, .string n6, .bool n7] (by rfl) (by rfl) (World.news_of_block HBl.out) (by simp [Value.oneCell']) (by omega) (by simp only [maxLen]; omega) (by omega) (by have := k2.size; simp at this ⊢; omega) _ rfl ?_; intro g cap w3 hown hgrow hat hlt; have k3 : Kpt Non w1 w3 := (Kpt.app (by ((repeat (first | with_reducible exact Kpt.refl _ _ | with_reducible apply Kpt.alloc | with_reducible apply Kpt.drew | with_reducible apply Kpt.drewN | (refine Kpt.trans (S' := Non) ?_ (by first | assumption | (apply Lib.Hid.out; assumption)) (fun _ e _ => e)))); done)) hgrow (fun k hk => (HO.out.lt k hk).1)); have q3 := HBB.out _ k3; have q31 := q3.1; have q32 := q3.2; clear q3; have HO3 := Lib.hid hown; clear hown hgrow hat)
        | fail)
    all_goals (go_wp2_with fail; go_meet)
    all_goals exact ⟨_, own_kpt (own_le HO3.out hbs) ((Kpt.refl (One b) _).setCell (fun _ => rfl) _) (fun g' hg' e => by
        obtain ⟨cv', hb', hc'⟩ := (HV1.out.non k3).blk
        exact Blk.own_ne hb' HO3.out (by decide) (by rw [hg']; exact congrArg some e)), Kpt.setOne k3.up _ _, (HB.out.kpt k3 (fun e => e)).set_ 2 _⟩
  case rest =>
    obtain ⟨v', ho, kx, hbx⟩ := hcut
    have hps := HPS.out wc.drew kx.drew
    have b3' := hbx.drew.cell 3
    simp only [List.getElem?_toArray, List.getElem?_cons_zero, List.getElem?_cons_succ] at b3'
    have nb : n ≠ b := HV.out.bn.symm
    have nw : n < w.heap.size := HV.out.nw.lt
    have hnw : MapIs Nm.val Ch.val wc n m.now := HV1.out.nw.kpt kx nb
    obtain ⟨o, hu, hM⟩ := ((hnw.drew).update keyOk_nm Tryz.underlying88 ⟨n1, n2, n3, n4, n5⟩ ⟨⟨n1, n2, n3, n4, n5⟩, n6, n7⟩ : _)
    have kn : Kpt (One n) wc.drew (wc.drew.putObj n o) := (Kpt.refl (One n) wc.drew).put (fun _ => rfl) o
    have nn1 : ¬ One n w.heap.size := fun e => by have e' : w.heap.size = n := e; omega
    have nn2 : ¬ One n b := HV.out.bn
    have hps' : (wc.drew.putObj n o).cell? ⟨w.heap.size, 0, none⟩ = some (.int .i64 n1) ∧ (wc.drew.putObj n o).cell? ⟨w.heap.size, 1, none⟩ = some (.string n2) ∧ (wc.drew.putObj n o).cell? ⟨w.heap.size, 2, none⟩ = some (.int .i64 n3) ∧ (wc.drew.putObj n o).cell? ⟨w.heap.size, 3, none⟩ = some (.int .i64 n4) ∧ (wc.drew.putObj n o).cell? ⟨w.heap.size, 4, none⟩ = some (.string n5) ∧ (wc.drew.putObj n o).cell? ⟨w.heap.size, 5, none⟩ = some (.string n6) ∧ (wc.drew.putObj n o).cell? ⟨w.heap.size, 6, none⟩ = some (.bool n7) ∧ (wc.drew.putObj n o).cell? ⟨b, 3, none⟩ = some (.map (some n)) :=
      ⟨kn.cellv hps.1 nn1, kn.cellv hps.2.1 nn1, kn.cellv hps.2.2.1 nn1, kn.cellv hps.2.2.2.1 nn1, kn.cellv hps.2.2.2.2.1 nn1, kn.cellv hps.2.2.2.2.2.1 nn1, kn.cellv hps.2.2.2.2.2.2 nn1, kn.cellv b3' nn2⟩
    have HM := Lib.hid hM; clear hM hnw
    have HX := Lib.hid hbx; clear hbx
    have HO := Lib.hid ho; clear ho
    simp only [Ch.val, Ch.cells, Nm.val, Nm.cells, List.cons_append, List.nil_append] at hu
    go_wp2_with fail
    go_region_held3 (fun w' => w'.cell? ⟨w.heap.size, 0, none⟩ = some (.int .i64 n1) ∧ w'.cell? ⟨w.heap.size, 1, none⟩ = some (.string n2) ∧ w'.cell? ⟨w.heap.size, 2, none⟩ = some (.int .i64 n3) ∧ w'.cell? ⟨w.heap.size, 3, none⟩ = some (.int .i64 n4) ∧ w'.cell? ⟨w.heap.size, 4, none⟩ = some (.string n5) ∧ w'.cell? ⟨w.heap.size, 5, none⟩ = some (.string n6) ∧ w'.cell? ⟨w.heap.size, 6, none⟩ = some (.bool n7) ∧ w'.cell? ⟨b, 3, none⟩ = some (.map (some n)))
      (first | exact ⟨hps.1, hps.2.1, hps.2.2.1, hps.2.2.2.1, hps.2.2.2.2.1, hps.2.2.2.2.2.1, hps.2.2.2.2.2.2, b3'⟩ | exact hps') (first | fail)
    all_goals go_wp2_with fail
    go_ret
    refine ⟨rfl, ?_, ?_⟩
    · exact Kpt.trans (Kpt.drew (Kpt.trans (Kpt.trans (Kpt.alloc (Kpt.refl (fun i => i = b ∨ i = n) _) _) K1.out.up (fun i h _ => h)) kx (fun i h _ => .inl h))) kn (fun i h _ => .inr h)
    · have hv2 : IsView K bs wc sa b r n { m with calls := m.calls ++ [⟨⟨n1, n2, n3, n4, n5⟩, n6, n7⟩] } := by
        refine ⟨HV1.out.st.kpt kx (by rintro i rfl; exact HV.out.hb), ⟨v', HX.out, ?_⟩, HV1.out.rd.kpt kx HV.out.br.symm, HV1.out.nw.kpt kx nb, HV.out.hb, HV.out.hr, HV.out.hn, HV.out.rn⟩
        have := HO.out
        simp only [List.length_append, List.length_singleton, List.flatMap_append, List.flatMap_singleton]
        exact this
      exact (hv2.non (Kpt.drew (Kpt.refl _ _))).put_now HM.out
end Go.Proofs.YtkpmabknjdgkmaaGreatDoor
