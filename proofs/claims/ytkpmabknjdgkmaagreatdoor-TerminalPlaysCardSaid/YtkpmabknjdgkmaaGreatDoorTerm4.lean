/- The walk of terminal.Decode. -/
import Derived.Test.YtkpmabknjdgkmaaGreatDoorTerm3
import Derived.Deep.RegionHeld3
import Derived.Deep.DeepCutAuto
import Derived.Deep.RegionLaw
namespace Go.Proofs.YtkpmabknjdgkmaaGreatDoor
open Go.RowKit

def rdMany (l : List UInt8) : Nat → Nat → Int → List ByteArray × Nat × Int
  | 0, a, e => ([], a, e)
  | n + 1, a, e => (strB (rdText 1024 a e l).1 :: (rdMany l n (rdText 1024 a e l).2.1 (rdText 1024 a e l).2.2).1, (rdMany l n (rdText 1024 a e l).2.1 (rdText 1024 a e l).2.2).2)

/-- What Decode reads, and how the Reader stands then. -/
def rdTm (l : List UInt8) : Tm × Nat × Int :=
  let a := rdNum 1073741824 0 0 l
  let b := rdText 64 a.2.1 a.2.2 l
  let c := rdNum 16 b.2.1 b.2.2 l
  let d := rdMany l c.1 c.2.1 c.2.2
  let e := rdText 2048 d.2.1 d.2.2 l
  (⟨a.1, strB b.1, d.1, strB e.1⟩, e.2.1, e.2.2)

def zeroT : Tm := ⟨0, es, [], es⟩
def decOk (l : List UInt8) : Bool := decide ((rdTm l).2.2 = 0) && decide ((rdTm l).2.1 = l.length) && decide (chkT (rdTm l).1 = 0)
def decT (l : List UInt8) : Tm × Int := if decOk l = true then ((rdTm l).1, 0) else (zeroT, 3)

theorem rdNum_le (most a : Nat) (e : Int) (l : List UInt8) : (rdNum most a e l).1 ≤ most := by
  unfold rdNum
  split
  · split
    · rename_i h
      unfold numAns at h ⊢
      split
      · simp
      · rename_i h1
        rw [if_neg h1] at h
        simp only
        omega
    · simp
  · simp

theorem rdMany_len (l : List UInt8) : ∀ (n a : Nat) (e : Int), (rdMany l n a e).1.length = n
  | 0, a, e => rfl
  | n + 1, a, e => by simp [rdMany, rdMany_len l n]

theorem strB_size (l : List UInt8) : (strB l).size = l.length := by simp [strB, ByteArray.size]
theorem rdText_len (most a : Nat) (e : Int) (l : List UInt8) : (rdText most a e l).1.length ≤ most := by
  unfold rdText
  split
  · split
    · rename_i h
      unfold textAns at h ⊢
      split at h
      · rename_i h0
        rw [if_pos h0]
        split at h
        · simp at h
        · rename_i h1
          rw [if_neg h1]
          split at h
          · simp at h
          · rename_i h2
            rw [if_neg h2]
            simp only [List.length_take]
            omega
      · rename_i h0
        rw [if_neg h0]; simp
    · simp
  · simp
theorem rdMany_size (l : List UInt8) : ∀ (n a : Nat) (e : Int), ∀ s ∈ (rdMany l n a e).1, s.size ≤ 1024
  | 0, a, e, s, hs => by simp [rdMany] at hs
  | n + 1, a, e, s, hs => by
    simp only [rdMany, List.mem_cons] at hs
    rcases hs with rfl | hs
    · rw [strB_size]; exact rdText_len _ _ _ _
    · exact rdMany_size l n _ _ s hs

theorem Kpt.undrew {S : Nat → Prop} {w w' : World} (h : Kpt S w.drew w') : Kpt S w w' := ⟨h.os, h.tape, h.output, h.size, h.block⟩

set_option maxRecDepth 100000 in
set_option maxHeartbeats 1000000 in
theorem f39_any (s : ByteArray) (w : World) (hs : s.size ≤ 1099511627776) :
    Calls Tryz.prog 26 #[.string s] w fun e w' => ∃ v, e = .returned (.tuple #[v, .int .i64 (decT (bytesOf s)).2]) ∧ TmV w' (fun i => w.heap.size ≤ i) (decT (bytesOf s)).1 v ∧ Kpt Non w w' := by
  obtain ⟨i0, hi, hz, hz0, hz1⟩ := info_parts info9
  have HI := Lib.hid hi; have HZI := Lib.hid hz; have HZ0 := Lib.hid hz0; have HZ1 := Lib.hid hz1; clear hi hz hz0 hz1
  obtain ⟨W0, hW0⟩ : ∃ W0, w.alloc (.cells #[.int .i64 0, .string ⟨#[]⟩, .slice none 0 0, .string ⟨#[]⟩] 36) = W0 := ⟨_, rfl⟩
  obtain ⟨c1, w1, hr1, hc1, hs1, hcell1, k1⟩ := toBytes (P := Tryz.prog) (w.alloc (.cells #[.int .i64 0, .string ⟨#[]⟩, .slice none 0 0, .string ⟨#[]⟩] 36)) 9 81 5 s Tryz.underlying9 Tryz.underlying81 Tryz.underlying5
  have hcl := cells_bytes hcell1
  have K1 := Lib.hid k1; have HS1 := Lib.hid hs1; have HCL := Lib.hid hcl; clear k1 hs1 hcell1 hcl hW0
  have hlen := len_bytesOf s
  have hrd : Rd w1 (fun i => i = w.heap.size + 1) 1 (some ⟨w.heap.size + 1, 0, none⟩) s.size ((bytesOf s).map byteV) := ⟨by rw [List.length_map, hlen]; omega, fun _ => ⟨_, rfl, rfl, fun j u hu => by have := HCL.out j u hu; simpa using this⟩⟩
  have HRD := Lib.hid hrd; clear hrd
  have HLEN := Lib.hid hlen; clear hlen
  go_enter Tryz.func26, Tryz.ntmps26
  go_wp2_with fail
  refine (f109_any (w.heap.size + 1) s.size c1 _ (bytesOf s) w1 HRD.out hs hc1).mono ?_
  rintro e w2 ⟨b, rfl, hb2, hR2, k2⟩
  have HR2 := Lib.hid hR2; have K2 := Lib.hid k2; clear hR2 k2
  have hN := rdNum_le 1073741824 0 0 (bytesOf s)
  go_wp2_with fail
  refine (f110_any b 0 1073741824 (bytesOf s) 0 w2 HR2.out).mono ?_
  generalize hA : rdNum 1073741824 0 0 (bytesOf s) = a at hN ⊢
  obtain ⟨a1, a2, a3⟩ := a
  have HA := Lib.hid hA; clear hA
  rintro e w3 ⟨rfl, hR3, k3⟩
  have HR3 := Lib.hid hR3; have K3 := Lib.hid k3; clear hR3 k3
  go_wp2_with fail
  refine (f111_any b a2 64 (bytesOf s) a3 w3 HR3.out (by omega)).mono ?_
  generalize hB : rdText 64 a2 a3 (bytesOf s) = t at ⊢
  obtain ⟨b1, b2, b3⟩ := t
  have HB := Lib.hid hB; clear hB
  rintro e w4 ⟨rfl, hR4, k4⟩
  have HR4 := Lib.hid hR4; have K4 := Lib.hid k4; clear hR4 k4
  go_wp2_with fail
  have hbt4 := Blk.new w4 36 #[.int .i64 (a1 : Int), .string (strB b1), .slice none 0 0, .string ⟨#[]⟩]
  have HR4a := HR4.out.kpt (Kpt.alloc (Kpt.refl Non w4) (.cells #[.int .i64 (a1 : Int), .string (strB b1), .slice none 0 0, .string ⟨#[]⟩] 36))
  have hblt : b < w4.heap.size := by obtain ⟨_, _, _, _, _, h, _⟩ := HR4.out.blk; exact h.lt
  refine (f110_any b b2 16 (bytesOf s) b3 _ HR4a).mono ?_
  have hN2 := rdNum_le 16 b2 b3 (bytesOf s)
  generalize hC : rdNum 16 b2 b3 (bytesOf s) = t at hN2 ⊢
  obtain ⟨n, c2, c3⟩ := t
  have HC := Lib.hid hC; clear hC HR4a
  rintro e w5 ⟨rfl, hR5, k5⟩
  simp only at hN2
  have HR5 := Lib.hid hR5; have K5 := Lib.hid k5; clear hR5 k5
  have hk1 := K1.out.size
  have hk2 := K2.out.size
  have hk3 := K3.out.size
  have hk4 := K4.out.size
  have hk5 := K5.out.size
  have hw1 : w.heap.size + 1 ≤ w1.heap.size := by simpa using hk1
  have hbw : w.heap.size < b := by omega
  have z1 := (Blk.new w 36 #[.int .i64 0, .string ⟨#[]⟩, .slice none 0 0, .string ⟨#[]⟩]).kpt K1.out (fun e => e)
  have z2 := ((z1.kpt K2.out (fun e => e)).kpt K3.out (fun e => by have e' : w.heap.size = b := e; omega)).kpt K4.out (fun e => by have e' : w.heap.size = b := e; omega)
  have z5 := (z2.alloc (.cells #[.int .i64 (a1 : Int), .string (strB b1), .slice none 0 0, .string ⟨#[]⟩] 36)).kpt K5.out (fun e => by have e' : w.heap.size = b := e; omega)
  have hbt5 := hbt4.kpt K5.out (fun e => by have e' : w4.heap.size = b := e; omega)
  have kk5 : Kpt Non w w5 := by
    refine Kpt.trans (S' := One b) (Kpt.alloc (Kpt.trans (S' := One b) (Kpt.trans (S' := One b) (Kpt.trans (Kpt.trans (Kpt.alloc (Kpt.refl Non w) _) K1.out (fun _ e _ => e)) K2.out (fun _ e _ => e)) K3.out ?_) K4.out ?_) _) K5.out ?_
    all_goals (intro i hi hlt; have hi' : i = b := hi; omega)
  have Z5 := Lib.hid z5; have HT5 := Lib.hid hbt5; have KK5 := Lib.hid kk5
  clear z1 z2 z5 hbt4 hbt5 kk5
  go_wp2_with fail
  go_loopw [16] (fun x wr => ∃ (k a : Nat) (e : Int) (L : List ByteArray) (tv : Value), x = .int .i64 k ∧ k ≤ n ∧ L.length ≤ k ∧ Hid (rdMany (bytesOf s) n c2 c3 = (L ++ (rdMany (bytesOf s) (n - k) a e).1, (rdMany (bytesOf s) (n - k) a e).2)) ∧ Hid (Rdr wr b (bytesOf s) a e) ∧ Hid (Blk wr w4.heap.size 36 #[.int .i64 (a1 : Int), .string (strB b1), tv, .string ⟨#[]⟩]) ∧ Hid (wr.ownsRow w.heap.size 9 1 tv L.length (L.map Value.string)) ∧ Hid (Blk wr w.heap.size 36 #[.int .i64 0, .string ⟨#[]⟩, .slice none 0 0, .string ⟨#[]⟩]) ∧ Hid (Kpt Non w wr)) (fun x _ => n - (intOf x).toNat)
  case atStart =>
    exact ⟨0, c2, c3, [], .slice none 0 0, rfl, Nat.zero_le _, Nat.le_refl _, Lib.hid (by simp), HR5, HT5, Lib.hid (World.ownsRow_nil _ _ _ _), Z5, KK5⟩
  case round =>
    obtain ⟨k, a, e, L, tv, rfl, hk, hLk, HM, HR, HT, HO, HZ, HK⟩ := hrel
    by_cases h1 : k < n
    · have h1' : (k : Int) < (n : Int) := by omega
      have t2 := HT.out.cell 2
      have ft2 := HT.out.frozen 2
      simp only [List.getElem?_toArray, List.getElem?_cons_zero, List.getElem?_cons_succ] at t2
      have t2d : wr.drew.cell? ⟨w4.heap.size, 2, none⟩ = some tv := t2
      have hbo : ∀ g, tv.ownBlock = some g → ¬ One b g := fun g hg e => by
        obtain ⟨_, _, _, _, _, hb, _⟩ := HR.out.blk
        exact Blk.own_ne hb HO.out (by decide) (by rw [hg]; exact congrArg some e)
      have hto : ∀ g, tv.ownBlock = some g → g ≠ w4.heap.size := fun g hg e => Blk.own_ne HT.out HO.out (by decide) (by rw [hg]; exact congrArg some e)
      have hzo : ∀ g, tv.ownBlock = some g → g ≠ w.heap.size := fun g hg e => Blk.own_ne HZ.out HO.out (by decide) (by rw [hg]; exact congrArg some e)
      have HBO := Lib.hid hbo; have HTO := Lib.hid hto; have HZO := Lib.hid hzo; clear hbo hto hzo
      have htb : ¬ One b w4.heap.size := fun e => by have e' : w4.heap.size = b := e; omega
      have hwb : ¬ One b w.heap.size := fun e => by have e' : w.heap.size = b := e; omega
      have hwt : w.heap.size ≠ w4.heap.size := by omega
      have e111 := f111_any b a 1024 (bytesOf s) e wr.drew (HR.out.kpt (Kpt.drew (Kpt.refl _ _))) (by omega)
      have hM : rdMany (bytesOf s) (n - k) a e = (strB (rdText 1024 a e (bytesOf s)).1 :: (rdMany (bytesOf s) (n - (k + 1)) (rdText 1024 a e (bytesOf s)).2.1 (rdText 1024 a e (bytesOf s)).2.2).1, (rdMany (bytesOf s) (n - (k + 1)) (rdText 1024 a e (bytesOf s)).2.1 (rdText 1024 a e (bytesOf s)).2.2).2) := by
        rw [show n - k = (n - (k + 1)) + 1 by omega]; rfl
      generalize rdText 1024 a e (bytesOf s) = X at e111 hM
      obtain ⟨x1, x2, x3⟩ := X
      simp only at e111 hM
      have HMM := Lib.hid hM; clear hM
      have E111 := Lib.hid e111; clear e111
      have kwr := HK.out.size
      go_wp2_with fail
      go_upto_region 5 with fail
      go_region_law
        (first
          | (go_simp; go_at_call 62; refine E111.out.mono ?_; rintro e' w6 ⟨rfl, hR6, k6⟩; have q6 := (HT.out.kpt (Kpt.undrew k6) htb).cell 2; simp only [List.getElem?_toArray, List.getElem?_cons_zero, List.getElem?_cons_succ] at q6; have q6a : ∀ o, (w6.alloc o).cell? ⟨w4.heap.size, 2, none⟩ = some tv := (fun o => cell_alloc_ q6 o); have HR6 := Lib.hid hR6; have K6 := Lib.hid (Kpt.undrew k6); clear hR6 k6)
          | (refine step_append_lies _ (by rfl) _ _ _ (by rfl) w.heap.size 9 i0 _ 1 16 Tryz.underlying22 HI.out HZI.out HZ0.out HZ1.out (by rfl) (by omega) tv _ _ (by rfl) ((own_kpt HO.out K6.out HBO.out).alloc _) ⟨w6.heap.size, 0, none⟩ 1 1 [.string (strB x1)] (by rfl) (by rfl) (cell_one_new _ _ _) (by simp [Value.oneCell']) (by omega) (by simp only [maxLen]; omega) (by omega) (by have := K6.out.size; simp; omega) _ rfl ?_; intro g cap w7 hown hgrow hat hlt; have hb7 := (((HT.out.kpt K6.out htb).alloc _).grown hgrow (fun e => HTO.out _ e.symm rfl)); have c7 := hb7.cell 2; have f7 := hb7.frozen 2; simp only [List.getElem?_toArray, List.getElem?_cons_zero, List.getElem?_cons_succ] at c7; have HB7 := Lib.hid hb7; have HO7 := Lib.hid hown; have HG7 := Lib.hid hgrow; clear hb7 hown hgrow hat)
          | fail)
      all_goals go_wp2_with fail
      all_goals (
        have k7 := Kpt.setCell (Kpt.grown (Kpt.alloc (Kpt.refl (fun i => i = w4.heap.size ∨ tv.ownBlock = some i) w6) _) HG7.out (fun i hi _ => .inr hi)) (p := ⟨w4.heap.size, 2, none⟩) (fun _ => .inl rfl) (.slice (some ⟨g, 0, none⟩) (L.length + 1) cap)
        have hz7 := ((((HZ.out.kpt K6.out hwb).alloc (.cells #[.string (strB x1)] 9)).grown HG7.out (fun e => HZO.out _ e.symm rfl)).far (p := ⟨w4.heap.size, 2, none⟩) hwt (.slice (some ⟨g, 0, none⟩) (L.length + 1) cap))
        have kk6 : Kpt Non w w6 := Kpt.trans HK.out K6.out (fun i hi hlt => by have hi' : i = b := hi; omega)
        refine ⟨⟨k + 1, x2, x3, L ++ [strB x1], _, by go_num, by omega, by simp; omega, Lib.hid ?_, Lib.hid ?_, Lib.hid (HB7.out.set_ 2 _), Lib.hid ?_, Lib.hid hz7, Lib.hid ?_⟩, by simp [intOf]; omega⟩
        · rw [HM.out, HMM.out]
          simp
        · refine HR6.out.keep k7 (fun e => ?_) (fun g' cur hg' e => ?_)
          · rcases e with e | e
            · omega
            · exact HBO.out _ e rfl
          · rcases e with e | e
            · subst e
              exact Blk.ne_ hg' (HT.out.kpt K6.out htb) (by decide) rfl
            · exact Blk.own_ne hg' (own_kpt HO.out K6.out HBO.out) (by decide) e
        · have := own_kpt HO7.out ((Kpt.refl (One w4.heap.size) _).setOne 2 (.slice (some ⟨g, 0, none⟩) (L.length + 1) cap)) (fun g' hg' e => Blk.own_ne HB7.out HO7.out (by decide) (by rw [hg']; exact congrArg some e))
          simpa using this
        · exact Kpt.trans kk6 k7 (fun i hi hlt => by
            rcases hi with e | e
            · omega
            · have := (HO.out.lt i e).1; omega))
    · have h1' : decide ((k : Int) < (n : Int)) = false := by simp; omega
      have hkn : n = k := by omega
      have hM : rdMany (bytesOf s) n c2 c3 = (L, a, e) := by rw [HM.out, show n - k = 0 by omega]; simp [rdMany]
      have HMM := Lib.hid hM; clear hM
      go_wp2_with fail
      refine (f111_any b a 2048 (bytesOf s) e wr HR.out (by omega)).mono ?_
      generalize hX : rdText 2048 a e (bytesOf s) = X
      obtain ⟨x1, x2, x3⟩ := X
      have HX := Lib.hid hX; clear hX
      rintro e' w6 ⟨rfl, hR6, k6⟩
      simp only at hR6
      have hE : rdTm (bytesOf s) = (⟨a1, strB b1, L, strB x1⟩, x2, x3) := by
        simp only [rdTm, HA.out, HB.out, HC.out, HMM.out, HX.out]
      have htb : ¬ One b w4.heap.size := fun e => by have e' : w4.heap.size = b := e; omega
      have hwb : ¬ One b w.heap.size := fun e => by have e' : w.heap.size = b := e; omega
      have hwt : w.heap.size ≠ w4.heap.size := by omega
      have hbo : ∀ g, tv.ownBlock = some g → ¬ One b g := fun g hg e => by
        obtain ⟨_, _, _, _, _, hb, _⟩ := HR.out.blk
        exact Blk.own_ne hb HO.out (by decide) (by rw [hg]; exact congrArg some e)
      have hto : ∀ g, tv.ownBlock = some g → ¬ One w4.heap.size g := fun g hg e => Blk.own_ne HT.out HO.out (by decide) (by rw [hg]; exact congrArg some e)
      have hb6 := HT.out.kpt k6 htb
      have f6 := hb6.frozen 3
      have c63 := hb6.cell 3
      simp only [List.getElem?_toArray, List.getElem?_cons_zero, List.getElem?_cons_succ] at c63
      have hbf : Blk (w6.setCell ⟨w4.heap.size, 3, none⟩ (.string (strB x1))) w4.heap.size 36 #[.int .i64 (a1 : Int), .string (strB b1), tv, .string (strB x1)] := hb6.set_ 3 (.string (strB x1))
      have hR7 := hR6.keep (w' := w6.setCell ⟨w4.heap.size, 3, none⟩ (.string (strB x1))) ((Kpt.refl (One w4.heap.size) w6).setOne 3 _) (fun e => by have e' : b = w4.heap.size := e; omega) (fun g' cur hg' e => by have e' : g' = w4.heap.size := e; subst e'; exact Blk.ne_ hg' hb6 (by decide) rfl)
      have ho7 := own_kpt (own_kpt HO.out k6 hbo) ((Kpt.refl (One w4.heap.size) w6).setOne 3 (.string (strB x1))) hto
      have hz7 := (HZ.out.kpt k6 hwb).far (p := ⟨w4.heap.size, 3, none⟩) hwt (.string (strB x1))
      have kk7 : Kpt Non w (w6.setCell ⟨w4.heap.size, 3, none⟩ (.string (strB x1))) := Kpt.trans (S' := One w4.heap.size) (Kpt.trans (S' := One b) HK.out k6 (fun i hi hlt => by have hi' : i = b := hi; omega)) ((Kpt.refl _ w6).setOne 3 _) (fun i hi hlt => by have hi' : i = w4.heap.size := hi; omega)
      obtain ⟨A, c, rfl, hcA, hcB⟩ := own_slice ho7
      have HBF := Lib.hid hbf; have HR7 := Lib.hid hR7; have HO7 := Lib.hid ho7; have HZ7 := Lib.hid hz7; have KK7 := Lib.hid kk7; have HE := Lib.hid hE
      have KX := Lib.hid k6; have HR6 := Lib.hid hR6
      clear hb6 hbf hR7 ho7 hz7 kk7 hE k6 hR6 hbo hto
      have E112 := f112_any b x2 (bytesOf s) x3 _ HR7.out
      have hle := HR7.out.le
      have hdec : decT (bytesOf s) = if (x3 = 0 ∧ x2 = (bytesOf s).length) ∧ chkT ⟨a1, strB b1, L, strB x1⟩ = 0 then (⟨a1, strB b1, L, strB x1⟩, 0) else (zeroT, 3) := by
        unfold decT decOk
        rw [HE.out]
        simp only [Bool.and_eq_true, decide_eq_true_eq]
      have HDec := Lib.hid hdec; clear hdec
      by_cases hc0 : x3 = 0 ∧ x2 = (bytesOf s).length
      · have hcv : (if x3 = 0 ∧ x2 < (bytesOf s).length then (5 : Int) else x3) = 0 := by rw [if_neg (by omega)]; exact hc0.1
        rw [hcv] at E112
        have H112 := Lib.hid E112; clear E112
        have HC0 := Lib.hid hc0; clear hc0 hcv
        go_wp2_with fail
        refine H112.out.mono ?_
        rintro e' w8 ⟨rfl, q, rfl⟩
        have d := HBF.out.drewN q
        have d0 := d.cell 0
        have d1 := d.cell 1
        have d2 := d.cell 2
        have d3 := d.cell 3
        simp only [List.getElem?_toArray, List.getElem?_cons_zero, List.getElem?_cons_succ] at d0 d1 d2 d3
        clear d
        go_wp2_with fail
        have ok : TmOk ⟨(a1 : Int), strB b1, L, strB x1⟩ := by
          refine ⟨?_, ?_, ?_, by simp only; omega⟩
          · simp only [strB_size]; have := rdText_len 64 a2 a3 (bytesOf s); rw [HB.out] at this; simp only at this; omega
          · intro x hx
            have := rdMany_size (bytesOf s) n c2 c3 x (by rw [HMM.out]; exact hx)
            omega
          · simp only [strB_size]; have := rdText_len 2048 a e (bytesOf s); rw [HX.out] at this; simp only at this; omega
        have e41 := f41_any ⟨(a1 : Int), strB b1, L, strB x1⟩ _ (fun i => w.heap.size ≤ i) ((w6.setCell ⟨w4.heap.size, 3, none⟩ (.string (strB x1))).drewN q) ⟨A, c, rfl, hcA, hcB, ((Rd.of_own HO7.out).drewN q).more (fun i hi => hi.1)⟩ ok
        clear ok
        by_cases hck : chkT ⟨(a1 : Int), strB b1, L, strB x1⟩ = 0
        · rw [hck] at e41
          have HCk := Lib.hid hck; clear hck
          have H41 := Lib.hid e41; clear e41
          refine H41.out.mono ?_
          rintro e' w9 ⟨rfl, k9⟩
          have d := (HBF.out.drewN q).kpt k9 (fun e => e)
          have z := (HZ7.out.drewN q).kpt k9 (fun e => e)
          have d0 := d.cell 0
          have d1 := d.cell 1
          have d2 := d.cell 2
          have d3 := d.cell 3
          have z0 := z.cell 0
          have z1 := z.cell 1
          have z2 := z.cell 2
          have z3 := z.cell 3
          have fz0 := z.frozen 0
          have fz1 := z.frozen 1
          have fz2 := z.frozen 2
          have fz3 := z.frozen 3
          simp only [List.getElem?_toArray, List.getElem?_cons_zero, List.getElem?_cons_succ] at d0 d1 d2 d3 z0 z1 z2 z3
          have HD := Lib.hid d; have HZ9 := Lib.hid z; have K9 := Lib.hid k9; clear d z k9
          go_wp2_with fail
          have hzf : Blk ((((w9.setCell ⟨w.heap.size, 0, none⟩ (.int .i64 (a1 : Int))).setCell ⟨w.heap.size, 1, none⟩ (.string (strB b1))).setCell ⟨w.heap.size, 2, none⟩ (.slice A L.length c)).setCell ⟨w.heap.size, 3, none⟩ (.string (strB x1))) w.heap.size 36 #[.int .i64 (a1 : Int), .string (strB b1), .slice A L.length c, .string (strB x1)] := (((HZ9.out.set_ 0 _).set_ 1 _).set_ 2 _).set_ 3 _
          have hof := own_kpt (own_kpt HO7.out (Kpt.drewN (Kpt.refl Non _) q) (fun _ _ e => e)) K9.out (fun _ _ e => e)
          have hzo : ∀ g, (Value.slice A L.length c).ownBlock = some g → ¬ One w.heap.size g := fun g hg e => Blk.own_ne HZ9.out hof (by decide) (by rw [hg]; exact congrArg some e)
          have hof2 := own_kpt (own_kpt (own_kpt (own_kpt hof ((Kpt.refl (One w.heap.size) w9).setOne 0 (.int .i64 (a1 : Int))) hzo) ((Kpt.refl (One w.heap.size) _).setOne 1 (.string (strB b1))) hzo) ((Kpt.refl (One w.heap.size) _).setOne 2 (.slice A L.length c)) hzo) ((Kpt.refl (One w.heap.size) _).setOne 3 (.string (strB x1))) hzo
          have kf : Kpt Non w ((((w9.setCell ⟨w.heap.size, 0, none⟩ (.int .i64 (a1 : Int))).setCell ⟨w.heap.size, 1, none⟩ (.string (strB b1))).setCell ⟨w.heap.size, 2, none⟩ (.slice A L.length c)).setCell ⟨w.heap.size, 3, none⟩ (.string (strB x1))) := by
            have hh : ∀ (x : World) (i : Nat) (v : Value), Kpt Non w x → Kpt Non w (x.setCell ⟨w.heap.size, i, none⟩ v) := fun x i v k => k.setCell (fun h => absurd h (Nat.lt_irrefl _)) v
            exact hh _ _ _ (hh _ _ _ (hh _ _ _ (hh _ _ _ (Kpt.trans (Kpt.drewN KK7.out q) K9.out (fun _ e _ => e)))))
          have hd : decT (bytesOf s) = (⟨(a1 : Int), strB b1, L, strB x1⟩, 0) := by rw [HDec.out, if_pos ⟨HC0.out, HCk.out⟩]
          have y0 := hzf.cell 0
          have y1 := hzf.cell 1
          have y2 := hzf.cell 2
          have y3 := hzf.cell 3
          simp only [List.getElem?_toArray, List.getElem?_cons_zero, List.getElem?_cons_succ] at y0 y1 y2 y3
          refine bodyPost_ret (v := .tuple #[.agg #[.int .i64 (a1 : Int), .string (strB b1), .slice A L.length c, .string (strB x1)], .int .i64 0]) ?_ rfl ⟨_, by rw [hd], by rw [hd]; exact ⟨A, c, rfl, hcA, hcB, (Rd.of_own hof2).more (fun i hi => hi.1)⟩, kf⟩
          generalize (((w9.setCell ⟨w.heap.size, 0, none⟩ (.int .i64 (a1 : Int))).setCell ⟨w.heap.size, 1, none⟩ (.string (strB b1))).setCell ⟨w.heap.size, 2, none⟩ (.slice A L.length c)).setCell ⟨w.heap.size, 3, none⟩ (.string (strB x1)) = wf at y0 y1 y2 y3
          simp [results, Tryz.results26, go_sem, y0, y1, y2, y3]
        · have hck' : (chkT ⟨(a1 : Int), strB b1, L, strB x1⟩ != 0) = true := by rw [bne_iff_ne]; exact hck
          have HCk := Lib.hid hck; clear hck
          obtain ⟨ck, hckv⟩ : ∃ ck, chkT ⟨(a1 : Int), strB b1, L, strB x1⟩ = ck := ⟨_, rfl⟩
          rw [hckv] at e41 hck'
          have H41 := Lib.hid e41; clear e41 hckv
          refine H41.out.mono ?_
          rintro e' w9 ⟨rfl, k9⟩
          have z := (HZ7.out.drewN q).kpt k9 (fun e => e)
          have z0 := z.cell 0
          have z1 := z.cell 1
          have z2 := z.cell 2
          have z3 := z.cell 3
          have fz0 := z.frozen 0
          have fz1 := z.frozen 1
          have fz2 := z.frozen 2
          have fz3 := z.frozen 3
          simp only [List.getElem?_toArray, List.getElem?_cons_zero, List.getElem?_cons_succ] at z0 z1 z2 z3
          have HZ9 := Lib.hid z; have K9 := Lib.hid k9; clear z k9
          go_wp2_with fail
          have hzf : Blk ((((w9.setCell ⟨w.heap.size, 0, none⟩ (.int .i64 0)).setCell ⟨w.heap.size, 1, none⟩ (.string ⟨#[]⟩)).setCell ⟨w.heap.size, 2, none⟩ (.slice none 0 0)).setCell ⟨w.heap.size, 3, none⟩ (.string ⟨#[]⟩)) w.heap.size 36 #[.int .i64 0, .string ⟨#[]⟩, .slice none 0 0, .string ⟨#[]⟩] := (((HZ9.out.set_ 0 _).set_ 1 _).set_ 2 _).set_ 3 _
          have kf : Kpt Non w ((((w9.setCell ⟨w.heap.size, 0, none⟩ (.int .i64 0)).setCell ⟨w.heap.size, 1, none⟩ (.string ⟨#[]⟩)).setCell ⟨w.heap.size, 2, none⟩ (.slice none 0 0)).setCell ⟨w.heap.size, 3, none⟩ (.string ⟨#[]⟩)) := by
            have hh : ∀ (x : World) (i : Nat) (v : Value), Kpt Non w x → Kpt Non w (x.setCell ⟨w.heap.size, i, none⟩ v) := fun x i v k => k.setCell (fun h => absurd h (Nat.lt_irrefl _)) v
            exact hh _ _ _ (hh _ _ _ (hh _ _ _ (hh _ _ _ (Kpt.trans (Kpt.drewN KK7.out q) K9.out (fun _ e _ => e)))))
          have hd : decT (bytesOf s) = (zeroT, 3) := by rw [HDec.out, if_neg (fun e => HCk.out e.2)]
          have y0 := hzf.cell 0
          have y1 := hzf.cell 1
          have y2 := hzf.cell 2
          have y3 := hzf.cell 3
          simp only [List.getElem?_toArray, List.getElem?_cons_zero, List.getElem?_cons_succ] at y0 y1 y2 y3
          refine bodyPost_ret (v := .tuple #[.agg #[.int .i64 0, .string ⟨#[]⟩, .slice none 0 0, .string ⟨#[]⟩], .int .i64 3]) ?_ rfl ⟨_, by rw [hd], by rw [hd]; exact ⟨none, 0, rfl, Nat.le_refl _, by simp [maxLen], Rd.nil _ _ _ _⟩, kf⟩
          generalize ((((w9.setCell ⟨w.heap.size, 0, none⟩ (.int .i64 0)).setCell ⟨w.heap.size, 1, none⟩ (.string ⟨#[]⟩)).setCell ⟨w.heap.size, 2, none⟩ (.slice none 0 0)).setCell ⟨w.heap.size, 3, none⟩ (.string ⟨#[]⟩)) = wf at y0 y1 y2 y3
          simp [results, Tryz.results26, go_sem, y0, y1, y2, y3]
      · have hcv : ((if x3 = 0 ∧ x2 < (bytesOf s).length then (5 : Int) else x3) != 0) = true := by
          rw [bne_iff_ne]
          split
          · decide
          · rename_i h; intro e; exact hc0 ⟨e, by omega⟩
        obtain ⟨cv, hcve⟩ : ∃ cv, (if x3 = 0 ∧ x2 < (bytesOf s).length then (5 : Int) else x3) = cv := ⟨_, rfl⟩
        rw [hcve] at E112 hcv
        have H112 := Lib.hid E112; clear E112 hcve
        have HC0 := Lib.hid hc0; clear hc0
        go_wp2_with fail
        refine H112.out.mono ?_
        rintro e' w8 ⟨rfl, q, rfl⟩
        have z := HZ7.out.drewN q
        have z0 := z.cell 0
        have z1 := z.cell 1
        have z2 := z.cell 2
        have z3 := z.cell 3
        have fz0 := z.frozen 0
        have fz1 := z.frozen 1
        have fz2 := z.frozen 2
        have fz3 := z.frozen 3
        simp only [List.getElem?_toArray, List.getElem?_cons_zero, List.getElem?_cons_succ] at z0 z1 z2 z3
        have HZ9 := Lib.hid z; clear z
        have K9 : Hid (Kpt Non w ((w6.setCell ⟨w4.heap.size, 3, none⟩ (.string (strB x1))).drewN q)) := Lib.hid (Kpt.drewN KK7.out q)
        generalize hw9 : (w6.setCell ⟨w4.heap.size, 3, none⟩ (.string (strB x1))).drewN q = w9 at z0 z1 z2 z3 fz0 fz1 fz2 fz3 HZ9 K9 ⊢
        clear hw9
        go_wp2_with fail
        have hzf : Blk ((((w9.setCell ⟨w.heap.size, 0, none⟩ (.int .i64 0)).setCell ⟨w.heap.size, 1, none⟩ (.string ⟨#[]⟩)).setCell ⟨w.heap.size, 2, none⟩ (.slice none 0 0)).setCell ⟨w.heap.size, 3, none⟩ (.string ⟨#[]⟩)) w.heap.size 36 #[.int .i64 0, .string ⟨#[]⟩, .slice none 0 0, .string ⟨#[]⟩] := (((HZ9.out.set_ 0 _).set_ 1 _).set_ 2 _).set_ 3 _
        have kf : Kpt Non w ((((w9.setCell ⟨w.heap.size, 0, none⟩ (.int .i64 0)).setCell ⟨w.heap.size, 1, none⟩ (.string ⟨#[]⟩)).setCell ⟨w.heap.size, 2, none⟩ (.slice none 0 0)).setCell ⟨w.heap.size, 3, none⟩ (.string ⟨#[]⟩)) := by
          have hh : ∀ (x : World) (i : Nat) (v : Value), Kpt Non w x → Kpt Non w (x.setCell ⟨w.heap.size, i, none⟩ v) := fun x i v k => k.setCell (fun h => absurd h (Nat.lt_irrefl _)) v
          exact hh _ _ _ (hh _ _ _ (hh _ _ _ (hh _ _ _ (K9.out))))
        have hd : decT (bytesOf s) = (zeroT, 3) := by rw [HDec.out, if_neg (fun e => HC0.out e.1)]
        have y0 := hzf.cell 0
        have y1 := hzf.cell 1
        have y2 := hzf.cell 2
        have y3 := hzf.cell 3
        simp only [List.getElem?_toArray, List.getElem?_cons_zero, List.getElem?_cons_succ] at y0 y1 y2 y3
        refine bodyPost_ret (v := .tuple #[.agg #[.int .i64 0, .string ⟨#[]⟩, .slice none 0 0, .string ⟨#[]⟩], .int .i64 3]) ?_ rfl ⟨_, by rw [hd], by rw [hd]; exact ⟨none, 0, rfl, Nat.le_refl _, by simp [maxLen], Rd.nil _ _ _ _⟩, kf⟩
        generalize ((((w9.setCell ⟨w.heap.size, 0, none⟩ (.int .i64 0)).setCell ⟨w.heap.size, 1, none⟩ (.string ⟨#[]⟩)).setCell ⟨w.heap.size, 2, none⟩ (.slice none 0 0)).setCell ⟨w.heap.size, 3, none⟩ (.string ⟨#[]⟩)) = wf at y0 y1 y2 y3
        simp [results, Tryz.results26, go_sem, y0, y1, y2, y3]
end Go.Proofs.YtkpmabknjdgkmaaGreatDoor
