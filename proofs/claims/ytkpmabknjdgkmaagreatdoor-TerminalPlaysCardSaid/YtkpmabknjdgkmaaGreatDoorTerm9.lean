/- The walks of terminal.Begin, End, Type. -/
import Derived.Test.YtkpmabknjdgkmaaGreatDoorTerm8
namespace Go.Proofs.YtkpmabknjdgkmaaGreatDoor
open Go.RowKit

theorem kpt_view {w w1 w2 : World} {b r n : Nat} (h1 : Kpt Non w w1) (h2 : Kpt (fun i => i = b ∨ i = r ∨ i = n ∨ i = w.heap.size) w1 w2) : Kpt (fun i => i = b ∨ i = r ∨ i = n) w w2 :=
  Kpt.trans h1.up h2 (fun i hi hlt => by
    rcases hi with e | e | e | e
    · exact .inl e
    · exact .inr (.inl e)
    · exact .inr (.inr e)
    · omega)

theorem ent94 (args : Array Value) (w : World) : (callFunc 45 args).run Tryz.prog w = .ok (.enter 45 args) w := by kernel_rfl
theorem ent99 (args : Array Value) (w : World) : (callFunc 50 args).run Tryz.prog w = .ok (.enter 50 args) w := by kernel_rfl
theorem ent95 (args : Array Value) (w : World) : (callFunc 46 args).run Tryz.prog w = .ok (.enter 46 args) w := by kernel_rfl
theorem ent117 (args : Array Value) (w : World) : (callFunc 68 args).run Tryz.prog w = .ok (.enter 68 args) w := by kernel_rfl

set_option maxRecDepth 100000 in
set_option maxHeartbeats 1000000 in
theorem f27_any (K : Nm → Prop) (bs : Nat) (w : World) (sa : Addr) (b r n : Nat) (m : VwM) (hv : IsView K bs w sa b r n m) (number epoch : Int) (who : ByteArray) (hK : 1 ≤ number ∧ number ≤ 99 → K (ofTerminal number))
    (hsz : 1 ≤ number ∧ number ≤ 99 → (m.get (ofTerminal number)).1.size ≤ 1099511627776) (hw : who.size ≤ 140737488351232)
    (hok : TmOk (beginT who (getT m number epoch).1).1) (hss : (beginT who (getT m number epoch).1).1.session.size ≤ 16777216) (hlen : chkT (beginT who (getT m number epoch).1).1 = 0 → (encT (beginT who (getT m number epoch).1).1).length ≤ 65536) (hcalls : (getM m number epoch).calls.length ≤ 1000000) :
    Calls Tryz.prog 14 #[.pointer (some ⟨b, 0, none⟩), .int .i64 number, .int .i64 epoch, .string who] w fun e w' => e = .returned (.int .i64 (chgT m number epoch (beginT who)).2) ∧ IsView K bs w' sa b r n (chgT m number epoch (beginT who)).1 ∧ Kpt (fun i => i = b ∨ i = r ∨ i = n) w w' := by
  have hvk := hv.non (Kpt.alloc (Kpt.refl _ _) (.cells #[.string who, .string ⟨#[]⟩, .string ⟨#[]⟩] 98))
  have e93 := f93_any K bs _ sa b r n w.heap.size 45 #[.string who, .string ⟨#[]⟩, .string ⟨#[]⟩] #[.string who, .string ⟨#[]⟩, .string ⟨#[]⟩] m hvk (Blk.new w 98 _) hv.size number epoch hK hsz (beginT who) ent94
    (fun w' tb D hq ht hd hne => (f94_any w.heap.size tb who _ _ D _ w' hq ht hw).mono (fun e w'' h => ⟨h.1, h.2.1.more (fun i hi => .inl hi) (fun e => by
      obtain ⟨A, c, hb, _, _, _, hdd⟩ := ht
      rcases e with e | e
      · exact hdd e
      · have := hb.lt; omega), h.2.2.mono (fun i hi => .inl hi), hq.kpt h.2.2 (fun e => hne e)⟩)) hok hss hlen hcalls
  have H93 := Lib.hid e93; clear e93 hvk hv
  go_enter Tryz.func14, Tryz.ntmps14
  go_wp2_with fail
  refine H93.out.mono ?_
  rintro e w1 ⟨rfl, hv1, k1, _⟩
  have HV1 := Lib.hid hv1; have K1 := Lib.hid k1; clear hv1 k1
  go_wp2_with fail
  go_ret
  exact ⟨rfl, HV1.out, kpt_view (Kpt.alloc (Kpt.refl _ _) _) K1.out⟩
set_option maxRecDepth 100000 in
set_option maxHeartbeats 1000000 in
theorem f32_any (K : Nm → Prop) (bs : Nat) (w : World) (sa : Addr) (b r n : Nat) (m : VwM) (hv : IsView K bs w sa b r n m) (number epoch : Int) (who : ByteArray) (hK : 1 ≤ number ∧ number ≤ 99 → K (ofTerminal number))
    (hsz : 1 ≤ number ∧ number ≤ 99 → (m.get (ofTerminal number)).1.size ≤ 1099511627776)
    (hok : TmOk (endT who (getT m number epoch).1).1) (hss : (endT who (getT m number epoch).1).1.session.size ≤ 16777216) (hlen : chkT (endT who (getT m number epoch).1).1 = 0 → (encT (endT who (getT m number epoch).1).1).length ≤ 65536) (hcalls : (getM m number epoch).calls.length ≤ 1000000) :
    Calls Tryz.prog 19 #[.pointer (some ⟨b, 0, none⟩), .int .i64 number, .int .i64 epoch, .string who] w fun e w' => e = .returned (.int .i64 (chgT m number epoch (endT who)).2) ∧ IsView K bs w' sa b r n (chgT m number epoch (endT who)).1 ∧ Kpt (fun i => i = b ∨ i = r ∨ i = n) w w' := by
  have hvk := hv.non (Kpt.alloc (Kpt.refl _ _) (.cells #[.string who, .string ⟨#[]⟩, .string ⟨#[]⟩] 98))
  have e93 := f93_any K bs _ sa b r n w.heap.size 50 #[.string who, .string ⟨#[]⟩, .string ⟨#[]⟩] #[.string who, .string ⟨#[]⟩, .string ⟨#[]⟩] m hvk (Blk.new w 98 _) hv.size number epoch hK hsz (endT who) ent99
    (fun w' tb D hq ht hd hne => (f99_any w.heap.size tb who _ _ D _ w' hq ht).mono (fun e w'' h => ⟨h.1, h.2.1.more (fun i hi => .inl hi) (fun e => by
      obtain ⟨A, c, hb, _, _, _, hdd⟩ := ht
      rcases e with e | e
      · exact hdd e
      · have := hb.lt; omega), h.2.2.mono (fun i hi => .inl hi), hq.kpt h.2.2 (fun e => hne e)⟩)) hok hss hlen hcalls
  have H93 := Lib.hid e93; clear e93 hvk hv
  go_enter Tryz.func19, Tryz.ntmps19
  go_wp2_with fail
  refine H93.out.mono ?_
  rintro e w1 ⟨rfl, hv1, k1, _⟩
  have HV1 := Lib.hid hv1; have K1 := Lib.hid k1; clear hv1 k1
  go_wp2_with fail
  go_ret
  exact ⟨rfl, HV1.out, kpt_view (Kpt.alloc (Kpt.refl _ _) _) K1.out⟩

set_option maxRecDepth 100000 in
set_option maxHeartbeats 1000000 in
theorem f28_any (K : Nm → Prop) (bs : Nat) (w : World) (sa : Addr) (b r n : Nat) (m : VwM) (hv : IsView K bs w sa b r n m) (number epoch : Int) (text : ByteArray) (hK : 1 ≤ number ∧ number ≤ 99 → K (ofTerminal number))
    (hsz : 1 ≤ number ∧ number ≤ 99 → (m.get (ofTerminal number)).1.size ≤ 1099511627776) (hw : text.size ≤ 140737488351232) (hgs : (getT m number epoch).1.screen.size ≤ 1099511627776) (hgl : (getT m number epoch).1.typed.length ≤ 1048576)
    (hok : TmOk (typedT text (getT m number epoch).1).1) (hss : (typedT text (getT m number epoch).1).1.session.size ≤ 16777216) (hlen : chkT (typedT text (getT m number epoch).1).1 = 0 → (encT (typedT text (getT m number epoch).1).1).length ≤ 65536) (hcalls : (getM m number epoch).calls.length ≤ 1000000) :
    Calls Tryz.prog 15 #[.pointer (some ⟨b, 0, none⟩), .int .i64 number, .int .i64 epoch, .string text] w fun e w' => e = .returned (.int .i64 (chgT m number epoch (typedT text)).2) ∧ IsView K bs w' sa b r n (chgT m number epoch (typedT text)).1 ∧ Kpt (fun i => i = b ∨ i = r ∨ i = n) w w' := by
  have hvk := hv.non (Kpt.alloc (Kpt.refl _ _) (.cells #[.string ⟨#[]⟩, .string text, .string ⟨#[]⟩] 98))
  have e93 := f93_any K bs _ sa b r n w.heap.size 46 #[.string ⟨#[]⟩, .string text, .string ⟨#[]⟩] #[.string ⟨#[]⟩, .string text, .string ⟨#[]⟩] m hvk (Blk.new w 98 _) hv.size number epoch hK hsz (typedT text) ent95
    (fun w' tb D hq ht hd hne => (f95_any w.heap.size tb _ text _ D _ w' hq ht hgs hw hgl).mono (fun e w'' h => ⟨h.1, h.2.1, h.2.2.mono (fun i hi => .inl hi), hq.kpt h.2.2 (fun e => hne e)⟩)) hok hss hlen hcalls
  have H93 := Lib.hid e93; clear e93 hvk hv
  go_enter Tryz.func15, Tryz.ntmps15
  go_wp2_with fail
  refine H93.out.mono ?_
  rintro e w1 ⟨rfl, hv1, k1, _⟩
  have HV1 := Lib.hid hv1; have K1 := Lib.hid k1; clear hv1 k1
  go_wp2_with fail
  go_ret
  exact ⟨rfl, HV1.out, kpt_view (Kpt.alloc (Kpt.refl _ _) _) K1.out⟩
end Go.Proofs.YtkpmabknjdgkmaaGreatDoor
