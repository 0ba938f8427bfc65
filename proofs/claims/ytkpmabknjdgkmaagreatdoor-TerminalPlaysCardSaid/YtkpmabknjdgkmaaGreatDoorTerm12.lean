/- The walk of terminal.ReadLine. -/
import Derived.Test.YtkpmabknjdgkmaaGreatDoorTerm11
namespace Go.Proofs.YtkpmabknjdgkmaaGreatDoor
open Go.RowKit

theorem ent96 (args : Array Value) (w : World) : (callFunc 47 args).run Tryz.prog w = .ok (.enter 47 args) w := by kernel_rfl

def lineOf (m : VwM) (number epoch : Int) (who : ByteArray) : ByteArray := if (getT m number epoch).2 = 0 then readL who (getT m number epoch).1 else es

set_option maxRecDepth 100000 in
set_option maxHeartbeats 1000000 in
theorem f29_any (K : Nm → Prop) (bs : Nat) (w : World) (sa : Addr) (b r n : Nat) (m : VwM) (hv : IsView K bs w sa b r n m) (number epoch : Int) (who : ByteArray) (hK : 1 ≤ number ∧ number ≤ 99 → K (ofTerminal number))
    (hsz : 1 ≤ number ∧ number ≤ 99 → (m.get (ofTerminal number)).1.size ≤ 1099511627776) (hw : who.size ≤ 140737488351232) (hgs : (getT m number epoch).1.session.size ≤ 140737488351232) (hgl : (getT m number epoch).1.typed.length ≤ 1048576)
    (hok : TmOk (readT who (getT m number epoch).1).1) (hss : (readT who (getT m number epoch).1).1.session.size ≤ 16777216) (hlen : chkT (readT who (getT m number epoch).1).1 = 0 → (encT (readT who (getT m number epoch).1).1).length ≤ 65536) (hcalls : (getM m number epoch).calls.length ≤ 1000000) :
    Calls Tryz.prog 16 #[.pointer (some ⟨b, 0, none⟩), .int .i64 number, .int .i64 epoch, .string who] w fun e w' => e = .returned (.tuple #[.string (lineOf m number epoch who), .int .i64 (chgT m number epoch (readT who)).2]) ∧ IsView K bs w' sa b r n (chgT m number epoch (readT who)).1 ∧ Kpt (fun i => i = b ∨ i = r ∨ i = n) w w' := by
  have hvk := hv.non (Kpt.alloc (Kpt.refl _ _) (.cells #[.string who, .string ⟨#[]⟩, .string ⟨#[]⟩] 98))
  have e93 := f93_any K bs _ sa b r n w.heap.size 47 #[.string who, .string ⟨#[]⟩, .string ⟨#[]⟩] #[.string who, .string ⟨#[]⟩, .string (readL who (getT m number epoch).1)] m hvk (Blk.new w 98 _) hv.size number epoch hK hsz (readT who) ent96
    (fun w' tb D hq ht hd hne => (f96_any w.heap.size tb who _ D _ w' hq ht hd hw hgs hgl).mono (fun e w'' h => h)) hok hss hlen hcalls
  have H93 := Lib.hid e93; clear e93 hvk hv
  go_enter Tryz.func16, Tryz.ntmps16
  go_wp2_with fail
  refine H93.out.mono ?_
  rintro e w1 ⟨rfl, hv1, k1, hq1⟩
  have hc : w1.cell? ⟨w.heap.size, 2, none⟩ = some (.string (lineOf m number epoch who)) := by
    rw [hq1.cell 2]
    unfold lineOf
    split <;> rfl
  have HV1 := Lib.hid hv1; have K1 := Lib.hid k1; clear hv1 k1 hq1
  go_wp2_with fail
  go_ret2
  exact ⟨rfl, HV1.out, kpt_view (Kpt.alloc (Kpt.refl _ _) _) K1.out⟩
end Go.Proofs.YtkpmabknjdgkmaaGreatDoor
