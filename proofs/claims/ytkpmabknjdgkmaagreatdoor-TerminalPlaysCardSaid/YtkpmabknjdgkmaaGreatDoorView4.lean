/- The walk of View.Set; and what the laws know of views. -/
import Derived.Test.YtkpmabknjdgkmaaGreatDoorView3
namespace Go.Proofs.YtkpmabknjdgkmaaGreatDoor
open Go.RowKit

set_option maxHeartbeats 1000000 in
theorem f162_any (K : Nm → Prop) (bs : Nat) (w : World) (sa : Addr) (b r n : Nat) (m : VwM) (hv : IsView K bs w sa b r n m) (nm : Nm) (s : ByteArray) (ok : OkNm nm) (hlen : s.size ≤ 65536) (hcalls : m.calls.length ≤ 1000000) :
    Calls Tryz.prog 78 #[.pointer (some ⟨b, 0, none⟩), nm.val, .string s] w fun e w' => e = .returned (.int .i64 0) ∧ Kpt (fun i => i = b ∨ i = n) w w' ∧ IsView K bs w' sa b r n (m.call ⟨nm, s, false⟩) := by
  have c208 := fun w1 (h : IsView K bs w1 sa b r n m) => f208_any K bs w1 sa b r n m h ⟨nm, s, false⟩ ok hlen hcalls
  have C208 := Lib.hid c208; clear c208
  have HV := Lib.hid hv; clear hv
  obtain ⟨n1, n2, n3, n4, n5⟩ := nm
  unfold Nm.val Nm.cells at *
  go_enter Tryz.func78, Tryz.ntmps78
  go_wp2_with fail
  refine (C208.out _ (HV.out.non (Kpt.alloc (Kpt.refl _ _) _))).mono ?_
  rintro e w1 ⟨rfl, k1, hv1⟩
  have K1 := Lib.hid k1; clear k1
  have HV1 := Lib.hid hv1; clear hv1
  go_wp2_with fail
  go_ret
  exact ⟨rfl, Kpt.trans (Kpt.alloc (Kpt.refl _ _) _) K1.out (fun _ h _ => h), HV1.out⟩
end Go.Proofs.YtkpmabknjdgkmaaGreatDoor
