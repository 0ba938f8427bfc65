/- A row of the call's own: where its cells lie. No condition. -/
import Derived.Test.YtkpmabknjdgkmaaGreatDoorBase
namespace Go.Proofs.YtkpmabknjdgkmaaGreatDoor
open Go.RowKit

theorem own_cells {w : World} {base n c size : Nat} {e : TypeId} {ad : Addr} {xs : List Value} (h : w.ownsRow base e size (.slice (some ad) n c) n xs) : ∀ j u, xs[j]? = some u → w.cell? (ad.add j) = some u := by
  rcases h.2 with ⟨h', _⟩ | ⟨g, cap, cur, hv, _⟩
  · simp at h'
  · have e1 : ad = ⟨g, 0, none⟩ := by injection hv with hv; injection hv
    subst e1
    exact h.cells (g := g) rfl
end Go.Proofs.YtkpmabknjdgkmaaGreatDoor
