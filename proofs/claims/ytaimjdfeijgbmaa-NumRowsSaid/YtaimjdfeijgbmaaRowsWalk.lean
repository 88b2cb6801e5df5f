/- The walk of NumRows, whatever the texts. -/
import Derived.Test.YtaimjdfeijgbmaaPureRows
import Derived.Test.YtaimjdfeijgbmaaOpen
namespace Go.Proofs.Ytaimjdfeijgbmaa
theorem numRows_walk {v : Value} {l : List ByteArray} {w : World} (h : TextsAt w v l) : Calls Try.prog 3 #[v] w fun e w' => e = .returned (.bool true) ∧ Go.RowKit.Below w.heap.size w w' := by
  obtain ⟨A, c, rfl, hc, hC, hl, hs⟩ := h
  obtain ⟨k, hk⟩ := numRows_pure l hl hs
  exact PLaw.hibernaclelaw01_NumRows.calls k A c l true w hC hc hk
end Go.Proofs.Ytaimjdfeijgbmaa
