/- The walks of NumApart and NumNests, whatever the texts. -/
import Derived.Test.YtaimjdfeijgbmaaPureApart
import Derived.Test.YtaimjdfeijgbmaaPureNests
import Derived.Test.YtaimjdfeijgbmaaOpen
namespace Go.Proofs.Ytaimjdfeijgbmaa
theorem numApart_walk {u v : Value} {l m : List ByteArray} {w : World} (h : TextsAt w u l) (h2 : TextsAt w v m) (c : Int) (hc0 : 0 ≤ c) (hc : c ≤ 65535) :
    Calls Try.prog 5 #[u, v, .int .u16 c] w fun e w' => e = .returned (.bool true) ∧ Go.RowKit.Below w.heap.size w w' := by
  obtain ⟨A, c1, rfl, hc1, hC, hl, hs⟩ := h
  obtain ⟨B, c2, rfl, hc2, hC2, hl2, hs2⟩ := h2
  obtain ⟨k, hk⟩ := numApart_pure l m hl hs hl2 hs2 c hc0 hc
  exact PLaw.hibernaclelaw01_NumApart.calls k A c1 l B c2 m c true w hC hc1 hC2 hc2 hk
theorem numNests_walk {v : Value} {l : List (List ByteArray)} {w : World} (h : RowsAt w v l) : Calls Try.prog 6 #[v] w fun e w' => e = .returned (.bool true) ∧ Go.RowKit.Below w.heap.size w w' := by
  obtain ⟨A, c, rfl, hc, hC, hl, hs⟩ := h
  obtain ⟨k, hk⟩ := numNests_pure l hs
  exact PLaw.hibernaclelaw01_NumNests.calls k A c l true w hC hc hk
end Go.Proofs.Ytaimjdfeijgbmaa
