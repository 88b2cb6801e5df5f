/- The pure statement of NumTexts. -/
import Derived.Test.YtaimjdfeijgbmaaPureRows
namespace Go.Proofs.Ytaimjdfeijgbmaa.Pure
theorem NumTexts : PLaw.hibernaclelaw01_NumTexts.Pure := numTexts_pure
end Go.Proofs.Ytaimjdfeijgbmaa.Pure
