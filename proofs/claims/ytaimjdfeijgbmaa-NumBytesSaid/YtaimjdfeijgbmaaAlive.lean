/- The chapter's examples hold. -/
import Derived.Test.YtaimjdfeijgbmaaSmall
import Derived.KernelRfl
namespace Go.Proofs.Ytaimjdfeijgbmaa
open Go.RowKit Go.Proofs.YtaimjdfeijgbmaaW.PrintWords Go.Proofs.YtaimjdfeijgbmaaW.PrintLast Go.Proofs.YtaimjdfeijgbmaaW.PrintMore

theorem alive_row : num_Row.f [(⟨#[97, 98]⟩ : ByteArray), (⟨#[]⟩ : ByteArray)] = some ⟨#[2, 97, 98, 0]⟩ := by
  have e : rowU [(⟨#[97, 98]⟩ : ByteArray), (⟨#[]⟩ : ByteArray)] = [2, 97, 98, 0] := by
    simp only [rowU, List.flatMap_cons, List.flatMap_nil]
    rw [lenU, if_pos (by decide), lenU, if_pos (by decide)]
    rfl
  unfold num_Row.f
  rw [e]
  rfl
theorem alive_60 : PLaw.hibernaclelaw01_numAlive.f 60 = some true := by
  unfold PLaw.hibernaclelaw01_numAlive.f
  rw [alive_row]
  kernel_rfl
theorem alive (d : Nat) : PLaw.hibernaclelaw01_numAlive.f (60 + d) = some true := by
  induction d with
  | zero => exact alive_60
  | succ d ih => exact PLaw.hibernaclelaw01_numAlive.mono _ _ ih
theorem alive_f (k : Nat) (h : 60 ≤ k) : PLaw.hibernaclelaw01_numAlive.f k = some true := by
  obtain ⟨d, rfl⟩ := Nat.exists_eq_add_of_le h
  exact alive d
end Go.Proofs.Ytaimjdfeijgbmaa
