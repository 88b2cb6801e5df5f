/- What start-up lays: the table and the two errors, out of a card's row. -/
import Derived.Test.YtokcmaehojljdaaDoorRows
import Derived.Test.YtokcmaehojljdaaDoorCards
import Derived.Test.YtokcmaehojljdaaDoorTie
import Derived.Test.YtokcmaehojljdaaDoorDec
import Derived.WalkKit
import Derived.ProofKit
import Derived.LaidMore
import Derived.OpenShut
import Derived.Stop.Joined
import Derived.ShutString
import Derived.Below
import Derived.ChangeOld
import Derived.Carry
import Derived.SizedLaws
import Derived.SevenTiedAt
namespace Go.Proofs.YtokcmaehojljdaaDoor
open Go.ChangeShapes Go.WideShapes Go.ChangeAt Go.RowKit

theorem own : ownKnob Tryd.prog.godebug = none := by kernel_rfl
theorem laidOut : laidOutB Tryd.prog = true := by kernel_rfl
abbrev L5 : List (String × DataW Unit) := Rows.wireCutsRow.laid
theorem gRng : Tryd.prog.globalNamed "strconv.ErrRange" = some 2 := by kernel_rfl
theorem gSyn : Tryd.prog.globalNamed "strconv.ErrSyntax" = some 1 := by kernel_rfl
theorem tTab : (Tryd.prog.globals[0]?).map (·.type) = some 118 := by kernel_rfl
theorem tRng : (Tryd.prog.globals[2]?).map (·.type) = some 68 := by kernel_rfl
theorem tSyn : (Tryd.prog.globals[1]?).map (·.type) = some 68 := by kernel_rfl
theorem door_met (os : Os) (args : Array Value) : laidMetH Tryd.prog L5 ((World.doorLaid Tryd.prog 400 os).forCall (fun _ _ => 0) ⟨#[], args, []⟩).memory :=
  laidMetH_of_parts3 (fuel := 8) (laidMet_of_run' 8 (by kernel_rfl) (by kernel_rfl)) (by kernel_rfl) (by kernel_rfl)
theorem iface_cell {P : Program} {w : World} {fuel : Nat} {t : TypeId} {ms : Array (String × TypeId)} {cs : List Value} {n : String} {d : DataW Unit} {p : List MemPlace} (ht : P.underlying t = some (.interface ms))
    (h : DataW.trod (fun _ => ()) P w 0 (fun _ => true) false fuel t cs = some (.iface n d, p)) : ∃ u v, cs = [.iface u v] := by
  cases fuel with
  | zero => simp [DataW.trod] at h
  | succ m =>
    unfold DataW.trod at h
    rw [ht] at h
    split at h <;> simp_all
theorem one_cell {cs : Array Value} {v : Value} (h : cs.toList = [v]) : cs[0]? = some v := by
  obtain ⟨l⟩ := cs
  subst h
  rfl
theorem of_laid {W : World} (h : laidMetH Tryd.prog L5 W) : LaidE W := by
  rw [MakeChecks.laidMetH_plain _ _ _ (by kernel_rfl)] at h
  obtain ⟨ps, ⟨_, _, _, _, _, _, _, _, _, _, ⟨_, _, _, _, _, _, _, _, _, _, ⟨ga, ta, ca, fa, pa, qa, hga, hta, hva, hda, ⟨gb, tb, cb, fb, pb, qb, hgb, htb, hvb, hdb, ⟨gc, tc, cc, fc, pc, qc, hgc, htc, hvc, hdc, _, _⟩, _⟩, _⟩, _⟩, _⟩, _, _⟩ := h
  obtain rfl := Option.some.inj (gTab.symm.trans hga)
  obtain rfl := Option.some.inj (gRng.symm.trans hgb)
  obtain rfl := Option.some.inj (gSyn.symm.trans hgc)
  obtain rfl := Option.some.inj (tTab.symm.trans hta)
  obtain rfl := Option.some.inj (tRng.symm.trans htb)
  obtain rfl := Option.some.inj (tSyn.symm.trans htc)
  refine ⟨⟨?_⟩, ?_, ?_⟩
  · have e := Lib.cells_of_tab (zs := Lib.pow10Tab) (k := .u64) Tryd.underlying118 Tryd.underlying22 (by kernel_rfl) (by kernel_rfl) hda
    unfold Lib.TabIs
    rw [hva, ← e]
  · obtain ⟨u, v, e⟩ := iface_cell Tryd.underlying68 hdc
    exact ⟨_, (World.var?_cell gSyn hvc 0).trans (one_cell e), .inr ⟨u, v, rfl⟩⟩
  · obtain ⟨u, v, e⟩ := iface_cell Tryd.underlying68 hdb
    exact ⟨_, (World.var?_cell gRng hvb 0).trans (one_cell e), .inr ⟨u, v, rfl⟩⟩
end Go.Proofs.YtokcmaehojljdaaDoor
