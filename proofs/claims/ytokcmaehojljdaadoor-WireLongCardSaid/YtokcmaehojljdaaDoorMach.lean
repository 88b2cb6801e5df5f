/- manifest.machine: its walk. -/
import Derived.Test.YtokcmaehojljdaaDoorSnap
namespace Go.Proofs.YtokcmaehojljdaaDoor
open Go.RowKit Go.Lib Go.Shelf Go.Proofs.YtokcmaehojljdaaDoorW.PrintWords Go.Proofs.YtokcmaehojljdaaDoorW.PrintLast Go.Proofs.YtokcmaehojljdaaDoorW.PrintMore

/-- A sign that no machine's name has. -/
def otherB (x : Nat) : Bool := (decide ((x : Int) < 97) || decide ((x : Int) > 122)) && (decide ((x : Int) < 48) || decide ((x : Int) > 57)) && ((x : Int) != 46) && ((x : Int) != 45)
set_option maxRecDepth 100000 in
theorem other_any (x : Nat) (w : World) : Calls Tryd.prog 66 #[.int .i32 x] w fun e w' => e = .returned (.bool (otherB x)) ∧ Below w.heap.size w w' := by
  have hb := Below.refl w.heap.size w
  go_enter Tryd.func66, Tryd.ntmps66
  go_wp2_with fail
  all_goals go_ret
  all_goals exact ⟨by simp [otherB, *], hb⟩
def machineB (s : ByteArray) : Bool := (s.toList != []) && decide (s.size ≤ 24) && !(decide (0 ≤ idxFunc otherB true s))
set_option maxRecDepth 100000 in
theorem machine_any (s : ByteArray) (w : World) : Calls Tryd.prog 46 #[.string s] w fun e w' => e = .returned (.bool (machineB s)) ∧ Below w.heap.size w w' := by
  have hb := Below.refl w.heap.size w
  have eg := Sec.mk (enters_of Tryd.func66 (by kernel_rfl) rfl : ∀ args w, (callFunc 66 args).run Tryd.prog w = .ok (.enter 66 args) w)
  have hp := Sec.mk (fun w => Tryd.strings_ContainsFunc_grows 66 #[] eg.out otherB s w (fun W x _ _ => other_any x W))
  have c1 : decide ((s.size : Int) ≤ 24) = decide (s.size ≤ 24) := by simp only [decide_eq_decide]; omega
  clear eg
  go_enter Tryd.func46, Tryd.ntmps46
  go_wp2_with (first | (go_at_call 67; refine (hp.out _).mono ?_; rintro e w' ⟨rfl, hb'⟩))
  all_goals go_ret
  all_goals first | exact ⟨by simp [machineB, *, bne], hb'⟩ | exact ⟨by simp [machineB, *] <;> (cases s.toList <;> rfl), hb'⟩ | exact ⟨by simp [machineB, *], hb⟩
end Go.Proofs.YtokcmaehojljdaaDoor
