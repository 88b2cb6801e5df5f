/- NumDecs: whatever the number and whatever the text: the decimal text is the document's, it is read as the number again, and of any text the number, or that there is none, is the document's. The variables that start-up lays (the powers of ten, the two errors) hold what the program's text says: the card's tie. No condition on the input. -/
import Derived.Test.YtaimjdfeijgbmaaDoorRows
import Derived.Test.YtaimjdfeijgbmaaDoorCards
import Derived.Test.YtaimjdfeijgbmaaDoorTie
import Derived.Test.YtaimjdfeijgbmaaDoorWDecs
import Derived.WalkKit
import Derived.ProofKit
import Derived.LaidMore
import Derived.OpenShut
import Derived.Stop.Joined
import Derived.ShutString
import Derived.Below
import Derived.ChangeOld
import Derived.SizedLaws
import Derived.SevenTiedAt
namespace Go.Proofs.YtaimjdfeijgbmaaDoor.numDecs
open Go.ChangeShapes Go.WideShapes Go.ChangeAt Go.RowKit
open Go.ChangeMaps (open_string shut_string)

theorem own : ownKnob Tryd.prog.godebug = none := by kernel_rfl
abbrev L5 : List (String × DataW Unit) := Rows.numDecsRow.laid
theorem g0 : Tryd.prog.globalNamed "math/bits.deBruijn32tab" = some 3 := by kernel_rfl
theorem g1 : Tryd.prog.globalNamed "math/bits.deBruijn64tab" = some 4 := by kernel_rfl
theorem gRng : Tryd.prog.globalNamed "strconv.ErrRange" = some 1 := by kernel_rfl
theorem gSyn : Tryd.prog.globalNamed "strconv.ErrSyntax" = some 0 := by kernel_rfl
theorem tTab : (Tryd.prog.globals[2]?).map (·.type) = some 75 := by kernel_rfl
theorem tRng : (Tryd.prog.globals[1]?).map (·.type) = some 35 := by kernel_rfl
theorem tSyn : (Tryd.prog.globals[0]?).map (·.type) = some 35 := by kernel_rfl
theorem door_met (os : Os) (args : Array Value) : laidMetH Tryd.prog L5 ((World.doorLaid Tryd.prog 400 os).forCall (fun _ _ => 0) ⟨#[], args, []⟩).memory :=
  laidMetH_of_parts3 (fuel := 8) (laidMet_of_run' 8 (by kernel_rfl) (by kernel_rfl)) (by kernel_rfl) (by kernel_rfl)
theorem iface_cell {P : Program} {w : World} {fuel : Nat} {t : TypeId} {ms : Array (String × TypeId)} {cs : List Value} {n : String} {d : DataW Unit} {p : List MemPlace} (ht : P.underlying t = some (.interface ms))
    (h : DataW.trod (fun _ => ()) P w 0 (fun _ => true) false fuel t cs = some (.iface n d, p)) : ∃ u v, cs = [.iface u v] := by
  cases fuel with
  | zero => simp [DataW.trod] at h
  | succ m =>
    unfold DataW.trod at h
    rw [ht] at h
    split at h <;> simp_all
theorem one_cell {cs : Array Value} {v : Value} (h : cs.toList = [v]) : cs[0]? = some v := by
  obtain ⟨l⟩ := cs
  subst h
  rfl
theorem of_laid {W : World} (h : laidMetH Tryd.prog L5 W) : Laid W := by
  rw [MakeChecks.laidMetH_plain _ _ _ (by kernel_rfl)] at h
  obtain ⟨ps, ⟨_, _, _, _, _, _, _, _, _, _, ⟨_, _, _, _, _, _, _, _, _, _, ⟨ga, ta, ca, fa, pa, qa, hga, hta, hva, hda, ⟨gb, tb, cb, fb, pb, qb, hgb, htb, hvb, hdb, ⟨gc, tc, cc, fc, pc, qc, hgc, htc, hvc, hdc, _, _⟩, _⟩, _⟩, _⟩, _⟩, _, _⟩ := h
  obtain rfl := Option.some.inj (gTab.symm.trans hga)
  obtain rfl := Option.some.inj (gRng.symm.trans hgb)
  obtain rfl := Option.some.inj (gSyn.symm.trans hgc)
  obtain rfl := Option.some.inj (tTab.symm.trans hta)
  obtain rfl := Option.some.inj (tRng.symm.trans htb)
  obtain rfl := Option.some.inj (tSyn.symm.trans htc)
  refine ⟨?_, ?_, ?_⟩
  · have e := Lib.cells_of_tab (zs := Lib.pow10Tab) (k := .u64) Tryd.underlying75 Tryd.underlying33 (by kernel_rfl) (by kernel_rfl) hda
    unfold Lib.TabIs
    rw [hva, ← e]
  · obtain ⟨u, v, e⟩ := iface_cell Tryd.underlying35 hdc
    exact ⟨_, (World.var?_cell gSyn hvc 0).trans (one_cell e), .inr ⟨u, v, rfl⟩⟩
  · obtain ⟨u, v, e⟩ := iface_cell Tryd.underlying35 hdb
    exact ⟨_, (World.var?_cell gRng hvb 0).trans (one_cell e), .inr ⟨u, v, rfl⟩⟩
set_option maxRecDepth 100000 in
theorem lifted (os : Os) (started : os.Started) (H : Type) (enc : TypeId × Value → H) :
    ReturnsInHanded {} Tryd.checked os 3 .any (fun w args => (Rows.numDecsSpec.pre enc Tryd.prog Tryd.f3 [] false w args ∧ laidMetH Tryd.prog L5 w) ∧ sizedMet enc Tryd.prog Tryd.f3 (OpenSpec.ofChange Rows.numDecsSpec) false w args)
      (Rows.numDecsSpec.post enc Tryd.prog Tryd.f3 false true false false) := by
  refine returnsInHanded_of_change_and (C := Tryd.checked) (X := fun w _ => laidMetH Tryd.prog L5 w) (fun _ _ _ hh h => h.of_heap hh) own started (by kernel_rfl) Tryd.func3
    (ChangeSpec.witness_shaped (enc := enc) (C := Tryd.checked) (os := os) (X := fun w _ => laidMetH Tryd.prog L5 w) false (World.doorLaid Tryd.prog 400 os) #[.int .i64 0, .string ByteArray.empty] 8 rfl (World.shaped_of_RefB (by kernel_rfl) (by kernel_rfl)) (by kernel_rfl) (by kernel_rfl) (by kernel_rfl) (door_met os _)) ?_
  intro W base args ds gs before hval0 hW _ _ hL _
  have hval : ∀ (j : Nat) t v, Tryd.f3.params[j]? = some t → args[j]? = some v → Value.okWide Tryd.prog W .any base t v := hval0
  have hW' := hW
  obtain ⟨p, q, hA0, hV, rfl, hfz, hnd⟩ := hW
  have hA : DataW.TrodAll enc Tryd.prog W 0 (fun _ => true) true Tryd.f3.params.toList args.toList ds p := hA0
  rw [Tryd.params3] at hA hval
  obtain ⟨v0, vs0, d0, ds0, p0, q0, hargs, rfl, rfl, h0, r0⟩ := trodAll_cons hA
  obtain ⟨v1, vs1, d1, ds1, p1, q1, rfl, rfl, rfl, h1, r1⟩ := trodAll_cons r0
  obtain ⟨rfl, rfl, rfl⟩ := trodAll_nil r1
  obtain rfl : args = #[v0, v1] := by cases args; simp_all
  obtain ⟨rfl, rfl⟩ := trodVars_none hV
  obtain ⟨a0, rfl, rfl, rfl, w0⟩ := open_int Tryd.underlying2 (hval 0 2 v0 rfl rfl) h0
  have b0 := bounds_i64 w0
  obtain ⟨s1, rfl, rfl, rfl, y1⟩ := open_string Tryd.underlying9 (hval 1 9 v1 rfl rfl) h1
  clear hA0 hval0
  refine (decs_all a0 (by omega) (by omega) s1 W (of_laid hL)).mono fun e W' ⟨he, bel⟩ => ?_
  subst he
  exact ⟨_, rfl, _, _, _, [], _, [], hW', trodAll_mk1 (shut_bool Tryd.underlying4 _), (trodAll_cons_mk (shut_int Tryd.underlying2 w0) (trodAll_cons_mk (shut_string Tryd.underlying9 y1) trodAll_mk0)), rfl, bel.frame _, fun h => by cases h⟩
theorem over : Rows.NumDecsSaid :=
  OpenClaim.holds_of_wide 3 Tryd.f3 rfl rfl rfl rfl rfl rfl rfl ⟨rfl, rfl, rfl, rfl, rfl⟩ rfl rfl rfl rfl rfl (by kernel_rfl) Tryd.func3 (by kernel_rfl)
    (of_decide_eq_true (by kernel_rfl)) (by unfold Func.isWrapper; first | (rw [if_pos (by decide +kernel)]; kernel_rfl) | (rw [if_neg (by decide +kernel)]; exact ⟨rfl, rfl⟩))
    (fun os started H enc _ => lifted os started H enc)
theorem proved : Rows.NumDecsCardSaid :=
  Claim7.holds_tied_plain_at .later [] [.data, .data, .data, .sentinel, .sentinel] true (true, "d8832bd823517df1a9358c43e8e250c2a3cab5f42f1eac64cf38db06a8968f8f") true
    over (fun _ h => by cases h) (by kernel_rfl) (fun _ h => by cases h) numDecs_row_tie rfl ⟨rfl, rfl⟩ (by kernel_rfl) rfl
    (fun f fn hf hfn => by
      obtain rfl : f = 3 := Option.some.inj ((show Tryd.prog.funcNamed "hibernacle/hibernaclelaw01.NumDecs" = some 3 by kernel_rfl).symm.trans hf) |>.symm
      obtain rfl : fn = Tryd.f3 := (Option.some.inj (Tryd.func3.symm.trans hfn)).symm
      exact ⟨by kernel_rfl, fun j t ht => by
        rw [Tryd.params3] at ht
        have h3 : t = 2 ∨ t = 9 := by
          rcases j with _ | _ | j
          · exact .inl (by simpa using ht.symm)
          · exact .inr (by simpa using ht.symm)
          · simp at ht
        rcases h3 with rfl | rfl
        · exact (show Tryd.prog.wantsStandIn 2 = false by kernel_rfl)
        · exact (show Tryd.prog.wantsStandIn 9 = false by kernel_rfl)⟩)
    (by kernel_rfl)
#print axioms proved
end Go.Proofs.YtaimjdfeijgbmaaDoor.numDecs
