import Derived.Test.YtaimjdfeijgbmaaPLawx0
import Derived.Test.YtaimjdfeijgbmaaPLawx6
namespace Go.Proofs.Ytaimjdfeijgbmaa.PLaw
open Go.Proofs.Ytaimjdfeijgbmaa Go.Proofs.Ytaimjdfeijgbmaa.PNum Go.RowKit Go.Proofs.YtaimjdfeijgbmaaW.PrintWords Go.Proofs.YtaimjdfeijgbmaaW.PrintLast Go.Proofs.YtaimjdfeijgbmaaW.PrintMore
attribute [local go_sem] max2_int min2_int max_two min_two max_three min_three max_four min_four   -- for this text's walks alone
set_option linter.unusedVariables false
set_option linter.unusedSimpArgs false

/-! ### hibernaclelaw01_NumApart: function 5 -/
mutual
def hibernaclelaw01_NumApart.j0 : Nat → List ByteArray → List ByteArray → Int → Bool → Option (Bool)
  | 0, _, _, _, _ => none
  | k + 1, x0, x1, x2, x19 => if x19 = true then (some true) else ((num_Row.f x0).bind fun t185 => ((num_Row.f x1).bind fun t186 => ((some (([] : List ByteArray) : List ByteArray)).bind fun y187 => (if y187.length + x0.length < 8796093022208 then ((some (y187 ++ x0 : List ByteArray)).bind fun y190 => (if y190.length + x1.length < 8796093022208 then ((hibernacleref01_Same.f k x0 x1).bind fun t196 => (if ((t185.toList == t186.toList) != t196) = true then (hibernaclelaw01_NumApart.j1 k x0 x2 t185 true) else ((num_Row.f (y190 ++ x1)).bind fun t197 => (if t185.size + t186.size ≤ 9223372036854775807 then (hibernaclelaw01_NumApart.j1 k x0 x2 t185 (t197.toList != (t185 ++ t186).toList)) else (none))))) else (none))) else (none)))))
def hibernaclelaw01_NumApart.j1 : Nat → List ByteArray → Int → ByteArray → Bool → Option (Bool)
  | 0, _, _, _, _ => none
  | k + 1, x0, x2, x7, x43 => if x43 = true then (some false) else (if (x7.size : Int) = 0 then (some ((x0.length : Int) == 0)) else (if 0 ≤ (Int.tmod (wrap64 (x2)) (x7.size : Int)) then (if (Int.tmod (wrap64 (x2)) (x7.size : Int)) ≤ (x7.size : Int) then ((num_Texts.f k (x7.extract 0 ((Int.tmod (wrap64 (x2)) (x7.size : Int)) : Int).toNat)).bind fun bt198 => (if bt198.2 = 4 then (if (bt198.1.length : Int) = 0 then (some true) else (if bt198.2 = 0 then (some (decide ((bt198.1.length : Int) < (x0.length : Int)))) else (some false))) else (if bt198.2 = 0 then (some (decide ((bt198.1.length : Int) < (x0.length : Int)))) else (some false)))) else (none)) else (none)))
end
def hibernaclelaw01_NumApart.f (k : Nat) (l0 : List ByteArray) (l1 : List ByteArray) (a2 : Int) : Option (Bool) := (hibernaclelaw01_numAlive.f k).bind fun t182 => (if t182 = true then ((hibernaclelaw01_long.f k l0).bind fun t183 => (if t183 = true then (hibernaclelaw01_NumApart.j0 k l0 l1 a2 true) else ((hibernaclelaw01_long.f k l1).bind fun t184 => (hibernaclelaw01_NumApart.j0 k l0 l1 a2 t184)))) else (some false))
theorem hibernaclelaw01_NumApart.mono_l : ∀ k, (∀ y0 y1 y2 y3, LeO (hibernaclelaw01_NumApart.j0 k y0 y1 y2 y3) (hibernaclelaw01_NumApart.j0 (k + 1) y0 y1 y2 y3)) ∧ (∀ y0 y1 y2 y3, LeO (hibernaclelaw01_NumApart.j1 k y0 y1 y2 y3) (hibernaclelaw01_NumApart.j1 (k + 1) y0 y1 y2 y3))
  | 0 => ⟨fun _ _ _ _ r h => by simp [hibernaclelaw01_NumApart.j0] at h, fun _ _ _ _ r h => by simp [hibernaclelaw01_NumApart.j1] at h⟩
  | k + 1 => by
    obtain ⟨ih0, ih1⟩ := hibernaclelaw01_NumApart.mono_l k
    refine ⟨?_, ?_⟩
    · intro y0 y1 y2 y3
      unfold hibernaclelaw01_NumApart.j0
      repeat' first
      | (with_reducible exact ih0 _ _ _ _)
      | (with_reducible exact ih1 _ _ _ _)
      | (with_reducible exact hibernaclelaw01_long.mono _ _)
      | (with_reducible exact hibernaclelaw01_numAlive.mono _)
      | (with_reducible exact hibernacleref01_Same.mono _ _ _)
      | (with_reducible exact num_Texts.mono _ _)
      | (with_reducible exact LeO.refl _)
      | (with_reducible exact LeO.none _)
      | (with_reducible refine LeO.ite ?_ ?_)
      | (with_reducible refine LeO.bind ?_ (fun _ => ?_))
      | exact ih0 _ _ _ _
      | exact ih1 _ _ _ _
      | exact hibernaclelaw01_long.mono _ _
      | exact hibernaclelaw01_numAlive.mono _
      | exact hibernacleref01_Same.mono _ _ _
      | exact num_Texts.mono _ _
      | exact LeO.none _
      | refine LeO.ite ?_ ?_
      | refine LeO.bind ?_ (fun _ => ?_)
    · intro y0 y1 y2 y3
      unfold hibernaclelaw01_NumApart.j1
      repeat' first
      | (with_reducible exact ih0 _ _ _ _)
      | (with_reducible exact ih1 _ _ _ _)
      | (with_reducible exact hibernaclelaw01_long.mono _ _)
      | (with_reducible exact hibernaclelaw01_numAlive.mono _)
      | (with_reducible exact hibernacleref01_Same.mono _ _ _)
      | (with_reducible exact num_Texts.mono _ _)
      | (with_reducible exact LeO.refl _)
      | (with_reducible exact LeO.none _)
      | (with_reducible refine LeO.ite ?_ ?_)
      | (with_reducible refine LeO.bind ?_ (fun _ => ?_))
      | exact ih0 _ _ _ _
      | exact ih1 _ _ _ _
      | exact hibernaclelaw01_long.mono _ _
      | exact hibernaclelaw01_numAlive.mono _
      | exact hibernacleref01_Same.mono _ _ _
      | exact num_Texts.mono _ _
      | exact LeO.none _
      | refine LeO.ite ?_ ?_
      | refine LeO.bind ?_ (fun _ => ?_)
theorem hibernaclelaw01_NumApart.mono : ∀ a0 a1 a2 k, LeO (hibernaclelaw01_NumApart.f k a0 a1 a2) (hibernaclelaw01_NumApart.f (k + 1) a0 a1 a2) := by
  intro a0 a1 a2 k
  obtain ⟨ih0, ih1⟩ := hibernaclelaw01_NumApart.mono_l k
  unfold hibernaclelaw01_NumApart.f
  repeat' first
      | (with_reducible exact ih0 _ _ _ _)
      | (with_reducible exact ih1 _ _ _ _)
      | (with_reducible exact hibernaclelaw01_long.mono _ _)
      | (with_reducible exact hibernaclelaw01_numAlive.mono _)
      | (with_reducible exact hibernacleref01_Same.mono _ _ _)
      | (with_reducible exact num_Texts.mono _ _)
      | (with_reducible exact LeO.refl _)
      | (with_reducible exact LeO.none _)
      | (with_reducible refine LeO.ite ?_ ?_)
      | (with_reducible refine LeO.bind ?_ (fun _ => ?_))
      | exact ih0 _ _ _ _
      | exact ih1 _ _ _ _
      | exact hibernaclelaw01_long.mono _ _
      | exact hibernaclelaw01_numAlive.mono _
      | exact hibernacleref01_Same.mono _ _ _
      | exact num_Texts.mono _ _
      | exact LeO.none _
      | refine LeO.ite ?_ ?_
      | refine LeO.bind ?_ (fun _ => ?_)
set_option maxHeartbeats 8000000 in
set_option maxRecDepth 100000 in
theorem hibernaclelaw01_NumApart.calls (k : Nat) (A0 : Option Addr) (c0 : Nat) (l0 : List ByteArray) (A1 : Option Addr) (c1 : Nat) (l1 : List ByteArray) (a2 : Int) (r : Bool) (w : World) (hr0 : Kd.C Kd.string w A0 l0.length l0) (hc0 : l0.length ≤ c0) (hr1 : Kd.C Kd.string w A1 l1.length l1) (hc1 : l1.length ≤ c1) (h : hibernaclelaw01_NumApart.f k l0 l1 a2 = some r) :
    Calls Try.prog 5 #[.slice A0 l0.length c0, .slice A1 l1.length c1, .int .u16 a2] w fun e w' => e = .returned (.bool r) ∧ Below w.heap.size w w' := by
  have HR0 := Aside0.mk hr0
  have HC0 := Aside0.mk hc0
  clear hr0 hc0
  have HR1 := Aside0.mk hr1
  have HC1 := Aside0.mk hc1
  clear hr1 hc1
  have HB := Aside0.mk (Below.refl w.heap.size w)
  have H : ((hibernaclelaw01_numAlive.f k).bind fun t182 => (if t182 = true then ((hibernaclelaw01_long.f k l0).bind fun t183 => (if t183 = true then (hibernaclelaw01_NumApart.j0 k l0 l1 a2 true) else ((hibernaclelaw01_long.f k l1).bind fun t184 => (hibernaclelaw01_NumApart.j0 k l0 l1 a2 t184)))) else (some false))) = some r := h
  clear h
  replace H := Option.bind_eq_some_iff.mp H
  obtain ⟨t182, A40, H⟩ := H
  replace H : (if t182 = true then ((hibernaclelaw01_long.f k l0).bind fun t183 => (if t183 = true then (hibernaclelaw01_NumApart.j0 k l0 l1 a2 true) else ((hibernaclelaw01_long.f k l1).bind fun t184 => (hibernaclelaw01_NumApart.j0 k l0 l1 a2 t184)))) else (some false)) = some r := H
  have A4 := Aside0.mk A40
  clear A40
  by_cases c5 : t182 = true
  · subst c5
    have H1 : ((hibernaclelaw01_long.f k l0).bind fun t183 => (if t183 = true then (hibernaclelaw01_NumApart.j0 k l0 l1 a2 true) else ((hibernaclelaw01_long.f k l1).bind fun t184 => (hibernaclelaw01_NumApart.j0 k l0 l1 a2 t184)))) = some r := by rw [if_pos rfl] at H; exact H
    clear H
    have H := H1
    clear H1
    have HC6 := Aside0.mk H
    clear H
    go_enter Try.func5, Try.ntmps5
    go_upto_region 3 with (first | ((with_reducible refine gate_callee (f := 8) rfl ?_); refine goesL_ (some 12) rfl rfl Try.func8 (by kernel_rfl) rfl #[] rfl (by (try simp only [List.map_toArray, List.map_cons, List.map_nil]); first | done | rfl | (simp only [List.length_drop, List.length_take]; rfl)) ?_; (with_reducible refine (hibernaclelaw01_numAlive.calls k  true _ A4.out).mono ?_); rintro e w7 ⟨rfl, hb⟩; refine ⟨_, rfl, ?_⟩; have n0_ := Aside0.mk (below_step (by repeat (first | (with_reducible first | exact HB.out | apply below_alloc | apply pw_below_drewN | apply below_drew1) | exact HB.out)) hb); clear HB; have HB := n0_; clear n0_; (try clear hb); (try clear hb2); (try clear hk); (try clear hi)))
    (try simp only [Act.put, List.setIfInBounds_toArray, List.set_cons_zero, List.set_cons_succ])
    go_cut [19] (fun v19 wc => ∃ (kq : Nat) (x19_5 : Bool), v19 = .bool x19_5 ∧ Aside0 (hibernaclelaw01_NumApart.j0 kq l0 l1 a2 x19_5 = some r) ∧ Aside0 (kq ≤ k) ∧ Aside0 (Below w.heap.size w wc))
    case first =>
      have H := HC6.out
      clear HC6
      replace H := Option.bind_eq_some_iff.mp H
      obtain ⟨t183, A80, H⟩ := H
      replace H : (if t183 = true then (hibernaclelaw01_NumApart.j0 k l0 l1 a2 true) else ((hibernaclelaw01_long.f k l1).bind fun t184 => (hibernaclelaw01_NumApart.j0 k l0 l1 a2 t184))) = some r := H
      have A8 := Aside0.mk A80
      clear A80
      by_cases c9 : t183 = true
      · subst c9
        have H1 : (hibernaclelaw01_NumApart.j0 k l0 l1 a2 true) = some r := by rw [if_pos rfl] at H; exact H
        clear H
        have H := H1
        clear H1
        have H' := Aside0.mk H
        clear H
        go_wp2_with (first | ((with_reducible refine gate_callee (f := 9) rfl ?_); refine goesL_ (some 15) rfl rfl Try.func9 (by kernel_rfl) rfl #[.slice A0 l0.length c0] rfl (by (try simp only [List.map_toArray, List.map_cons, List.map_nil]); first | done | rfl | (simp only [List.length_drop, List.length_take]; rfl)) ?_; (with_reducible refine (hibernaclelaw01_long.calls k _ _ l0 true _ ?side1 ?side2 A8.out).mono ?_); (case side1 => repeat (first | exact (Kd.C_below HR0.out HB.out) | (with_reducible refine Kd.C_alloc ?_ _) | (with_reducible refine Kd.C_drewN ?_ _) | (with_reducible refine Kd.C_drew ?_))); (case side2 => exact HC0.out); rintro e w' ⟨rfl, ⟨nd, rfl⟩⟩; refine ⟨_, rfl, ?_⟩))
        go_meet
        case rel => exact ⟨_, (true), (by first | rfl | (simp; done) | (simp [*]; done)), H', ⟨by first | omega | exact Nat.le_refl _⟩, ⟨by repeat (first | (with_reducible first | exact HB.out | apply below_alloc | apply pw_below_drewN | apply below_drew1) | exact HB.out)⟩⟩
      · replace c9 := Bool.eq_false_iff.mpr c9
        subst c9
        have H1 : ((hibernaclelaw01_long.f k l1).bind fun t184 => (hibernaclelaw01_NumApart.j0 k l0 l1 a2 t184)) = some r := by rw [if_neg (show ¬ (false = true) by decide)] at H; exact H
        clear H
        have H := H1
        clear H1
        replace H := Option.bind_eq_some_iff.mp H
        obtain ⟨t184, A100, H⟩ := H
        replace H : (hibernaclelaw01_NumApart.j0 k l0 l1 a2 t184) = some r := H
        have A10 := Aside0.mk A100
        clear A100
        have H' := Aside0.mk H
        clear H
        go_wp2_with (first | ((with_reducible refine gate_callee (f := 9) rfl ?_); refine goesL_ (some 15) rfl rfl Try.func9 (by kernel_rfl) rfl #[.slice A0 l0.length c0] rfl (by (try simp only [List.map_toArray, List.map_cons, List.map_nil]); first | done | rfl | (simp only [List.length_drop, List.length_take]; rfl)) ?_; (with_reducible refine (hibernaclelaw01_long.calls k _ _ l0 false _ ?side1 ?side2 A8.out).mono ?_); (case side1 => repeat (first | exact (Kd.C_below HR0.out HB.out) | (with_reducible refine Kd.C_alloc ?_ _) | (with_reducible refine Kd.C_drewN ?_ _) | (with_reducible refine Kd.C_drew ?_))); (case side2 => exact HC0.out); rintro e w' ⟨rfl, ⟨nd, rfl⟩⟩; refine ⟨_, rfl, ?_⟩) | (go_at_call 9; (with_reducible refine (hibernaclelaw01_long.calls k _ _ l1 t184 _ ?side1 ?side2 A10.out).mono ?_); (case side1 => repeat (first | exact (Kd.C_below HR1.out (by repeat (first | (with_reducible first | exact HB.out | apply below_alloc | apply pw_below_drewN | apply below_drew1) | exact HB.out))) | (with_reducible refine Kd.C_alloc ?_ _) | (with_reducible refine Kd.C_drewN ?_ _) | (with_reducible refine Kd.C_drew ?_))); (case side2 => exact HC1.out); rintro e w' ⟨rfl, ⟨nd, rfl⟩⟩))
        go_meet
        case rel => exact ⟨_, (t184), (by first | rfl | (simp; done) | (simp [*]; done)), H', ⟨by first | omega | exact Nat.le_refl _⟩, ⟨by repeat (first | (with_reducible first | exact HB.out | apply below_alloc | apply pw_below_drewN | apply below_drew1) | exact HB.out)⟩⟩
    case rest =>
      clear HC6
      try clear c1
      try clear p2
      try clear c5
      try clear c8
      try clear c9
      obtain ⟨kq, x19_5, rfl, HA, HJ5, HB⟩ := hcut
      cases kq with
      | zero => exact absurd HA.out (by simp [hibernaclelaw01_NumApart.j0])
      | succ kj5 =>
        have H := HA.out
        clear HA
        simp only [hibernaclelaw01_NumApart.j0] at H
        by_cases c11 : x19_5 = true
        · subst c11
          have H1 : (some true) = some r := by rw [if_pos rfl] at H; exact H
          clear H
          have H := H1
          clear H1
          obtain rfl := Option.some.inj H
          go_wp2
          go_ret
          exact ⟨by first | rfl | (simp [errW_none, errW_some] <;> rfl) | (simp [*, errW_none, errW_some] <;> rfl), by repeat (first | (with_reducible first | exact HB.out | apply below_alloc | apply pw_below_drewN | apply below_drew1) | exact HB.out)⟩
        · replace c11 := Bool.eq_false_iff.mpr c11
          subst c11
          have H1 : ((num_Row.f l0).bind fun t185 => ((num_Row.f l1).bind fun t186 => ((some (([] : List ByteArray) : List ByteArray)).bind fun y187 => (if y187.length + l0.length < 8796093022208 then ((some (y187 ++ l0 : List ByteArray)).bind fun y190 => (if y190.length + l1.length < 8796093022208 then ((hibernacleref01_Same.f kj5 l0 l1).bind fun t196 => (if ((t185.toList == t186.toList) != t196) = true then (hibernaclelaw01_NumApart.j1 kj5 l0 a2 t185 true) else ((num_Row.f (y190 ++ l1)).bind fun t197 => (if t185.size + t186.size ≤ 9223372036854775807 then (hibernaclelaw01_NumApart.j1 kj5 l0 a2 t185 (t197.toList != (t185 ++ t186).toList)) else (none))))) else (none))) else (none))))) = some r := by rw [if_neg (show ¬ (false = true) by decide)] at H; exact H
          clear H
          have H := H1
          clear H1
          replace H := Option.bind_eq_some_iff.mp H
          obtain ⟨t185, A120, H⟩ := H
          replace H : ((num_Row.f l1).bind fun t186 => ((some (([] : List ByteArray) : List ByteArray)).bind fun y187 => (if y187.length + l0.length < 8796093022208 then ((some (y187 ++ l0 : List ByteArray)).bind fun y190 => (if y190.length + l1.length < 8796093022208 then ((hibernacleref01_Same.f kj5 l0 l1).bind fun t196 => (if ((t185.toList == t186.toList) != t196) = true then (hibernaclelaw01_NumApart.j1 kj5 l0 a2 t185 true) else ((num_Row.f (y190 ++ l1)).bind fun t197 => (if t185.size + t186.size ≤ 9223372036854775807 then (hibernaclelaw01_NumApart.j1 kj5 l0 a2 t185 (t197.toList != (t185 ++ t186).toList)) else (none))))) else (none))) else (none)))) = some r := H
          have A12 := Aside0.mk A120
          clear A120
          replace H := Option.bind_eq_some_iff.mp H
          obtain ⟨t186, A130, H⟩ := H
          replace H : ((some (([] : List ByteArray) : List ByteArray)).bind fun y187 => (if y187.length + l0.length < 8796093022208 then ((some (y187 ++ l0 : List ByteArray)).bind fun y190 => (if y190.length + l1.length < 8796093022208 then ((hibernacleref01_Same.f kj5 l0 l1).bind fun t196 => (if ((t185.toList == t186.toList) != t196) = true then (hibernaclelaw01_NumApart.j1 kj5 l0 a2 t185 true) else ((num_Row.f (y190 ++ l1)).bind fun t197 => (if t185.size + t186.size ≤ 9223372036854775807 then (hibernaclelaw01_NumApart.j1 kj5 l0 a2 t185 (t197.toList != (t185 ++ t186).toList)) else (none))))) else (none))) else (none))) = some r := H
          have A13 := Aside0.mk A130
          clear A130
          obtain ⟨y187, hy187⟩ : ∃ y_ : List ByteArray, y_ = (([] : List ByteArray)) := ⟨_, rfl⟩
          replace H : (if y187.length + l0.length < 8796093022208 then ((some (y187 ++ l0 : List ByteArray)).bind fun y190 => (if y190.length + l1.length < 8796093022208 then ((hibernacleref01_Same.f kj5 l0 l1).bind fun t196 => (if ((t185.toList == t186.toList) != t196) = true then (hibernaclelaw01_NumApart.j1 kj5 l0 a2 t185 true) else ((num_Row.f (y190 ++ l1)).bind fun t197 => (if t185.size + t186.size ≤ 9223372036854775807 then (hibernaclelaw01_NumApart.j1 kj5 l0 a2 t185 (t197.toList != (t185 ++ t186).toList)) else (none))))) else (none))) else (none)) = some r := by first | (rw [hy187]; with_reducible exact H) | (have H2_ := (Option.bind_some _ _).symm.trans H; rw [hy187]; with_reducible exact H2_) | (have H2_ := (Option.bind_some _ _).symm.trans H; with_reducible exact H2_) | with_reducible exact H | (rw [hy187]; exact H) | exact H
          have Ny187 := Aside0.mk hy187
          clear hy187
          by_cases c14 : y187.length + l0.length < 8796093022208
          · rw [if_pos c14] at H
            have LMc14 := Aside0.mk c14
            clear c14
            obtain ⟨y190, hy190⟩ : ∃ y_ : List ByteArray, y_ = (y187 ++ l0) := ⟨_, rfl⟩
            replace H : (if y190.length + l1.length < 8796093022208 then ((hibernacleref01_Same.f kj5 l0 l1).bind fun t196 => (if ((t185.toList == t186.toList) != t196) = true then (hibernaclelaw01_NumApart.j1 kj5 l0 a2 t185 true) else ((num_Row.f (y190 ++ l1)).bind fun t197 => (if t185.size + t186.size ≤ 9223372036854775807 then (hibernaclelaw01_NumApart.j1 kj5 l0 a2 t185 (t197.toList != (t185 ++ t186).toList)) else (none))))) else (none)) = some r := by first | (rw [hy190]; with_reducible exact H) | (have H2_ := (Option.bind_some _ _).symm.trans H; rw [hy190]; with_reducible exact H2_) | (have H2_ := (Option.bind_some _ _).symm.trans H; with_reducible exact H2_) | with_reducible exact H | (rw [hy190]; exact H) | exact H
            have Ny190 := Aside0.mk hy190
            clear hy190
            by_cases c15 : y190.length + l1.length < 8796093022208
            · rw [if_pos c15] at H
              have LMc15 := Aside0.mk c15
              clear c15
              obtain ⟨y193, hy193⟩ : ∃ y_ : List ByteArray, y_ = (y190 ++ l1) := ⟨_, rfl⟩
              replace H : ((hibernacleref01_Same.f kj5 l0 l1).bind fun t196 => (if ((t185.toList == t186.toList) != t196) = true then (hibernaclelaw01_NumApart.j1 kj5 l0 a2 t185 true) else ((num_Row.f y193).bind fun t197 => (if t185.size + t186.size ≤ 9223372036854775807 then (hibernaclelaw01_NumApart.j1 kj5 l0 a2 t185 (t197.toList != (t185 ++ t186).toList)) else (none))))) = some r := by first | (rw [hy193]; with_reducible exact H) | (have H2_ := (Option.bind_some _ _).symm.trans H; rw [hy193]; with_reducible exact H2_) | (have H2_ := (Option.bind_some _ _).symm.trans H; with_reducible exact H2_) | with_reducible exact H | (rw [hy193]; exact H) | exact H
              have Ny193 := Aside0.mk hy193
              clear hy193
              have HC16 := Aside0.mk H
              clear H
              go_upto_region 7 with (first | ((with_reducible refine gate_callee (f := 10) rfl ?_); refine goesL_ (some 21) rfl rfl Try.func10 (by kernel_rfl) rfl #[.slice A0 l0.length c0] rfl (by (try simp only [List.map_toArray, List.map_cons, List.map_nil]); first | done | rfl | (simp only [List.length_drop, List.length_take]; rfl)) ?_; (with_reducible refine (num_Row.calls _ _ l0 t185 _ ?side1 ?side2 A12.out).mono ?_); (case side1 => repeat (first | exact (Kd.C_below HR0.out HB.out) | (with_reducible refine Kd.C_alloc ?_ _) | (with_reducible refine Kd.C_drewN ?_ _) | (with_reducible refine Kd.C_drew ?_))); (case side2 => exact HC0.out); rintro e w17 ⟨rfl, hb⟩; refine ⟨_, rfl, ?_⟩; have n0_ := Aside0.mk (below_step (by repeat (first | (with_reducible first | exact HB.out | apply below_alloc | apply pw_below_drewN | apply below_drew1) | exact HB.out)) hb); clear HB; have HB := n0_; clear n0_; (try clear hb); (try clear hb2); (try clear hk); (try clear hi)) | ((with_reducible refine gate_callee (f := 10) rfl ?_); refine goesL_ (some 23) rfl rfl Try.func10 (by kernel_rfl) rfl #[.slice A1 l1.length c1] rfl (by (try simp only [List.map_toArray, List.map_cons, List.map_nil]); first | done | rfl | (simp only [List.length_drop, List.length_take]; rfl)) ?_; (with_reducible refine (num_Row.calls _ _ l1 t186 _ ?side1 ?side2 A13.out).mono ?_); (case side1 => repeat (first | exact (Kd.C_below HR1.out HB.out) | (with_reducible refine Kd.C_alloc ?_ _) | (with_reducible refine Kd.C_drewN ?_ _) | (with_reducible refine Kd.C_drew ?_))); (case side2 => exact HC1.out); rintro e w18 ⟨rfl, hb⟩; refine ⟨_, rfl, ?_⟩; have n0_ := Aside0.mk (below_step (by repeat (first | (with_reducible first | exact HB.out | apply below_alloc | apply pw_below_drewN | apply below_drew1) | exact HB.out)) hb); clear HB; have HB := n0_; clear n0_; (try clear hb); (try clear hb2); (try clear hk); (try clear hi)) | ((with_reducible refine gate_dst (N := 24) rfl ?_); (try (refine gate_guard (by rfl) ?_; dsimp only)); refine Kd.R_lit Kd.string _ 9 ?hg (N := 24) ?hd (xs := ([] : List ByteArray)) (inner := []) (ok := fun _ => True) (okp := fun _ => True) ?hr ?hp (fun _ hk => hk) trivial (Below.refl _ _) (Nat.le_refl _) (by simp) ?_; (case hd => rfl); (case hg => rfl); (case hr => first | (go_simp; done) | (go_simp; rfl)); (case hp => exact (Reps.none _ _)); intro v188 w19 ho20 hb hg_ hnew_; clear hg_ hnew_; (first | rw [← Ny187.out] at ho20 | (simp only [Int.reduceToNat] at ho20; rw [← Ny187.out] at ho20)); have n0_ := Aside0.mk (Kd.R_lower ho20 (below_size (by repeat (first | (with_reducible first | exact HB.out | apply below_alloc | apply pw_below_drewN | apply below_drew1) | exact HB.out)))); have n1_ := Aside0.mk (below_step (by repeat (first | (with_reducible first | exact HB.out | apply below_alloc | apply pw_below_drewN | apply below_drew1) | exact HB.out)) hb); clear HB; have HO189 := n0_; have HB := n1_; clear n0_ n1_; clear hb ho20) | ((with_reducible refine gate_builtin (b := .append) (xs := #[.tmp 24, .tmp 25]) rfl ?_); (try (refine gate_guard (by rfl) ?_; dsimp only)); at_builtin; refine Kd.R_append_rows Kd.string (w0 := w) w.heap.size rfl (.tmp 24) (.tmp 25) 22 9 (.string ⟨#[]⟩) 16 rfl Try.underlying22 info9 rfl (by decide) (by omega) v188 y187 l0 _ _ _ (fun _ => True) (fun _ => False) rfl rfl ?aO ?aR (fun _ _ h => h) (fun _ h => h.elim) ?aF ?aB ?aS ?aL ?_; (case aR => repeat (first | exact (Kd.C_below HR0.out HB.out) | (with_reducible refine Kd.C_alloc ?_ _) | (with_reducible refine Kd.C_drewN ?_ _) | (with_reducible refine Kd.C_drew ?_))); (case aB => exact (by repeat (first | (with_reducible first | exact HB.out | apply below_alloc | apply pw_below_drewN | apply below_drew1) | exact HB.out))); (case aF => exact (fun _ _ => trivial)); (case aO => exact (by (with_reducible repeat (first | apply Kd.R_alloc | apply Kd.R_drewN | apply Kd.R_drew)); exact HO189.out)); (case aS => exact (below_size (by repeat (first | (with_reducible first | exact HB.out | apply below_alloc | apply pw_below_drewN | apply below_drew1) | exact HB.out)))); (case aL => have := LMc14.out; omega); intro v191 w21 ho hb hg hat; rw [← Ny190.out] at ho; have n0_ := Aside0.mk (hb); have n1_ := Aside0.mk (ho); clear HB; clear HO189; have HB := n0_; have HO192 := n1_; clear n0_ n1_; clear ho hb hg hat) | ((with_reducible refine gate_builtin (b := .append) (xs := #[.tmp 26, .tmp 27]) rfl ?_); (try (refine gate_guard (by rfl) ?_; dsimp only)); at_builtin; refine Kd.R_append_rows Kd.string (w0 := w) w.heap.size rfl (.tmp 26) (.tmp 27) 22 9 (.string ⟨#[]⟩) 16 rfl Try.underlying22 info9 rfl (by decide) (by omega) v191 y190 l1 _ _ _ (fun _ => True) (fun _ => False) rfl rfl ?aO ?aR (fun _ _ h => h) (fun _ h => h.elim) ?aF ?aB ?aS ?aL ?_; (case aR => repeat (first | exact (Kd.C_below HR1.out HB.out) | (with_reducible refine Kd.C_alloc ?_ _) | (with_reducible refine Kd.C_drewN ?_ _) | (with_reducible refine Kd.C_drew ?_))); (case aB => exact (by repeat (first | (with_reducible first | exact HB.out | apply below_alloc | apply pw_below_drewN | apply below_drew1) | exact HB.out))); (case aF => exact (fun _ _ => trivial)); (case aO => exact (by (with_reducible repeat (first | apply Kd.R_alloc | apply Kd.R_drewN | apply Kd.R_drew)); exact HO192.out)); (case aS => exact (below_size (by repeat (first | (with_reducible first | exact HB.out | apply below_alloc | apply pw_below_drewN | apply below_drew1) | exact HB.out)))); (case aL => have := LMc15.out; omega); intro v194 w22 ho hb hg hat; rw [← Ny193.out] at ho; have n0_ := Aside0.mk (hb); have n1_ := Aside0.mk (ho); clear HB; clear HO192; have HB := n0_; have HO195 := n1_; clear n0_ n1_; clear ho hb hg hat))
              (try simp only [Act.put, List.setIfInBounds_toArray, List.set_cons_zero, List.set_cons_succ])
              go_cut [43] (fun v43 wc => ∃ (kq : Nat) (x43_15 : Bool), v43 = .bool x43_15 ∧ Aside0 (hibernaclelaw01_NumApart.j1 kq l0 a2 t185 x43_15 = some r) ∧ Aside0 (kq ≤ kj5) ∧ Aside0 (Below w.heap.size w wc))
              case first =>
                have H := HC16.out
                clear HC16
                replace H := Option.bind_eq_some_iff.mp H
                obtain ⟨t196, A230, H⟩ := H
                replace H : (if ((t185.toList == t186.toList) != t196) = true then (hibernaclelaw01_NumApart.j1 kj5 l0 a2 t185 true) else ((num_Row.f y193).bind fun t197 => (if t185.size + t186.size ≤ 9223372036854775807 then (hibernaclelaw01_NumApart.j1 kj5 l0 a2 t185 (t197.toList != (t185 ++ t186).toList)) else (none)))) = some r := H
                have A23 := Aside0.mk A230
                clear A230
                by_cases c24 : ((t185.toList == t186.toList) != t196) = true
                · rw [if_pos c24] at H
                  have c24b0 : ((t185.toList == t186.toList) != t196) = true := c24
                  (try (have c24b1 : decide ((t185.toList == t186.toList) = t196) = false := by simpa using c24))
                  (try (have c24b2 : ((t185.toList == t186.toList) == t196) = false := by simpa using c24))
                  (try (have c24b3 : ¬ ((t185.toList == t186.toList) = t196) := by simpa using c24))
                  clear c24
                  (first | rw [c24b0] | (simp only [i64_w, i32_w]; rw [c24b0]) | skip)
                  have H' := Aside0.mk H
                  clear H
                  go_wp2_with (first | ((with_reducible refine gate_callee (f := 13) rfl ?_); refine goesL_ (some 34) rfl rfl Try.func13 (by kernel_rfl) rfl #[.slice A0 l0.length c0, .slice A1 l1.length c1] rfl (by (try simp only [List.map_toArray, List.map_cons, List.map_nil]); first | done | rfl | (simp only [List.length_drop, List.length_take]; rfl)) ?_; (with_reducible refine (hibernacleref01_Same.calls kj5 _ _ l0 _ _ l1 t196 _ ?side1 ?side2 ?side3 ?side4 A23.out).mono ?_); (case side1 => repeat (first | exact (Kd.C_below HR0.out HB.out) | (with_reducible refine Kd.C_alloc ?_ _) | (with_reducible refine Kd.C_drewN ?_ _) | (with_reducible refine Kd.C_drew ?_))); (case side2 => exact HC0.out); (case side3 => repeat (first | exact (Kd.C_below HR1.out HB.out) | (with_reducible refine Kd.C_alloc ?_ _) | (with_reducible refine Kd.C_drewN ?_ _) | (with_reducible refine Kd.C_drew ?_))); (case side4 => exact HC1.out); rintro e w' ⟨rfl, ⟨nd, rfl⟩⟩; refine ⟨_, rfl, ?_⟩))
                  go_meet
                  case rel => exact ⟨_, (true), (by first | rfl | (simp; done) | (simp [*]; done)), H', ⟨by have := HJ5.out; first | omega | exact Nat.le_refl _⟩, ⟨by repeat (first | (with_reducible first | exact HB.out | apply below_alloc | apply pw_below_drewN | apply below_drew1) | exact HB.out)⟩⟩
                · rw [if_neg c24] at H
                  have c24b0 : ((t185.toList == t186.toList) != t196) = false := by simpa using c24
                  (try (have c24b1 : decide ((t185.toList == t186.toList) = t196) = true := by simpa using c24))
                  (try (have c24b2 : ((t185.toList == t186.toList) == t196) = true := by simpa using c24))
                  clear c24
                  (first | rw [c24b0] | (simp only [i64_w, i32_w]; rw [c24b0]) | skip)
                  replace H := Option.bind_eq_some_iff.mp H
                  obtain ⟨t197, A250, H⟩ := H
                  replace H : (if t185.size + t186.size ≤ 9223372036854775807 then (hibernaclelaw01_NumApart.j1 kj5 l0 a2 t185 (t197.toList != (t185 ++ t186).toList)) else (none)) = some r := H
                  have A25 := Aside0.mk A250
                  clear A250
                  by_cases c26 : t185.size + t186.size ≤ 9223372036854775807
                  · rw [if_pos c26] at H
                    have c26b0 := eq_true c26
                    have c26b1 : decide (t185.size + t186.size ≤ 9223372036854775807) = true := decide_eq_true c26
                    try have c26b2 : (9223372036854775807 < t185.size + t186.size) = False := eq_false (Nat.not_lt.2 c26)
                    have H' := Aside0.mk H
                    clear H
                    go_wp2_with (first | ((with_reducible refine gate_callee (f := 13) rfl ?_); refine goesL_ (some 34) rfl rfl Try.func13 (by kernel_rfl) rfl #[.slice A0 l0.length c0, .slice A1 l1.length c1] rfl (by (try simp only [List.map_toArray, List.map_cons, List.map_nil]); first | done | rfl | (simp only [List.length_drop, List.length_take]; rfl)) ?_; (with_reducible refine (hibernacleref01_Same.calls kj5 _ _ l0 _ _ l1 t196 _ ?side1 ?side2 ?side3 ?side4 A23.out).mono ?_); (case side1 => repeat (first | exact (Kd.C_below HR0.out HB.out) | (with_reducible refine Kd.C_alloc ?_ _) | (with_reducible refine Kd.C_drewN ?_ _) | (with_reducible refine Kd.C_drew ?_))); (case side2 => exact HC0.out); (case side3 => repeat (first | exact (Kd.C_below HR1.out HB.out) | (with_reducible refine Kd.C_alloc ?_ _) | (with_reducible refine Kd.C_drewN ?_ _) | (with_reducible refine Kd.C_drew ?_))); (case side4 => exact HC1.out); rintro e w' ⟨rfl, ⟨nd, rfl⟩⟩; refine ⟨_, rfl, ?_⟩; obtain ⟨Ao27, co27, eo27⟩ := Kd.R_slice HO195.out; subst eo27) | (go_at_call 10; (with_reducible refine (num_Row.calls _ _ y193 t197 _ ?side1 ?side2 A25.out).mono ?_); (case side1 => repeat (first | exact (Kd.R_reads' HO195.out).2.2 | (with_reducible refine Kd.C_alloc ?_ _) | (with_reducible refine Kd.C_drewN ?_ _) | (with_reducible refine Kd.C_drew ?_))); (case side2 => exact (Kd.R_reads' HO195.out).2.1); rintro e w28 ⟨rfl, hb⟩; have n0_ := Aside0.mk (Kd.R_below (by (with_reducible repeat (first | apply Kd.R_alloc | apply Kd.R_drewN | apply Kd.R_drew)); exact HO195.out) hb); have n1_ := Aside0.mk (below_step (by repeat (first | (with_reducible first | exact HB.out | apply below_alloc | apply pw_below_drewN | apply below_drew1) | exact HB.out)) hb); clear HO195; clear HB; have HO195 := n0_; have HB := n1_; clear n0_ n1_; (try clear hb); (try clear hb2); (try clear hk); (try clear hi)))
                    go_meet
                    case rel => exact ⟨_, ((t197.toList != (t185 ++ t186).toList)), (by first | rfl | (simp; done) | (simp [*]; done)), H', ⟨by have := HJ5.out; first | omega | exact Nat.le_refl _⟩, ⟨by repeat (first | (with_reducible first | exact HB.out | apply below_alloc | apply pw_below_drewN | apply below_drew1) | exact HB.out)⟩⟩
                  · rw [if_neg c26] at H
                    exact absurd H (by simp)
              case rest =>
                clear HC16
                try clear c1
                try clear c2
                try clear p2
                try clear c5
                try clear c8
                try clear c9
                try clear c10
                try clear c11
                try clear c13
                try clear c14
                try clear c15
                try clear c24
                try clear c24b0
                try clear c24b1
                try clear c24b2
                try clear c26
                try clear c26b0
                try clear c26b1
                try clear c26b2
                try clear p2
                obtain ⟨kq, x43_15, rfl, HA, HJ15, HB⟩ := hcut
                cases kq with
                | zero => exact absurd HA.out (by simp [hibernaclelaw01_NumApart.j1])
                | succ kj15 =>
                  have H := HA.out
                  clear HA
                  simp only [hibernaclelaw01_NumApart.j1] at H
                  by_cases c29 : x43_15 = true
                  · subst c29
                    have H1 : (some false) = some r := by rw [if_pos rfl] at H; exact H
                    clear H
                    have H := H1
                    clear H1
                    obtain rfl := Option.some.inj H
                    go_wp2
                    go_ret
                    exact ⟨by first | rfl | (simp [errW_none, errW_some] <;> rfl) | (simp [*, errW_none, errW_some] <;> rfl), by repeat (first | (with_reducible first | exact HB.out | apply below_alloc | apply pw_below_drewN | apply below_drew1) | exact HB.out)⟩
                  · replace c29 := Bool.eq_false_iff.mpr c29
                    subst c29
                    have H1 : (if (t185.size : Int) = 0 then (some ((l0.length : Int) == 0)) else (if 0 ≤ (Int.tmod (wrap64 (a2)) (t185.size : Int)) then (if (Int.tmod (wrap64 (a2)) (t185.size : Int)) ≤ (t185.size : Int) then ((num_Texts.f kj15 (t185.extract 0 ((Int.tmod (wrap64 (a2)) (t185.size : Int)) : Int).toNat)).bind fun bt198 => (if bt198.2 = 4 then (if (bt198.1.length : Int) = 0 then (some true) else (if bt198.2 = 0 then (some (decide ((bt198.1.length : Int) < (l0.length : Int)))) else (some false))) else (if bt198.2 = 0 then (some (decide ((bt198.1.length : Int) < (l0.length : Int)))) else (some false)))) else (none)) else (none))) = some r := by rw [if_neg (show ¬ (false = true) by decide)] at H; exact H
                    clear H
                    have H := H1
                    clear H1
                    by_cases c30 : (t185.size : Int) = 0
                    · rw [if_pos c30] at H
                      have c30b0 : ((t185.size : Int) == 0) = true := beq_iff_eq.mpr c30
                      have c30b1 : ((t185.size : Int) != 0) = false := bne_eq_false_iff_eq.mpr c30
                      clear c30
                      obtain rfl := Option.some.inj H
                      go_wp2
                      go_ret
                      exact ⟨by first | rfl | (simp [errW_none, errW_some] <;> rfl) | (simp [*, errW_none, errW_some] <;> rfl), by repeat (first | (with_reducible first | exact HB.out | apply below_alloc | apply pw_below_drewN | apply below_drew1) | exact HB.out)⟩
                    · rw [if_neg c30] at H
                      have c30b0 : ((t185.size : Int) == 0) = false := beq_eq_false_iff_ne.mpr c30
                      have c30b1 : ((t185.size : Int) != 0) = true := bne_iff_ne.mpr c30
                      obtain ⟨ji31, hji31⟩ : ∃ j_ : Int, (Int.tmod (wrap64 (a2)) (t185.size : Int)) = j_ := ⟨_, rfl⟩
                      replace H : (if 0 ≤ (ji31) then (if (ji31) ≤ (t185.size : Int) then ((num_Texts.f kj15 (t185.extract 0 ((ji31) : Int).toNat)).bind fun bt198 => (if bt198.2 = 4 then (if (bt198.1.length : Int) = 0 then (some true) else (if bt198.2 = 0 then (some (decide ((bt198.1.length : Int) < (l0.length : Int)))) else (some false))) else (if bt198.2 = 0 then (some (decide ((bt198.1.length : Int) < (l0.length : Int)))) else (some false)))) else (none)) else (none)) = some r := by first | (rw [hji31] at H; exact H) | (simp only [hji31] at H ⊢; exact H)
                      by_cases c32 : 0 ≤ (ji31)
                      · rw [if_pos c32] at H
                        have c32b0 := eq_true c32
                        have c32b1 : decide (0 ≤ (ji31)) = true := decide_eq_true c32
                        clear c32
                        by_cases c33 : (ji31) ≤ (t185.size : Int)
                        · rw [if_pos c33] at H
                          have c33b0 := eq_true c33
                          have c33b1 : decide ((ji31) ≤ (t185.size : Int)) = true := decide_eq_true c33
                          clear c33
                          replace H := Option.bind_eq_some_iff.mp H
                          obtain ⟨⟨t198, t199⟩, A340, H⟩ := H
                          replace H : (if t199 = 4 then (if (t198.length : Int) = 0 then (some true) else (if t199 = 0 then (some (decide ((t198.length : Int) < (l0.length : Int)))) else (some false))) else (if t199 = 0 then (some (decide ((t198.length : Int) < (l0.length : Int)))) else (some false))) = some r := H
                          have A34 := Aside0.mk A340
                          clear A340
                          by_cases c35 : t199 = 4
                          · rw [if_pos c35] at H
                            have c35b0 : (t199 == 4) = true := beq_iff_eq.mpr c35
                            have c35b1 : (t199 != 4) = false := bne_eq_false_iff_eq.mpr c35
                            clear c35
                            by_cases c36 : (t198.length : Int) = 0
                            · rw [if_pos c36] at H
                              have c36b0 : ((t198.length : Int) == 0) = true := beq_iff_eq.mpr c36
                              have c36b1 : ((t198.length : Int) != 0) = false := bne_eq_false_iff_eq.mpr c36
                              clear c36
                              obtain rfl := Option.some.inj H
                              go_wp2_with (first | ((with_reducible refine gate_callee (f := 11) rfl ?_); refine goesL_ (some 58) rfl rfl Try.func11 (by kernel_rfl) rfl #[.string (t185.extract 0 ((ji31) : Int).toNat)] rfl (by (try simp only [List.map_toArray, List.map_cons, List.map_nil]); first | done | (simp only [hji31]; rfl) | rfl | (simp only [List.length_drop, List.length_take]; rfl)) ?_; (with_reducible refine (num_Texts.calls kj15 (t185.extract 0 ((ji31) : Int).toNat) t198 t199 _ A34.out).mono ?_); rintro e w37 ⟨v200, rfl, ho0, hb⟩; refine ⟨_, rfl, ?_⟩; have n0_ := Aside0.mk (Kd.R_lower ho0 (below_size (by repeat (first | (with_reducible first | exact HB.out | apply below_alloc | apply pw_below_drewN | apply below_drew1) | exact HB.out)))); have n1_ := Aside0.mk (below_step (by repeat (first | (with_reducible first | exact HB.out | apply below_alloc | apply pw_below_drewN | apply below_drew1) | exact HB.out)) hb); clear HB; have HO201 := n0_; have HB := n1_; clear n0_ n1_; (try clear hb); (try clear hb2); (try clear hk); (try clear hi); (try clear ho0); obtain ⟨Ao38, co38, eo38⟩ := Kd.R_slice HO201.out; subst eo38))
                              go_ret
                              exact ⟨by first | rfl | (simp [errW_none, errW_some] <;> rfl) | (simp only [← hji31]; first | rfl | (simp [errW_none, errW_some] <;> rfl)) | (simp [*, errW_none, errW_some] <;> rfl), by repeat (first | (with_reducible first | exact HB.out | apply below_alloc | apply pw_below_drewN | apply below_drew1) | exact HB.out)⟩
                            · rw [if_neg c36] at H
                              have c36b0 : ((t198.length : Int) == 0) = false := beq_eq_false_iff_ne.mpr c36
                              have c36b1 : ((t198.length : Int) != 0) = true := bne_iff_ne.mpr c36
                              have c36b2 : ¬ (t198 = []) := fun h_ => c36 (by rw [h_]; rfl)
                              by_cases c39 : t199 = 0
                              · rw [if_pos c39] at H
                                have c39b0 : (t199 == 0) = true := beq_iff_eq.mpr c39
                                have c39b1 : (t199 != 0) = false := bne_eq_false_iff_eq.mpr c39
                                clear c39
                                obtain rfl := Option.some.inj H
                                go_wp2_with (first | ((with_reducible refine gate_callee (f := 11) rfl ?_); refine goesL_ (some 58) rfl rfl Try.func11 (by kernel_rfl) rfl #[.string (t185.extract 0 ((ji31) : Int).toNat)] rfl (by (try simp only [List.map_toArray, List.map_cons, List.map_nil]); first | done | (simp only [hji31]; rfl) | rfl | (simp only [List.length_drop, List.length_take]; rfl)) ?_; (with_reducible refine (num_Texts.calls kj15 (t185.extract 0 ((ji31) : Int).toNat) t198 t199 _ A34.out).mono ?_); rintro e w40 ⟨v200, rfl, ho0, hb⟩; refine ⟨_, rfl, ?_⟩; have n0_ := Aside0.mk (Kd.R_lower ho0 (below_size (by repeat (first | (with_reducible first | exact HB.out | apply below_alloc | apply pw_below_drewN | apply below_drew1) | exact HB.out)))); have n1_ := Aside0.mk (below_step (by repeat (first | (with_reducible first | exact HB.out | apply below_alloc | apply pw_below_drewN | apply below_drew1) | exact HB.out)) hb); clear HB; have HO201 := n0_; have HB := n1_; clear n0_ n1_; (try clear hb); (try clear hb2); (try clear hk); (try clear hi); (try clear ho0); obtain ⟨Ao41, co41, eo41⟩ := Kd.R_slice HO201.out; subst eo41))
                                go_ret
                                exact ⟨by first | rfl | (simp [errW_none, errW_some] <;> rfl) | (simp only [← hji31]; first | rfl | (simp [errW_none, errW_some] <;> rfl)) | (simp [*, errW_none, errW_some] <;> rfl), by repeat (first | (with_reducible first | exact HB.out | apply below_alloc | apply pw_below_drewN | apply below_drew1) | exact HB.out)⟩
                              · rw [if_neg c39] at H
                                have c39b0 : (t199 == 0) = false := beq_eq_false_iff_ne.mpr c39
                                have c39b1 : (t199 != 0) = true := bne_iff_ne.mpr c39
                                obtain rfl := Option.some.inj H
                                go_wp2_with (first | ((with_reducible refine gate_callee (f := 11) rfl ?_); refine goesL_ (some 58) rfl rfl Try.func11 (by kernel_rfl) rfl #[.string (t185.extract 0 ((ji31) : Int).toNat)] rfl (by (try simp only [List.map_toArray, List.map_cons, List.map_nil]); first | done | (simp only [hji31]; rfl) | rfl | (simp only [List.length_drop, List.length_take]; rfl)) ?_; (with_reducible refine (num_Texts.calls kj15 (t185.extract 0 ((ji31) : Int).toNat) t198 t199 _ A34.out).mono ?_); rintro e w42 ⟨v200, rfl, ho0, hb⟩; refine ⟨_, rfl, ?_⟩; have n0_ := Aside0.mk (Kd.R_lower ho0 (below_size (by repeat (first | (with_reducible first | exact HB.out | apply below_alloc | apply pw_below_drewN | apply below_drew1) | exact HB.out)))); have n1_ := Aside0.mk (below_step (by repeat (first | (with_reducible first | exact HB.out | apply below_alloc | apply pw_below_drewN | apply below_drew1) | exact HB.out)) hb); clear HB; have HO201 := n0_; have HB := n1_; clear n0_ n1_; (try clear hb); (try clear hb2); (try clear hk); (try clear hi); (try clear ho0); obtain ⟨Ao43, co43, eo43⟩ := Kd.R_slice HO201.out; subst eo43))
                                go_ret
                                exact ⟨by first | rfl | (simp [errW_none, errW_some] <;> rfl) | (simp only [← hji31]; first | rfl | (simp [errW_none, errW_some] <;> rfl)) | (simp [*, errW_none, errW_some] <;> rfl), by repeat (first | (with_reducible first | exact HB.out | apply below_alloc | apply pw_below_drewN | apply below_drew1) | exact HB.out)⟩
                          · rw [if_neg c35] at H
                            have c35b0 : (t199 == 4) = false := beq_eq_false_iff_ne.mpr c35
                            have c35b1 : (t199 != 4) = true := bne_iff_ne.mpr c35
                            by_cases c44 : t199 = 0
                            · rw [if_pos c44] at H
                              have c44b0 : (t199 == 0) = true := beq_iff_eq.mpr c44
                              have c44b1 : (t199 != 0) = false := bne_eq_false_iff_eq.mpr c44
                              clear c44
                              obtain rfl := Option.some.inj H
                              go_wp2_with (first | ((with_reducible refine gate_callee (f := 11) rfl ?_); refine goesL_ (some 58) rfl rfl Try.func11 (by kernel_rfl) rfl #[.string (t185.extract 0 ((ji31) : Int).toNat)] rfl (by (try simp only [List.map_toArray, List.map_cons, List.map_nil]); first | done | (simp only [hji31]; rfl) | rfl | (simp only [List.length_drop, List.length_take]; rfl)) ?_; (with_reducible refine (num_Texts.calls kj15 (t185.extract 0 ((ji31) : Int).toNat) t198 t199 _ A34.out).mono ?_); rintro e w45 ⟨v200, rfl, ho0, hb⟩; refine ⟨_, rfl, ?_⟩; have n0_ := Aside0.mk (Kd.R_lower ho0 (below_size (by repeat (first | (with_reducible first | exact HB.out | apply below_alloc | apply pw_below_drewN | apply below_drew1) | exact HB.out)))); have n1_ := Aside0.mk (below_step (by repeat (first | (with_reducible first | exact HB.out | apply below_alloc | apply pw_below_drewN | apply below_drew1) | exact HB.out)) hb); clear HB; have HO201 := n0_; have HB := n1_; clear n0_ n1_; (try clear hb); (try clear hb2); (try clear hk); (try clear hi); (try clear ho0); obtain ⟨Ao46, co46, eo46⟩ := Kd.R_slice HO201.out; subst eo46))
                              go_ret
                              exact ⟨by first | rfl | (simp [errW_none, errW_some] <;> rfl) | (simp only [← hji31]; first | rfl | (simp [errW_none, errW_some] <;> rfl)) | (simp [*, errW_none, errW_some] <;> rfl), by repeat (first | (with_reducible first | exact HB.out | apply below_alloc | apply pw_below_drewN | apply below_drew1) | exact HB.out)⟩
                            · rw [if_neg c44] at H
                              have c44b0 : (t199 == 0) = false := beq_eq_false_iff_ne.mpr c44
                              have c44b1 : (t199 != 0) = true := bne_iff_ne.mpr c44
                              obtain rfl := Option.some.inj H
                              go_wp2_with (first | ((with_reducible refine gate_callee (f := 11) rfl ?_); refine goesL_ (some 58) rfl rfl Try.func11 (by kernel_rfl) rfl #[.string (t185.extract 0 ((ji31) : Int).toNat)] rfl (by (try simp only [List.map_toArray, List.map_cons, List.map_nil]); first | done | (simp only [hji31]; rfl) | rfl | (simp only [List.length_drop, List.length_take]; rfl)) ?_; (with_reducible refine (num_Texts.calls kj15 (t185.extract 0 ((ji31) : Int).toNat) t198 t199 _ A34.out).mono ?_); rintro e w47 ⟨v200, rfl, ho0, hb⟩; refine ⟨_, rfl, ?_⟩; have n0_ := Aside0.mk (Kd.R_lower ho0 (below_size (by repeat (first | (with_reducible first | exact HB.out | apply below_alloc | apply pw_below_drewN | apply below_drew1) | exact HB.out)))); have n1_ := Aside0.mk (below_step (by repeat (first | (with_reducible first | exact HB.out | apply below_alloc | apply pw_below_drewN | apply below_drew1) | exact HB.out)) hb); clear HB; have HO201 := n0_; have HB := n1_; clear n0_ n1_; (try clear hb); (try clear hb2); (try clear hk); (try clear hi); (try clear ho0)))
                              go_ret
                              exact ⟨by first | rfl | (simp [errW_none, errW_some] <;> rfl) | (simp only [← hji31]; first | rfl | (simp [errW_none, errW_some] <;> rfl)) | (simp [*, errW_none, errW_some] <;> rfl), by repeat (first | (with_reducible first | exact HB.out | apply below_alloc | apply pw_below_drewN | apply below_drew1) | exact HB.out)⟩
                        · rw [if_neg c33] at H
                          exact absurd H (by simp)
                      · rw [if_neg c32] at H
                        exact absurd H (by simp)
            · rw [if_neg c15] at H
              exact absurd H (by simp)
          · rw [if_neg c14] at H
            exact absurd H (by simp)
  · replace c5 := Bool.eq_false_iff.mpr c5
    subst c5
    have H1 : (some false) = some r := by rw [if_neg (show ¬ (false = true) by decide)] at H; exact H
    clear H
    have H := H1
    clear H1
    obtain rfl := Option.some.inj H
    go_enter Try.func5, Try.ntmps5
    go_wp2_with (first | ((with_reducible refine gate_callee (f := 8) rfl ?_); refine goesL_ (some 12) rfl rfl Try.func8 (by kernel_rfl) rfl #[] rfl (by (try simp only [List.map_toArray, List.map_cons, List.map_nil]); first | done | rfl | (simp only [List.length_drop, List.length_take]; rfl)) ?_; (with_reducible refine (hibernaclelaw01_numAlive.calls k  false _ A4.out).mono ?_); rintro e w48 ⟨rfl, hb⟩; refine ⟨_, rfl, ?_⟩; have n0_ := Aside0.mk (below_step (by repeat (first | (with_reducible first | exact HB.out | apply below_alloc | apply pw_below_drewN | apply below_drew1) | exact HB.out)) hb); clear HB; have HB := n0_; clear n0_; (try clear hb); (try clear hb2); (try clear hk); (try clear hi)))
    go_ret
    exact ⟨by first | rfl | (simp [errW_none, errW_some] <;> rfl) | (simp [*, errW_none, errW_some] <;> rfl), by repeat (first | (with_reducible first | exact HB.out | apply below_alloc | apply pw_below_drewN | apply below_drew1) | exact HB.out)⟩

end Go.Proofs.Ytaimjdfeijgbmaa.PLaw
