/- The reference's reading of rows. -/
import Derived.Test.YtaimjdfeijgbmaaTextsPure
import Derived.Test.YtaimjdfeijgbmaaPNumx3
namespace Go.Proofs.Ytaimjdfeijgbmaa
open Go.RowKit Go.Proofs.YtaimjdfeijgbmaaW.PrintWords Go.Proofs.YtaimjdfeijgbmaaW.PrintLast Go.Proofs.YtaimjdfeijgbmaaW.PrintMore

theorem mul_ref (c : UInt8) (i : Nat) (hi3 : i ≤ 3) : wrap64 ((Int.tmod (c.toNat : Int) 128) * ((128 ^ i : Nat) : Int)) = ((c.toNat % 128 * 128 ^ i : Nat) : Int) := by
  have e0 : (Int.tmod (c.toNat : Int) 128) = ((c.toNat % 128 : Nat) : Int) := by rw [Int.tmod_eq_emod_of_nonneg (by omega)]; rfl
  rw [e0, ← Int.natCast_mul]
  have h1 := mul_len (c.toNat % 128) (128 ^ i) (Nat.mod_lt _ (by decide))
  have h2 := pow_len i hi3
  generalize c.toNat % 128 * 128 ^ i = x at *
  generalize (128 : Nat) ^ i = p at *
  unfold wrap64
  omega
theorem unit_ref (i : Nat) (hi3 : i ≤ 3) : wrap64 (((128 ^ i : Nat) : Int) * 128) = ((128 ^ (i + 1) : Nat) : Int) := by
  have h2 := pow_len i hi3
  rw [Nat.pow_succ]
  generalize (128 : Nat) ^ i = p at *
  unfold wrap64
  omega
theorem ref_read (s : ByteArray) (hs : s.size ≤ 140737488351232) (acc : List ByteArray) (d : Nat) : ∀ (i n k at_ : Nat), d + i = 4 → 0 < d → at_ ≤ s.size → d + 1 < k → Aside0 (n < 128 ^ i) →
    ∃ k', k ≤ k' + d ∧ PNum.hibernacleref01_Texts.l1 k s acc at_ n (128 ^ i : Nat) i =
      if (rl (s.data.toList.drop at_) n i).2.2 ≠ 0 then some ([], ((rl (s.data.toList.drop at_) n i).2.2 : Int))
      else PNum.hibernacleref01_Texts.j2 k' s acc ((at_ + ((rl (s.data.toList.drop at_) n i).2.1 - i) : Nat) : Int) ((rl (s.data.toList.drop at_) n i).1 : Int) false := by
  induction d with
  | zero => exact fun _ _ _ _ _ h0 => absurd h0 (by decide)
  | succ d ih =>
    intro i n k at_ hd _ hat hk hn
    obtain ⟨k, rfl⟩ : ∃ m, k = m + 1 := ⟨k - 1, by omega⟩
    rw [PNum.hibernacleref01_Texts.l1]
    cases hL : s.data.toList.drop at_ with
    | nil =>
      have hge : s.size ≤ at_ := by
        have := List.drop_eq_nil_iff.1 hL
        simpa using this
      rw [if_pos (by omega)]
      exact ⟨k, by omega, rfl⟩
    | cons c t =>
      obtain ⟨hb, hlt⟩ := bt_list s at_ c t hL
      have hc := c.toNat_lt
      have hi3 : i ≤ 3 := by omega
      have hw : wrap64 (c.toNat : Int) = c.toNat := by unfold wrap64; omega
      have ha1 : wrap64 ((at_ : Int) + 1) = ((at_ + 1 : Nat) : Int) := by unfold wrap64; omega
      have hi1 : wrap64 ((i : Int) + 1) = ((i + 1 : Nat) : Int) := by unfold wrap64; omega
      have q1 : ¬ ((at_ : Int) = s.size) := by omega
      have q2 : (at_ : Int) < s.size := by omega
      have q3 : ((i : Int) = 3) ↔ i = 3 := by omega
      have q4 : ((i : Int) > 0) ↔ 0 < i := by omega
      have q5 : ((c.toNat : Int) = 0) ↔ c.toNat = 0 := by omega
      have q6 : ((c.toNat : Int) < 128) ↔ c.toNat < 128 := by omega
      have hd1 : d = 0 → i = 3 := by omega
      have hd2 : d + (i + 1) = 4 := by omega
      have hd3 : at_ + 1 ≤ s.size := by omega
      have hd4 : d + 1 < k := by omega
      have hmul := mul_ref c i hi3
      have hsum := sum_len n i c hi3 hn.out
      have hnext := next_len n i c hn.out
      have hun := unit_ref i hi3
      rw [if_neg q1, if_pos (Int.natCast_nonneg _), if_pos q2, hb, hw, hmul, hsum, ha1, hun, hi1]
      by_cases hl : c.toNat < 128
      · rw [if_pos (q6.2 hl)]
        by_cases hz : c.toNat = 0
        · rw [if_pos (q5.2 hz)]
          by_cases h0 : 0 < i
          · rw [decide_eq_true (q4.2 h0), rl_bad c t n i (.inr ⟨h0, hz⟩)]
            obtain ⟨k, rfl⟩ : ∃ m, k = m + 1 := ⟨k - 1, by clear hmul hsum hnext hun hn; omega⟩
            rw [PNum.hibernacleref01_Texts.j2, if_pos rfl]
            exact ⟨k + 1, by clear hmul hsum hnext hun hn; omega, rfl⟩
          · rw [decide_eq_false (fun e => h0 (q4.1 e)), rl_last c t n i (by omega) hl]
            refine ⟨k, by clear hmul hsum hnext hun hn; omega, ?_⟩
            rw [if_neg (by simp), show at_ + (i + 1 - i) = at_ + 1 from by clear hmul hsum hnext hun hn; omega]
        · rw [if_neg (fun e => hz (q5.1 e)), rl_last c t n i (by clear hmul hsum hnext hun hn; omega) hl]
          refine ⟨k, by clear hmul hsum hnext hun hn; omega, ?_⟩
          rw [if_neg (by simp), show at_ + (i + 1 - i) = at_ + 1 from by clear hmul hsum hnext hun hn; omega]
      · rw [if_neg (fun e => hl (q6.1 e))]
        by_cases h3 : i = 3
        · rw [if_pos (q3.2 h3), rl_bad c t n i (.inl ⟨h3, Nat.not_lt.1 hl⟩)]
          exact ⟨k, by clear hmul hsum hnext hun hn; omega, rfl⟩
        · rw [if_neg (fun e => h3 (q3.1 e)), rl_on c t n i (by clear hmul hsum hnext hun hn; omega) hl]
          obtain ⟨k', h1, h2⟩ := ih (i + 1) _ k (at_ + 1) hd2 (Nat.pos_of_ne_zero (fun e => h3 (hd1 e))) hd3 hd4 ⟨hnext⟩
          rw [drop_next _ _ _ _ hL] at h2
          refine ⟨k', by clear hmul hsum hnext hun hn; omega, h2.trans ?_⟩
          by_cases he : (rl t (n + c.toNat % 128 * 128 ^ i) (i + 1)).2.2 ≠ 0
          · rw [if_pos he, if_pos he]
          · rw [if_neg he, if_neg he]
            have he' : (rl t (n + c.toNat % 128 * 128 ^ i) (i + 1)).2.2 = 0 := Nat.eq_zero_of_not_pos (fun e => he (Nat.pos_iff_ne_zero.1 e))
            obtain ⟨m, R, _, _, hsz, _⟩ := rl_back t _ (i + 1) (rl t (n + c.toNat % 128 * 128 ^ i) (i + 1)).1 (rl t (n + c.toNat % 128 * 128 ^ i) (i + 1)).2.1 (Nat.succ_le_of_lt (Nat.lt_of_le_of_ne hi3 h3)) (Prod.ext rfl (Prod.ext rfl he'))
            rw [hsz]
            congr 2
            clear hmul hsum hnext hun hn h1 h2 he he' ih
            omega
theorem ref_texts (s : ByteArray) (hs : s.size ≤ 140737488351232) (d : Nat) : ∀ (k at_ : Nat) (acc : List ByteArray), s.size - at_ < d → 7 * d + 7 ≤ k → at_ ≤ s.size → acc.length + (s.size - at_) < 8796093022208 →
    PNum.hibernacleref01_Texts.l0 k s acc at_ = some ((tl d (s.data.toList.drop at_) acc).1, (((tl d (s.data.toList.drop at_) acc).2 : Nat) : Int)) := by
  induction d with
  | zero => exact fun _ _ _ h => absurd h (Nat.not_lt_zero _)
  | succ d ih =>
    intro k at_ acc hd hk hat ha
    obtain ⟨k, rfl⟩ : ∃ m, k = m + 1 := ⟨k - 1, by omega⟩
    rw [PNum.hibernacleref01_Texts.l0]
    have hdl : (s.data.toList.drop at_).length = s.size - at_ := by simp
    cases hL : s.data.toList.drop at_ with
    | nil =>
      rw [hL, List.length_nil] at hdl
      rw [if_neg (by omega), tl]; rfl
    | cons c t =>
      rw [hL] at hdl
      have hlt : at_ < s.size := by rw [List.length_cons] at hdl; omega
      rw [if_pos (by omega)]
      obtain ⟨k', h1, h2⟩ := ref_read s hs acc 4 0 0 k at_ rfl (by decide) hat (by omega) ⟨by decide⟩
      rw [hL] at h2
      refine Eq.trans h2 ?_
      clear h2
      rw [tl]
      have hr := rl_size (c :: t) 0 0 (by omega) (by decide)
      have hb : ∀ r sz, rl (c :: t) 0 0 = (r, sz, 0) → 0 < sz := fun r sz e => by
        obtain ⟨m, R, _, _, h3, _⟩ := rl_back (c :: t) 0 0 r sz (by omega) e
        have := lenU_pos m
        omega
      obtain ⟨r, hr1⟩ : ∃ r, r = (rl (c :: t) 0 0).1 := ⟨_, rfl⟩
      obtain ⟨sz, hr2⟩ : ∃ sz, sz = (rl (c :: t) 0 0).2.1 := ⟨_, rfl⟩
      obtain ⟨e, hr3⟩ : ∃ e, e = (rl (c :: t) 0 0).2.2 := ⟨_, rfl⟩
      have hb' : e = 0 → 0 < sz := fun h0 => hb r sz (Prod.ext hr1.symm (Prod.ext hr2.symm (hr3.symm.trans h0)))
      rw [← hr1, ← hr2, ← hr3] at hr ⊢
      clear hb hr1 hr2 hr3
      by_cases h0 : e = 0
      · subst h0
        have h3 := hr.2.2 rfl
        have h4 := hb' rfl
        have nz : ¬ ((0 : Nat) ≠ 0) := by decide
        obtain ⟨k', rfl⟩ : ∃ m, k' = m + 1 := ⟨k' - 1, by omega⟩
        have w1 : wrap64 ((s.size : Int) - ((at_ + (sz - 0) : Nat) : Int)) = ((s.size - (at_ + sz) : Nat) : Int) := by unfold wrap64; omega
        have w2 : wrap64 (((at_ + (sz - 0) : Nat) : Int) + (r : Int)) = ((at_ + (sz + r) : Nat) : Int) := by unfold wrap64; omega
        rw [if_neg nz, if_neg nz, PNum.hibernacleref01_Texts.j2, if_neg (by decide), w1, w2]
        clear w1 w2 hb'
        by_cases hlt : (c :: t).length - sz < r
        · have q : ((s.size - (at_ + sz) : Nat) : Int) < (r : Int) := by clear ih; omega
          rw [if_pos q, if_pos hlt]; rfl
        · have q : ¬ ((s.size - (at_ + sz) : Nat) : Int) < (r : Int) := by clear ih; omega
          rw [if_neg q, if_neg hlt, if_pos (by clear ih; omega), if_pos (by clear ih; omega), if_pos (by clear ih; omega), if_pos (by clear ih; omega)]
          have x1 : s.data.toList.drop (at_ + (sz + r)) = (c :: t).drop (sz + r) := by rw [← List.drop_drop, hL]
          have x2 : s.extract (at_ + (sz - 0)) (at_ + (sz + r)) = ⟨(((c :: t).drop sz).take r).toArray⟩ := byteArray_eq _ _ (by
            rw [extract_list, show at_ + (sz - 0) = at_ + sz from rfl, ← List.drop_drop, hL]; congr 1; omega)
          have y1 : s.size - (at_ + (sz + r)) < d := by omega
          have y2 : 7 * d + 7 ≤ k' := by omega
          have y3 : at_ + (sz + r) ≤ s.size := by omega
          have y4 : acc.length + 1 + (s.size - (at_ + (sz + r))) < 8796093022208 := by omega
          have z := ih k' (at_ + (sz + r)) (acc ++ [⟨(((c :: t).drop sz).take r).toArray⟩]) y1 y2 y3 (by rw [List.length_append]; exact y4)
          rw [x1] at z
          rw [Int.toNat_natCast, Int.toNat_natCast, x2]
          exact z
      · rw [if_pos h0, if_pos h0]
end Go.Proofs.Ytaimjdfeijgbmaa
