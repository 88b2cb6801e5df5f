/- The reference's turning of bytes. -/
import Derived.Test.YtgdjapcpgkflbaaWStream
import Derived.Deep.AppendLies
import Derived.Laws.OwnMore
namespace Go.Proofs.Ytgdjapcpgkflbaa
open Go.RowKit
open Cc (g)

theorem below_grown {B g : Nat} {a b c : World} (h : Below B a b) (hg : b.grownBy c (some g)) (hB : B ≤ g) (hBs : B ≤ b.heap.size) : Below B a c :=
  ⟨hg.os.trans h.os, hg.tape.trans h.tape, hg.output.trans h.output, Nat.le_trans h.size hg.size, fun k hk => (hg.block k (Nat.lt_of_lt_of_le hk hBs) (fun e => by injection e; omega)).trans (h.block k hk)⟩
theorem grown_below {w w' : World} (h : Below w.heap.size w w') : w.grownBy w' none := ⟨h.os, h.tape, h.output, h.size, fun k hk _ => h.block k hk⟩
theorem run_text_of_own {P : Program} {src e dst : TypeId} (hs : P.underlying src = some (.slice e)) (he : P.underlying e = some (.int .u8)) (hd : P.underlying dst = some .string)
    {w : World} {base ty b n c : Nat} {L : List Nat} (h : w.ownsRow base ty 1 (.slice (some ⟨b, 0, none⟩) n c) n (L.map fun x : Nat => .int .u8 (x : Int))) :
    (convert src dst (.slice (some ⟨b, 0, none⟩) n c)).run P w = .ok (.string (txt L)) w := by
  have hL : L.length = n := by have := h.1; simpa using this
  have hl : (L.map fun x : Nat => (x : Int)).length = n := by simpa using hL
  have key := run_convert_bytes_arg w src e hs he b 0 n c (L.map fun x : Nat => (x : Int)) hl (fun j hj => by
    rw [Nat.zero_add, h.cellAt j (by omega)]
    simp only [List.getElem?_map, List.getD_eq_getElem?_getD]
    rw [List.getElem?_eq_getElem (by omega)]
    rfl) dst hd
  rw [key]
  congr 2
  unfold strOfNums txt
  simp [Function.comp_def]
/-- The first i bytes turned. -/
def xo (f : Nat → Nat) (L : List Nat) (i : Nat) : List Nat := (List.range i).map fun j => g L j ^^^ f j
theorem xo_next (f : Nat → Nat) (L : List Nat) (i : Nat) : xo f L i ++ [g L i ^^^ f i] = xo f L (i + 1) := by
  unfold xo
  rw [List.range_succ, List.map_append]
  rfl

/-- Key and nonce, the block at hand, and what was put together so far. -/
structure RX (w wr : World) (K G cap : Nat) (key nonce C : List Nat) (i : Nat) (o : List Nat) : Prop where
  rk : Row wr w.heap.size 23 (vs .u8 key)
  rn : Row wr (w.heap.size + 1) 24 (vs .u8 nonce)
  rb : Row wr K 27 (vs .u8 C)
  own : wr.ownsRow (w.heap.size + 2) 5 1 (.slice (some ⟨G, 0, none⟩) i cap) i (o.map fun x : Nat => .int .u8 (x : Int))
  farK : w.heap.size + 1 < K
  apart : G ≠ K
  below : Below w.heap.size w wr
namespace RX
variable {w wr w2 : World} {K G cap : Nat} {key nonce C : List Nat} {i : Nat} {o : List Nat}
theorem gfar (h : RX w wr K G cap key nonce C i o) : w.heap.size + 2 ≤ G := (h.own.lt G rfl).1
theorem glt (h : RX w wr K G cap key nonce C i o) : G < wr.heap.size := (h.own.lt G rfl).2
theorem kept (h : RX w wr K G cap key nonce C i o) (hb : Below wr.heap.size wr w2) : RX w w2 K G cap key nonce C i o :=
  ⟨h.rk.below hb h.rk.lt, h.rn.below hb h.rn.lt, h.rb.below hb h.rb.lt, h.own.kept (grown_below hb) (.inr (by simp [Value.ownBlock])), h.farK, h.apart, h.below.trans (hb.mono h.below.size)⟩
theorem block (h : RX w wr K G cap key nonce C i o) (C' : List Nat) : RX w (wr.setRow K (vs .u8 C')) K G cap key nonce C' i o := by
  obtain ⟨h1, h2, h3, h4, h5, h6, h7⟩ := h
  have hg : wr.grownBy (wr.setRow K (vs .u8 C')) (some K) := ⟨rfl, rfl, rfl, by simp, fun k _ hk => setRow_other wr K k _ (fun e => hk (by simp [e]))⟩
  exact ⟨h1.rowOther (by omega) _, h2.rowOther (by omega) _, h3.row, h4.kept hg (.inr (by simp [Value.ownBlock]; exact h6)), h5, h6, below_row h7 (by omega) _⟩
end RX

set_option maxHeartbeats 4000000 in
theorem rxorS_any (key nonce : List Nat) (n : Nat) (s : ByteArray) (hk : key.length = 32) (hn : nonce.length = 12) (hkl : ∀ x ∈ key, x < 256) (hnl : ∀ x ∈ nonce, x < 256) (hnn : n < 4294967296)
    (hs : s.size ≤ 400) (w : World) :
    Calls Try.prog 13 #[.agg (vs .u8 key), .agg (vs .u8 nonce), .int .u32 n, .string s] w
      fun e w' => e = .returned (.string (txt (Cc.xorS (Cc.sb key nonce n) (bytes s)))) ∧ Below w.heap.size w w' := by
  have hsz := bytes_len s
  go_enter Try.func13, Try.ntmps13
  go_upto_region 1 with (fail)
  refine wp_abs (fun W0 HW0 => ?_)
  have hk0 : Row W0 w.heap.size 23 (vs .u8 key) := by rw [HW0.out]; exact (Row.new w _ 23).alloc _
  have hn0 : Row W0 (w.heap.size + 1) 24 (vs .u8 nonce) := by rw [HW0.out]; exact Row.new1 w _ _ 24
  have hs0 : W0.heap.size = w.heap.size + 2 := by rw [HW0.out, size_alloc, size_alloc]
  have hb0 : Below w.heap.size w W0 := by
    rw [HW0.out]
    have b1 := (Below.refl w.heap.size w).alloc (Nat.le_refl _) (.cells (vs .u8 key) 23)
    exact b1.alloc b1.size _
  clear HW0
  go_upto_region 2 with (fail)
  refine wp_abs (fun W1 HW1 => ?_)
  have hk1 : Row W1 w.heap.size 23 (vs .u8 key) := by rw [HW1.out]; exact hk0.alloc _
  have hn1 : Row W1 (w.heap.size + 1) 24 (vs .u8 nonce) := by rw [HW1.out]; exact hn0.alloc _
  have hs1 : W1.heap.size = w.heap.size + 3 := by rw [HW1.out, size_alloc, hs0]
  have hb1 : Below w.heap.size w W1 := by rw [HW1.out]; exact hb0.alloc hb0.size _
  have ho1 : W1.ownsRow (w.heap.size + 2) 5 1 (.slice (some ⟨w.heap.size + 2, 0, none⟩) 0 0) 0 [] := by
    rw [HW1.out, ← hs0]
    exact World.ownsRow_lit W0 #[] 0 (Nat.le_refl _) (by decide) rfl
  clear HW1 hk0 hn0 hb0 hs0
  replace hs1 := Sec.mk hs1
  have hz := Row.new W1 (vs .u8 (List.replicate 64 0)) 27
  go_upto_block 0 with (refine wpList_store_row rfl 27 (.tmp 10) (.tmp 13) rfl W1.heap.size (vs .u8 (List.replicate 64 0)) rfl rfl 27 _ hz (by rw [vs_size]; kernel_rfl) (by simp [vs_size]) (vs_all _ _) ?_)
  refine wp_abs (fun W2 HW2 => ?_)
  have hX : RX w W2 W1.heap.size (w.heap.size + 2) 0 key nonce (List.replicate 64 0) 0 (xo (Cc.sb key nonce n) (bytes s) 0) := by
    rw [HW2.out]
    have b1 := (Below.refl W1.heap.size W1).alloc (Nat.le_refl _) (.cells (vs .u8 (List.replicate 64 0)) 27)
    exact RX.block (C := List.replicate 64 0) ⟨hk1.alloc _, hn1.alloc _, Row.new _ _ 27, ho1.alloc _, by have := hs1.out; omega, by have := hs1.out; omega, hb1.alloc hb1.size _⟩ _
  clear HW2 hk1 hn1 hb1 ho1 hs1 hz
  generalize W1.heap.size = K at hX ⊢
  have hH : AtHand key nonce n 0 (List.replicate 64 0) := fun h => absurd h (by decide)
  have i23 : (Try.prog.info? 23).map (·.size) = some (vs .u8 key).size := by rw [vs_size, hk]; kernel_rfl
  have i24 : (Try.prog.info? 24).map (·.size) = some (vs .u8 nonce).size := by rw [vs_size, hn]; kernel_rfl
  generalize w.heap.size + 2 = G at hX ⊢
  go_wp2_with fail
  go_loopw [2, 9, 11] (fun v2 v9 v11 wr => ∃ i G cap : Nat, ∃ C : List Nat, i ≤ s.size ∧ v2 = .int .u32 ((n + (i + 63) / 64) % 4294967296 : Nat) ∧ v9 = .slice (some ⟨G, 0, none⟩) i cap ∧ v11 = .int .i64 i ∧
      RX w wr K G cap key nonce C i (xo (Cc.sb key nonce n) (bytes s) i) ∧ AtHand key nonce n i C ∧ C.length = 64) (fun _ _ v11 _ => s.size - (intOf v11).toNat)
  case atStart => exact ⟨0, _, _, _, by omega, by rw [show (n + (0 + 63) / 64) % 4294967296 = n from by omega], rfl, rfl, hX, hH, by simp⟩
  case round =>
    clear hX hH
    obtain ⟨i, G, cap, C, hi, rfl, rfl, rfl, hX, hH, hC⟩ := hrel
    by_cases hlt : i < s.size
    · have hd : decide ((i : Int) < s.size) = true := decide_eq_true (by omega)
      go_upto_if 22 with (fail)
      go_cut [2] (fun v2 w3 => v2 = .int .u32 ((n + (i + 1 + 63) / 64) % 4294967296 : Nat) ∧ RX w w3 K G cap key nonce (Cc.block key nonce ((n + i / 64) % 4294967296)) i (xo (Cc.sb key nonce n) (bytes s) i))
      case first =>
        by_cases hz : i % 64 = 0
        · have hz1 : ((i : Int) % 64 == 0) = true := by rw [beq_iff_eq]; omega
          have hm : (n + (i + 63) / 64) % 4294967296 = (n + i / 64) % 4294967296 := by rw [show (i + 63) / 64 = i / 64 from by omega]
          have hnx := Sec.mk (Cc.next_n (n := n) rfl hz)
          have hml : (n + i / 64) % 4294967296 < 4294967296 := Nat.mod_lt _ (by decide)
          rw [hm]
          have HB := Sec.mk (fun w => rblock_any key nonce ((n + i / 64) % 4294967296) hk hn hkl hnl hml w)
          have hbl := Cc.block_len key nonce ((n + i / 64) % 4294967296)
          clear hm hz
          generalize (n + i / 64) % 4294967296 = m at *
          generalize xo (Cc.sb key nonce n) (bytes s) i = O at *
          go_wp2_with (first
            | (refine wpList_load_row rfl 23 (.tmp 4) rfl w.heap.size rfl 23 (vs .u8 key) (0, 0) _ hX.rk Try.underlying23 rfl i23 ?_)
            | (refine wpList_load_row rfl 24 (.tmp 5) rfl (w.heap.size + 1) rfl 24 (vs .u8 nonce) (0, 0) _ hX.rn Try.underlying24 rfl i24 ?_))
          refine (HB.out _).mono ?_
          rintro e w3 ⟨rfl, hb3⟩
          have hX3 := hX.kept hb3
          go_wp2_with (refine wpList_store_row rfl 27 (.tmp 10) (.tmp 26) rfl K (vs .u8 (Cc.block key nonce m)) rfl rfl 27 _ hX3.rb (by rw [vs_size, hbl]; kernel_rfl) (by rw [vs_size, vs_size, hC, hbl]) (vs_all _ _) ?_)
          go_meet
          exact ⟨by rw [← hnx.out]; go_num, hX3.block _⟩
        · have hz1 : ((i : Int) % 64 == 0) = false := by rw [beq_eq_false_iff_ne]; omega
          have hm := Sec.mk (Cc.same_n (n := n) hz)
          have hC2 := hH.same hz
          clear hz
          go_wp2_with fail
          go_meet
          exact ⟨by rw [hm.out], by rw [← hC2]; exact hX⟩
      case rest =>
        clear hX hH hC
        obtain ⟨rfl, hX⟩ := hcut
        have hi1 : (i : Int) < s.size := by omega
        obtain ⟨j, hj⟩ : ∃ j, j = i % 64 := ⟨_, rfl⟩
        have hi2 : (j : Int) < 64 := by omega
        have et : (i : Int).tmod 64 = (j : Int) := by rw [Int.tmod_eq_emod_of_nonneg (by omega)]; omega
        have hix := Sec.mk (fun W => run_index_text Try.underlying9 s (bytes s) rfl (i : Int) i (by omega) rfl W)
        have hy : g (Cc.block key nonce ((n + i / 64) % 4294967296)) j = Cc.sb key nonce n i := by rw [hj]; exact Cc.sb_block rfl
        have hbl := Cc.block_len key nonce ((n + i / 64) % 4294967296)
        have hla : g (bytes s) i < 256 := Cc.g_lt_of_all (by decide) (bytes_lt s) i
        have hlb := Cc.sb_lt key nonce n i
        have hnx := Sec.mk (xo_next (Cc.sb key nonce n) (bytes s) i)
        have hlt8 : g (bytes s) i ^^^ Cc.sb key nonce n i < 256 := Nat.xor_lt_two_pow (n := 8) hla hlb
        have hH' : AtHand key nonce n (i + 1) (Cc.block key nonce ((n + i / 64) % 4294967296)) := AtHand.next rfl
        generalize Cc.block key nonce ((n + i / 64) % 4294967296) = C at *
        clear hj
        generalize g (bytes s) i = x at *
        generalize Cc.sb key nonce n i = y at *
        obtain ⟨m2, hm2⟩ : ∃ m2, m2 = (n + (i + 1 + 63) / 64) % 4294967296 := ⟨_, rfl⟩
        rw [← hm2]
        replace hm2 := Sec.mk hm2
        generalize xo (Cc.sb key nonce n) (bytes s) i = O at *
        go_upto_region 9 with (fail)
        have wx : IntKind.u64.wrap (x : Int) = x := IntWalk.u64_in _ (by omega)
        have wy : IntKind.u64.wrap (y : Int) = y := IntWalk.u64_in _ (by omega)
        have wz : IntKind.u8.wrap ((x ^^^ y : Nat) : Int) = (x ^^^ y : Nat) := IntWalk.u8_in _ (by omega)
        obtain ⟨i5, hi5, hi5'⟩ := Option.map_eq_some_iff.1 info5s
        simp only [Prod.mk.injEq] at hi5'
        obtain ⟨hi5z, hi5s, hi5b⟩ := hi5'
        obtain ⟨D, hD⟩ : ∃ D, D = wc.drew := ⟨_, rfl⟩
        have hXD : RX w D K G cap key nonce C i O := by rw [hD]; exact ⟨hX.rk.drew, hX.rn.drew, hX.rb.drew, hX.own.drew, hX.farK, hX.apart, hX.below.drew⟩
        refine wp_region_held_drew (S := fun w' => Row w' K 27 (vs .u8 C)) (by kernel_rfl) hX.rb.drew (fun hS => ?_)
        rw [← hD] at hS ⊢
        clear hD hX wc
        refine wpAnyH_take (i := 0) (v := .slice (some ⟨G, 0, none⟩) i cap) rfl (by kernel_rfl) (by kernel_rfl) (by kernel_rfl) (fun _ _ _ h => h) (Or.inl ⟨rfl, fun _ _ => by go_simp; try rfl⟩) hS ?_
        go_simp
        refine wpAnyH_take (i := 1) (v := .string s) rfl (by kernel_rfl) (by kernel_rfl) (by kernel_rfl) (fun _ _ _ h => h) (Or.inl ⟨rfl, fun _ _ => by go_simp; try rfl⟩) hS ?_
        go_simp
        refine wpAnyH_take (i := 2) (v := .int .i64 i) rfl (by kernel_rfl) (by kernel_rfl) (by kernel_rfl) (fun _ _ _ h => h) (Or.inl ⟨rfl, fun _ _ => by go_simp; try rfl⟩) hS ?_
        go_simp
        refine wpAnyH_take (i := 3) (v := .int .u8 x) rfl (by kernel_rfl) (by kernel_rfl) (by kernel_rfl) (fun _ _ _ h => h) (Or.inl ⟨rfl, fun w' _ => by have k := hix.out w'; go_simp; try rfl⟩) hS ?_
        go_simp
        refine wpAnyH_take (i := 4) (v := .int .u64 x) rfl (by kernel_rfl) (by kernel_rfl) (by kernel_rfl) (fun _ _ _ h => h) (Or.inl ⟨rfl, fun _ _ => by go_simp; try rfl⟩) hS ?_
        go_simp
        refine wpAnyH_take (i := 5) (v := .int .i64 i) rfl (by kernel_rfl) (by kernel_rfl) (by kernel_rfl) (fun _ _ _ h => h) (Or.inl ⟨rfl, fun _ _ => by go_simp; try rfl⟩) hS ?_
        go_simp
        refine wpAnyH_take (i := 6) (v := .int .i64 j) rfl (by kernel_rfl) (by kernel_rfl) (by kernel_rfl) (fun _ _ _ h => h) (Or.inl ⟨rfl, fun _ _ => by go_simp; try rfl⟩) hS ?_
        go_simp
        refine wpAnyH_take (i := 7) (v := .pointer (some ⟨K, j, none⟩)) rfl (by kernel_rfl) (by kernel_rfl) (by kernel_rfl) (fun _ _ _ h => h) (Or.inl ⟨rfl, fun _ _ => by go_simp; try rfl⟩) hS ?_
        go_simp
        refine wpAnyH_take (i := 8) (v := .int .u8 y) rfl (by kernel_rfl) (by kernel_rfl) (by kernel_rfl) (fun _ _ _ h => h) (Or.inl ⟨rfl, fun w' h => by have k := h.cell (i := j) (by omega); rw [hy] at k; go_simp; try rfl⟩) hS ?_
        go_simp
        refine wpAnyH_take (i := 9) (v := .int .u64 y) rfl (by kernel_rfl) (by kernel_rfl) (by kernel_rfl) (fun _ _ _ h => h) (Or.inl ⟨rfl, fun _ _ => by go_simp; try rfl⟩) hS ?_
        go_simp
        have H20 := Sec.mk (fun W => rxor_any x y W (by omega) (by omega))
        obtain ⟨z, hzx⟩ : ∃ z, z = x ^^^ y := ⟨_, rfl⟩
        rw [← hzx] at wz H20 hnx hlt8
        clear hzx wx wy hla hlb hix
        refine wpAnyH_ready (rs := [10]) (by kernel_rfl) (by simp) (AllReadyH.cons (o := _) rfl (fun Kk hK => ?_) AllReadyH.nil)
        go_simp
        refine (H20.out D).mono ?_
        rintro e w3 ⟨rfl, rfl⟩
        refine hK.out _ _ hS (fun hS => ?_)
        clear hK Kk H20
        go_simp
        refine wpAnyH_take (i := 11) (v := .int .u8 z) rfl (by kernel_rfl) (by kernel_rfl) (by kernel_rfl) (fun _ _ _ h => h) (Or.inl ⟨rfl, fun _ _ => by go_simp; try rfl⟩) hS ?_
        go_simp
        refine wpAnyH_ready (rs := [12]) (by kernel_rfl) (by simp) (AllReadyH.cons (o := _) rfl (fun Kk hK => ?_) AllReadyH.nil)
        go_simp
        refine hK.out _ _ (hS.alloc _) (fun hS1 => ?_)
        clear hK Kk
        have hlt := hXD.glt
        have hkt := hXD.rb.lt
        have hown1 := hXD.own.alloc (.cells #[.int .u8 (z : Int)] 5)
        have hnew := Row.new D #[.int .u8 (z : Int)] 5
        have hg1 := World.grownBy_alloc D (.cells #[.int .u8 (z : Int)] 5) (some G)
        have hb1 := (Below.refl D.heap.size D).alloc (Nat.le_refl _) (.cells #[.int .u8 (z : Int)] 5)
        have hX1 := hXD.kept hb1
        have hs1 := size_alloc D (.cells #[.int .u8 (z : Int)] 5)
        obtain ⟨D1, hD1⟩ : ∃ D1, D1 = D.alloc (.cells #[.int .u8 (z : Int)] 5) := ⟨_, rfl⟩
        rw [← hD1] at hown1 hnew hg1 hb1 hX1 hS1 hs1 ⊢
        replace hs1 := Sec.mk hs1
        clear hD1 hown1 hg1 hb1
        refine wpAnyH_ready (rs := [13]) (by kernel_rfl) (by simp) (AllReadyH.cons (o := _) rfl (fun Kk hK => ?_) AllReadyH.nil)
        rw [if_pos (by rfl)]
        refine wp_append_lies D1 (.tmp 29) (.tmp 41) 36 rfl (w.heap.size + 2) 5 i5 (.int .u8 0) 1 1 Try.underlying36 hi5 hi5z hi5s hi5b rfl (by omega) _ i _ rfl hX1.own ⟨D.heap.size, 0, none⟩ 1 1 [.int .u8 (z : Int)] rfl rfl (fun j u hu => ?_) (by simp [Value.oneCell']) (by omega) (by unfold maxLen; omega) (by omega) (by have := hX1.gfar; have := hX1.glt; omega) _ rfl ?_
        · rcases j with _ | j
          · injection hu with hu
            rw [← hu]
            exact hnew.get
          · cases hu
        intro G2 cap2 w4 hown hgrow hat hlt2
        have hg2 : G2 ≠ K := by
          rcases hat with h | h
          · have h' : G = G2 := by injection h
            have := hX1.apart
            omega
          · have := hX1.rb.lt; omega
        have hX2 : RX w w4 K G2 cap2 key nonce C (i + 1) (O ++ [z]) := by
          have gf := hX1.gfar
          have fk := hX1.farK
          have ap := hX1.apart
          have hgr : D1.grownBy w4 (some G) := hgrow
          have ne : ∀ b, b ≠ G → some b ≠ some G := fun b h e => h (Option.some.inj e)
          have bs := hX1.below.size
          exact ⟨hX1.rk.grown hgr (ne _ (by omega)), hX1.rn.grown hgr (ne _ (by omega)), hX1.rb.grown hgr (ne _ (fun e => ap e.symm)),
            by rw [List.map_append]; exact hown, fk, hg2, below_grown hX1.below hgr (by omega) (Nat.le_trans bs (Nat.le_refl _))⟩
        rw [hnx.out] at hX2
        clear hown hgrow hat hX1 hXD hnew hs1 hS1 hS
        refine hK.out _ _ hX2.rb (fun hS => ?_)
        clear hK Kk
        go_simp
        refine wpAnyH_ready (rs := [14]) (by kernel_rfl) (by simp) (AllReadyH.cons (o := _) rfl (fun Kk hK => ?_) AllReadyH.nil)
        go_simp
        refine hK.out _ _ hS (fun hS => ?_)
        clear hK Kk
        go_simp
        refine wpAnyH_done (by kernel_rfl) ?_ _
        go_wp2_with fail
        go_roundw
        case rel => exact ⟨i + 1, _, _, _, by omega, by rw [hm2.out], by go_num, by go_num, hX2, hH', hbl⟩
        case measure => simp [intOf]; omega
    · rw [show i = s.size from by omega] at hX
      have hcv := run_text_of_own Try.underlying36 Try.underlying5 Try.underlying9 hX.own
      rw [show xo (Cc.sb key nonce n) (bytes s) s.size = Cc.xorS (Cc.sb key nonce n) (bytes s) from by rw [← hsz]; rfl] at hcv
      have hd : decide ((i : Int) < s.size) = false := decide_eq_false (by omega)
      rw [show i = s.size from by omega]
      go_wp2_with fail
      go_ret
      exact ⟨rfl, hX.below⟩
end Go.Proofs.Ytgdjapcpgkflbaa
