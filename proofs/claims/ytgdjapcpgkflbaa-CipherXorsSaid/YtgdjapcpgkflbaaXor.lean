/- The program's turning of bytes. -/
import Derived.Test.YtgdjapcpgkflbaaBlock
import Derived.Test.YtgdjapcpgkflbaaXorPure
import Derived.Lib.ConvBytes
namespace Go.Proofs.Ytgdjapcpgkflbaa
open Go.RowKit
open Cc (g)

/-- A row that a conversion laid: a mark stands behind its cells. -/
def RowS (w : World) (b t : Nat) (k : IntKind) (L : List Nat) : Prop := w.heap[b]? = some (.cells (vs k L) t (L.length, L.length + 1))
theorem RowS.cell {w : World} {b t i : Nat} {k : IntKind} {L : List Nat} (h : RowS w b t k L) (hi : i < L.length) : w.cell? ⟨b, i, none⟩ = some (.int k (g L i : Nat)) := (cell_of_row w b i _ t _ h).trans (vs_get hi)
theorem RowS.free {w : World} {b t i : Nat} {k : IntKind} {L : List Nat} (h : RowS w b t k L) (hi : i < L.length) : w.frozen? ⟨b, i, none⟩ = false := by
  have h' : w.heap[b]? = some (.cells (vs k L) t (L.length, L.length + 1)) := h
  simp [World.frozen?, h']
  omega
theorem RowS.set {w : World} {b t : Nat} {k : IntKind} {L : List Nat} (h : RowS w b t k L) (i v : Nat) : RowS (w.setCell ⟨b, i, none⟩ (.int k (v : Int))) b t k (L.set i v) := by
  have h' : w.heap[b]? = some (.cells (vs k L) t (L.length, L.length + 1)) := h
  unfold RowS
  rw [setCell_eq_setRow w b i (vs k L) t _ _ h', setRow_heap w b (vs k L) _ t _ h', vs_set]
  simp
theorem RowS.lt {w : World} {b t : Nat} {k : IntKind} {L : List Nat} (h : RowS w b t k L) : b < w.heap.size := (Array.getElem?_eq_some_iff.1 h).1
theorem RowS.below {w w' : World} {b t B : Nat} {k : IntKind} {L : List Nat} (h : RowS w b t k L) (hb : Below B w w') (hB : b < B) : RowS w' b t k L := (hb.block b hB).trans h
theorem RowS.aside {w : World} {b t : Nat} {k : IntKind} {L : List Nat} (h : RowS w b t k L) {a : Addr} (ha : b ≠ a.block) (v : Value) : RowS (w.setCell a v) b t k L := (heap_setCell_other w a b v ha).trans h
theorem RowS.rowOther {w : World} {b b' t : Nat} {k : IntKind} {L : List Nat} (h : RowS w b t k L) (hb : b ≠ b') (C : Array Value) : RowS (w.setRow b' C) b t k L := (setRow_other w b' b C hb).trans h
theorem RowS.new (w : World) (e : TypeId) (s : ByteArray) : ∃ z, RowS (Lib.bytesWorld w e s) w.heap.size e .u8 (bytes s ++ List.replicate z 0) := by
  refine ⟨grownCap w s.size 0 e - s.size, ?_⟩
  unfold RowS
  have h := Lib.bytesWorld_at_new w e s
  have e1 : Lib.bytesCells w e s = vs .u8 (bytes s ++ List.replicate (grownCap w s.size 0 e - s.size) 0) := by
    unfold Lib.bytesCells vs bytes
    rw [← Array.toList_inj]
    simp [Function.comp_def]
  rw [e1] at h
  simpa [vs_size] using h
theorem below_bytes {B : Nat} {a w : World} (h : Below B a w) (hB : B ≤ w.heap.size) (e : TypeId) (s : ByteArray) : Below B a (Lib.bytesWorld w e s) := by
  refine h.trans ⟨?_, ?_, ?_, by rw [Lib.bytesWorld_size]; omega, fun k hk => Lib.bytesWorld_at_old w e s k (by omega)⟩ <;> rfl
theorem run_text_of_rowS {P : Program} {src e dst : TypeId} (hs : P.underlying src = some (.slice e)) (he : P.underlying e = some (.int .u8)) (hd : P.underlying dst = some .string)
    {w : World} {b t n : Nat} {L : List Nat} (h : RowS w b t .u8 L) (hn : n ≤ L.length) (c : Nat) :
    (convert src dst (.slice (some ⟨b, 0, none⟩) n c)).run P w = .ok (.string (txt (L.take n))) w := by
  have hl : ((L.take n).map fun x : Nat => (x : Int)).length = n := by simp; omega
  have key := run_convert_bytes_arg w src e hs he b 0 n c ((L.take n).map fun x : Nat => (x : Int)) hl (fun j hj => by
    rw [Nat.zero_add, h.cell (by omega)]
    congr 2
    simp only [g, List.getD_eq_getElem?_getD, List.getElem?_map, List.getElem?_take]
    rw [if_pos hj, List.getElem?_eq_getElem (by omega)]
    rfl) dst hd
  rw [key]
  congr 2
  unfold strOfNums txt
  simp [Function.comp_def]

/-- Key and nonce, the bytes, and the block at hand. -/
structure XS (w wr : World) (D K : Nat) (key nonce A : List Nat) (C : List Nat) : Prop where
  rk : Row wr w.heap.size 23 (vs .u8 key)
  rn : Row wr (w.heap.size + 1) 24 (vs .u8 nonce)
  rd : RowS wr D 5 .u8 A
  rb : Row wr K 27 (vs .u8 C)
  farD : w.heap.size + 1 < D
  farK : D < K
  below : Below w.heap.size w wr
theorem XS.kept {w wr w2 : World} {D K : Nat} {key nonce A C : List Nat} (h : XS w wr D K key nonce A C) (hb : Below wr.heap.size wr w2) : XS w w2 D K key nonce A C :=
  ⟨h.rk.below hb h.rk.lt, h.rn.below hb h.rn.lt, h.rd.below hb h.rd.lt, h.rb.below hb h.rb.lt, h.farD, h.farK, h.below.trans (hb.mono h.below.size)⟩
theorem XS.block {w wr : World} {D K : Nat} {key nonce A C : List Nat} (h : XS w wr D K key nonce A C) (C' : List Nat) : XS w (wr.setRow K (vs .u8 C')) D K key nonce A C' := by
  obtain ⟨h1, h2, h3, h4, h5, h6, h7⟩ := h
  exact ⟨h1.rowOther (by omega) _, h2.rowOther (by omega) _, h3.rowOther (by omega) _, h4.row, h5, h6, below_row h7 (by omega) _⟩
theorem XS.set {w wr : World} {D K : Nat} {key nonce A C : List Nat} (h : XS w wr D K key nonce A C) (i v : Nat) : XS w (wr.setCell ⟨D, i, none⟩ (.int .u8 (v : Int))) D K key nonce (A.set i v) C := by
  obtain ⟨h1, h2, h3, h4, h5, h6, h7⟩ := h
  exact ⟨h1.aside (by show _ ≠ D; omega) _, h2.aside (by show _ ≠ D; omega) _, h3.set i v, h4.aside (by show _ ≠ D; omega) _, h5, h6, h7.setCell (by show _ ≤ D; omega) _⟩
theorem XS.drew {w wr : World} {D K : Nat} {key nonce A C : List Nat} (h : XS w wr D K key nonce A C) : XS w wr.drew D K key nonce A C := ⟨h.rk, h.rn, h.rd, h.rb, h.farD, h.farK, h.below.drew⟩

/-- The block at hand ahead of byte i. -/
def AtHand (key nonce : List Nat) (n i : Nat) (C : List Nat) : Prop := 0 < i → C = Cc.block key nonce ((n + (i - 1) / 64) % 4294967296)
theorem AtHand.same {key nonce C : List Nat} {n i : Nat} (h : AtHand key nonce n i C) (hi : i % 64 ≠ 0) : C = Cc.block key nonce ((n + i / 64) % 4294967296) := by
  rw [h (by omega), show (i - 1) / 64 = i / 64 from by omega]
theorem AtHand.next {key nonce C : List Nat} {n i : Nat} (h : C = Cc.block key nonce ((n + i / 64) % 4294967296)) : AtHand key nonce n (i + 1) C := fun _ => h

set_option maxRecDepth 100000 in
set_option maxHeartbeats 4000000 in
theorem xor_any (key nonce : List Nat) (n : Nat) (s : ByteArray) (hk : key.length = 32) (hn : nonce.length = 12) (hkl : ∀ x ∈ key, x < 256) (hnl : ∀ x ∈ nonce, x < 256) (hnn : n < 4294967296)
    (hs : s.size ≤ 9223372036854775807) (w : World) :
    Calls Try.prog 12 #[.agg (vs .u8 key), .agg (vs .u8 nonce), .int .u32 n, .string s] w
      fun e w' => e = .returned (.string (txt (Cc.xorS (Cc.sb key nonce n) (bytes s)))) ∧ Below w.heap.size w w' := by
  have hcv := fun W => Lib.run_convert_string_bytes (P := Try.prog) W 9 36 5 s Try.underlying9 Try.underlying36 Try.underlying5
  have hsz := bytes_len s
  go_enter Try.func12, Try.ntmps12
  go_upto_region 1 with (fail)
  refine wp_abs (fun W0 HW0 => ?_)
  have hk0 : Row W0 w.heap.size 23 (vs .u8 key) := by rw [HW0.out]; exact (Row.new w _ 23).alloc _
  have hn0 : Row W0 (w.heap.size + 1) 24 (vs .u8 nonce) := by rw [HW0.out]; exact Row.new1 w _ _ 24
  have hb0 : Below w.heap.size w W0 := by
    rw [HW0.out]
    have b1 := (Below.refl w.heap.size w).alloc (Nat.le_refl _) (.cells (vs .u8 key) 23)
    exact b1.alloc b1.size _
  clear HW0
  obtain ⟨z, hd0⟩ := RowS.new W0 5 s
  have hb1 := below_bytes hb0 hb0.size 5 s
  have hk1 : Row (Lib.bytesWorld W0 5 s) w.heap.size 23 (vs .u8 key) := (Lib.bytesWorld_at_old W0 5 s _ hk0.lt).trans hk0
  have hn1 : Row (Lib.bytesWorld W0 5 s) (w.heap.size + 1) 24 (vs .u8 nonce) := (Lib.bytesWorld_at_old W0 5 s _ hn0.lt).trans hn0
  have hlt0 := hn0.lt
  go_upto_block 0 with (fail)
  refine wp_abs (fun W1 HW1 => ?_)
  have hX : XS w W1 W0.heap.size (Lib.bytesWorld W0 5 s).heap.size key nonce (bytes s ++ List.replicate z 0) (List.replicate 64 0) := by
    rw [HW1.out]
    have b1 := (Below.refl (Lib.bytesWorld W0 5 s).heap.size (Lib.bytesWorld W0 5 s)).alloc (Nat.le_refl _) (.cells (vs .u8 (List.replicate 64 0)) 27)
    exact ⟨hk1.alloc _, hn1.alloc _, hd0.below b1 hd0.lt, Row.new _ _ 27, hlt0, hd0.lt, hb1.alloc hb1.size _⟩
  clear HW1 hk0 hn0 hb0 hd0 hb1 hk1 hn1 hlt0 hcv
  generalize (Lib.bytesWorld W0 5 s).heap.size = K at hX ⊢
  generalize grownCap W0 s.size 0 5 = cp
  generalize W0.heap.size = D at hX ⊢
  have hA : s.size ≤ (bytes s ++ List.replicate z 0).length := by simp [hsz]
  have hAl : ∀ x ∈ bytes s ++ List.replicate z 0, x < 256 := by
    intro x hx
    rcases List.mem_append.1 hx with h | h
    · exact bytes_lt s x h
    · rw [(List.mem_replicate.1 h).2]; decide
  have hfin := Sec.mk (Cc.xp_take (Cc.sb key nonce n) (bytes s) (List.replicate z 0))
  rw [hsz] at hfin
  generalize bytes s ++ List.replicate z 0 = A at hX hA hAl hfin
  have i23 : (Try.prog.info? 23).map (·.size) = some (vs .u8 key).size := by rw [vs_size, hk]; kernel_rfl
  have i24 : (Try.prog.info? 24).map (·.size) = some (vs .u8 nonce).size := by rw [vs_size, hn]; kernel_rfl
  have hH : AtHand key nonce n 0 (List.replicate 64 0) := fun h => absurd h (by decide)
  go_wp2_with fail
  go_loopw [2, 16] (fun v2 v16 wr => ∃ i : Nat, ∃ C : List Nat, i ≤ s.size ∧ v2 = .int .u32 ((n + (i + 63) / 64) % 4294967296 : Nat) ∧ v16 = .int .i64 i ∧
      XS w wr D K key nonce (Cc.xp (Cc.sb key nonce n) A i) C ∧ AtHand key nonce n i C ∧ C.length = 64) (fun _ v16 _ => s.size - (intOf v16).toNat)
  case atStart => exact ⟨0, _, by omega, by rw [show (n + (0 + 63) / 64) % 4294967296 = n from by omega], rfl, by rw [Cc.xp_zero]; exact hX, hH, by simp⟩
  case round =>
    clear hX hH
    obtain ⟨i, C, hi, rfl, rfl, hX, hH, hC⟩ := hrel
    by_cases hlt : i < s.size
    · have hd : decide ((i : Int) < s.size) = true := decide_eq_true (by omega)
      go_upto_if 21 with (fail)
      go_cut [2] (fun v2 w3 => v2 = .int .u32 ((n + (i + 1 + 63) / 64) % 4294967296 : Nat) ∧ XS w w3 D K key nonce (Cc.xp (Cc.sb key nonce n) A i) (Cc.block key nonce ((n + i / 64) % 4294967296)))
      case first =>
        by_cases hz : i % 64 = 0
        · have hz1 : ((i : Int) % 64 == 0) = true := by rw [beq_iff_eq]; omega
          have hm : (n + (i + 63) / 64) % 4294967296 = (n + i / 64) % 4294967296 := by rw [show (i + 63) / 64 = i / 64 from by omega]
          have hnx := Sec.mk (Cc.next_n (n := n) rfl hz)
          have hml : (n + i / 64) % 4294967296 < 4294967296 := Nat.mod_lt _ (by decide)
          rw [hm]
          have HB := Sec.mk (fun w => block_any key nonce ((n + i / 64) % 4294967296) hk hn hkl hnl hml w)
          have hbl := Cc.block_len key nonce ((n + i / 64) % 4294967296)
          clear hm hz
          generalize (n + i / 64) % 4294967296 = m at *
          go_wp2_with (first
            | (refine wpList_load_row rfl 23 (.tmp 4) rfl w.heap.size rfl 23 (vs .u8 key) (0, 0) _ hX.rk Try.underlying23 rfl i23 ?_)
            | (refine wpList_load_row rfl 24 (.tmp 5) rfl (w.heap.size + 1) rfl 24 (vs .u8 nonce) (0, 0) _ hX.rn Try.underlying24 rfl i24 ?_))
          refine (HB.out _).mono ?_
          rintro e w3 ⟨rfl, hb3⟩
          have hX3 := hX.kept hb3
          go_wp2_with (refine wpList_store_row rfl 27 (.tmp 10) (.tmp 25) rfl K (vs .u8 (Cc.block key nonce m)) rfl rfl 27 _ hX3.rb (by rw [vs_size, hbl]; kernel_rfl) (by rw [vs_size, vs_size, hC, hbl]) (vs_all _ _) ?_)
          go_meet
          exact ⟨by rw [← hnx.out]; go_num, hX3.block _⟩
        · have hz1 : ((i : Int) % 64 == 0) = false := by rw [beq_eq_false_iff_ne]; omega
          have hm := Sec.mk (Cc.same_n (n := n) hz)
          have hC2 := hH.same hz
          clear hz
          go_wp2_with fail
          go_meet
          exact ⟨by rw [hm.out], by rw [← hC2]; exact hX⟩
      case rest =>
        clear hX hH hC
        obtain ⟨rfl, hX⟩ := hcut
        have hi1 : (i : Int) < s.size := by omega
        obtain ⟨j, hj⟩ : ∃ j, j = i % 64 := ⟨_, rfl⟩
        have hi2 : (j : Int) < 64 := by omega
        have et : (i : Int).tmod 64 = (j : Int) := by rw [Int.tmod_eq_emod_of_nonneg (by omega)]; omega
        have cd := hX.rd.cell (i := i) (by rw [Cc.xp_len]; omega)
        have fd := hX.rd.free (i := i) (by rw [Cc.xp_len]; omega)
        have cb := hX.rb.cell (i := i % 64) (by rw [Cc.block_len]; omega)
        rw [Cc.xp_get _ _ _ (by omega)] at cd
        rw [Cc.sb_block rfl, ← hj] at cb
        clear hj
        have hla := Cc.g_lt_of_all (by decide) hAl i
        have hlb := Cc.sb_lt key nonce n i
        have ex := xor_u8 _ _ hla hlb
        have hX' := (hX.set i (g A i ^^^ Cc.sb key nonce n i)).drew
        rw [Cc.xp_set] at hX'
        have hH' : AtHand key nonce n (i + 1) (Cc.block key nonce ((n + i / 64) % 4294967296)) := AtHand.next rfl
        have hbl := Cc.block_len key nonce ((n + i / 64) % 4294967296)
        generalize g A i = x at *
        generalize Cc.sb key nonce n i = y at *
        obtain ⟨m2, hm2⟩ : ∃ m2, m2 = (n + (i + 1 + 63) / 64) % 4294967296 := ⟨_, rfl⟩
        rw [← hm2]
        replace hm2 := Sec.mk hm2
        go_upto_region 9 with (fail)
        refine wp_region_tail 10 (by kernel_rfl) (by kernel_rfl) ?_
        simp only [List.take_succ_cons, List.take_zero, List.drop_succ_cons, List.drop_zero]
        repeat still_step
        refine wpStill_nil ?_
        go_wp2_with fail
        go_roundw
        case rel => exact ⟨i + 1, _, by omega, by rw [hm2.out], by go_num, hX', hH', hbl⟩
        case measure => simp [intOf]; omega
    · rw [show i = s.size from by omega] at hX
      have hcv := run_text_of_rowS Try.underlying36 Try.underlying5 Try.underlying9 hX.rd (n := s.size) (by rw [Cc.xp_len]; omega) cp
      rw [hfin.out] at hcv
      go_wp2_with fail
      go_ret
      exact ⟨rfl, hX.below⟩
end Go.Proofs.Ytgdjapcpgkflbaa
