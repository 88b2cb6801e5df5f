/- Rows of numbers in memory: how they are read, written, and kept. Of any program. -/
import Derived.Test.YtokcmaehojljdaaDoorDec
import Derived.WalkKit
import Derived.Laws.Tables
import Derived.Deep.Draws
import Derived.StillTailTactics
import Derived.Laws.BytesArg
namespace Go.Proofs.YtokcmaehojljdaaDoor
open Go.RowKit
def Cc.g (L : List Nat) (i : Nat) : Nat := L.getD i 0
open Cc (g)

/-- A fact that neither the walk's simp nor 'contradiction' looks into. -/
structure Sec (p : Prop) : Prop where mk :: (out : p)

def vs (k : IntKind) (L : List Nat) : Array Value := (L.map fun (x : Nat) => Value.int k (x : Int)).toArray
/-- Block b is a row of these cells, none frozen. -/
def Row (w : World) (b t : Nat) (A : Array Value) : Prop := w.heap[b]? = some (.cells A t (0, 0))

theorem vs_size (k : IntKind) (L : List Nat) : (vs k L).size = L.length := by simp [vs]
theorem vs_get {k : IntKind} {L : List Nat} {i : Nat} (h : i < L.length) : (vs k L)[i]? = some (.int k (g L i : Nat)) := by
  simp [vs, g, List.getElem?_eq_getElem h]
theorem vs_set (k : IntKind) (L : List Nat) (i v : Nat) : (vs k L).setIfInBounds i (.int k (v : Int)) = vs k (L.set i v) := by
  simp [vs, List.map_set]
theorem vs_one (k : IntKind) (L : List Nat) : ∀ v ∈ (vs k L).toList, v.oneCell' = true := by
  intro v hv
  simp only [vs, List.mem_map] at hv
  obtain ⟨x, _, rfl⟩ := hv
  rfl

theorem Row.lt {w : World} {b t : Nat} {A : Array Value} (h : Row w b t A) : b < w.heap.size := (Array.getElem?_eq_some_iff.1 h).1
theorem Row.get {w : World} {b t i : Nat} {A : Array Value} (h : Row w b t A) : w.cell? ⟨b, i, none⟩ = A[i]? := cell_of_row w b i A t _ h
theorem Row.cell {w : World} {b t i : Nat} {k : IntKind} {L : List Nat} (h : Row w b t (vs k L)) (hi : i < L.length) : w.cell? ⟨b, i, none⟩ = some (.int k (g L i : Nat)) := h.get.trans (vs_get hi)
theorem Row.free {w : World} {b t : Nat} {A : Array Value} (h : Row w b t A) (i : Nat) : w.frozen? ⟨b, i, none⟩ = false := frozen_of_row w b i A t h
theorem Row.put {w : World} {b t : Nat} {A : Array Value} (h : Row w b t A) (i : Nat) (v : Value) : Row (w.setCell ⟨b, i, none⟩ v) b t (A.setIfInBounds i v) := heap_setCell_same w b i A t v h
theorem Row.set {w : World} {b t : Nat} {k : IntKind} {L : List Nat} (h : Row w b t (vs k L)) (i v : Nat) : Row (w.setCell ⟨b, i, none⟩ (.int k (v : Int))) b t (vs k (L.set i v)) := by
  have := h.put i (.int k (v : Int))
  rwa [vs_set] at this
theorem Row.aside {w : World} {b t : Nat} {A : Array Value} (h : Row w b t A) {a : Addr} (ha : b ≠ a.block) (v : Value) : Row (w.setCell a v) b t A := (heap_setCell_other w a b v ha).trans h
theorem Row.alloc {w : World} {b t : Nat} {A : Array Value} (h : Row w b t A) (o : Obj) : Row (w.alloc o) b t A := (heap_alloc_old w o h.lt).trans h
theorem Row.drewN {w : World} {b t : Nat} {A : Array Value} (h : Row w b t A) (n : Nat) : Row (w.drewN n) b t A := h
theorem Row.drew {w : World} {b t : Nat} {A : Array Value} (h : Row w b t A) : Row w.drew b t A := h
theorem Row.new (w : World) (A : Array Value) (t : Nat) : Row (w.alloc (.cells A t)) w.heap.size t A := heap_alloc_new w _
theorem Row.grown {w w' : World} {b t : Nat} {A : Array Value} {r : Option Nat} (h : Row w b t A) (hg : w.grownBy w' r) (hr : some b ≠ r) : Row w' b t A := (hg.block b h.lt hr).trans h
theorem Row.below {w w' : World} {b t B : Nat} {A : Array Value} (h : Row w b t A) (hb : Below B w w') (hB : b < B) : Row w' b t A := (hb.block b hB).trans h
theorem Row.row {w : World} {b t : Nat} {A C : Array Value} (h : Row w b t A) : Row (w.setRow b C) b t C := setRow_heap w b A C t _ h
theorem Row.rowOther {w : World} {b b' t : Nat} {A : Array Value} (h : Row w b t A) (hb : b ≠ b') (C : Array Value) : Row (w.setRow b' C) b t A := (setRow_other w b' b C hb).trans h

theorem grown_refl (w : World) (r : Option Nat) : w.grownBy w r := ⟨rfl, rfl, rfl, Nat.le_refl _, fun _ _ _ => rfl⟩
theorem grown_trans {a b c : World} {r : Option Nat} (h : a.grownBy b r) (k : b.grownBy c r) : a.grownBy c r :=
  ⟨k.os.trans h.os, k.tape.trans h.tape, k.output.trans h.output, Nat.le_trans h.size k.size, fun i hi hr => (k.block i (Nat.lt_of_lt_of_le hi h.size) hr).trans (h.block i hi hr)⟩
theorem grown_alloc {a b : World} {r : Option Nat} (h : a.grownBy b r) (o : Obj) : a.grownBy (b.alloc o) r := grown_trans h (World.grownBy_alloc _ _ _)
theorem grown_set {a b : World} {r : Nat} (h : a.grownBy b (some r)) (i : Nat) (v : Value) : a.grownBy (b.setCell ⟨r, i, none⟩ v) (some r) :=
  ⟨h.os, h.tape, h.output, by simpa [World.setCell] using h.size, fun k hk hr => (heap_setCell_other b ⟨r, i, none⟩ k v (fun e => hr (by rw [e]))).trans (h.block k hk hr)⟩
theorem grown_drew {a b : World} {r : Option Nat} (h : a.grownBy b r) : a.grownBy b.drew r := ⟨h.os, h.tape, h.output, h.size, h.block⟩
theorem grown_drewN {a b : World} {r : Option Nat} (h : a.grownBy b r) (n : Nat) : a.grownBy (b.drewN n) r := ⟨h.os, h.tape, h.output, h.size, h.block⟩
theorem below_drewN' {B : Nat} {a b : World} (h : Below B a b) (n : Nat) : Below B a (b.drewN n) := ⟨h.os, h.tape, h.output, h.size, h.block⟩
theorem below_row {B b : Nat} {a w : World} (h : Below B a w) (hb : B ≤ b) (A : Array Value) : Below B a (w.setRow b A) :=
  ⟨h.os, h.tape, h.output, by simpa using h.size, fun k hk => (setRow_other w b k A (by omega)).trans (h.block k hk)⟩

/-- A byte of a text. -/
theorem run_index_text {P : Program} {t : TypeId} (ht : P.underlying t = some .string) (s : ByteArray) (L : List Nat) (hs : s.data.toList.map UInt8.toNat = L) (i : Int) (j : Nat) (hj : j < L.length) (hij : i = j) (w : World) :
    (Instr.index t (.string s) (.int .i64 i)).run P w = .ok (.int .u8 (g L j : Nat)) w := by
  subst hij
  have hl : j < s.size := by rw [← hs] at hj; simpa using hj
  have h1 : s[j]? = some (s[j]'hl) := by simp [hl]
  have h2 : g L j = (s[j]'hl).toNat := by
    subst hs
    unfold g
    have : j < s.data.toList.length := by simpa using hl
    simp only [List.getD_eq_getElem?_getD, List.getElem?_map, List.getElem?_eq_getElem this]
    rfl
  unfold Instr.index
  simp [asIntOf, run_underlying ht, h1, h2]

/-- The world under a name of its own. -/
theorem wp_abs {P : Program} {c : Code} {Q : Exit → Act → World → Prop} {a : Act} {w0 : World} (h : ∀ W, Sec (W = w0) → c.wp P Q a W) : c.wp P Q a w0 := h w0 ⟨rfl⟩
/-- A region that draws its order: n operations that leave the world alone, then the rest one by one. -/
theorem wp_region_tail {P : Program} {id : Nat} {Q : Exit → Act → World → Prop} {a : Act} {w : World} {l : List Oper} (n : Nat) (hm : P.follows .mixedOrders = true) (hB : Region.lexTailB .any l.toArray n = true)
    (h : wpStill P l.toArray w.drew (fun a' => wpList P l.toArray Q (l.drop n) a' w.drew) (l.take n) a) : (Code.region id l.toArray true).wp P Q a w := wp_region_still_tail n hm hB h
theorem wpList_abs {P : Program} {ops : Array Oper} {l : List Oper} {Q : Exit → Act → World → Prop} {a : Act} {w0 : World} (h : ∀ W, Sec (W = w0) → wpList P ops Q l a W) : wpList P ops Q l a w0 := h w0 ⟨rfl⟩
theorem size_alloc (w : World) (o : Obj) : (w.alloc o).heap.size = w.heap.size + 1 := by show (w.heap.push o).size = _; simp
theorem size_setCell (w : World) (a : Addr) (v : Value) : (w.setCell a v).heap.size = w.heap.size := by simp [World.setCell]
theorem calls_flip {P : Program} {f : FuncId} {args : Array Value} {w : World} {v : Ending} (h : Calls P f args w fun e w' => e = v ∧ w = w') : Calls P f args w fun e w' => e = v ∧ w' = w :=
  h.mono fun _ _ ⟨h1, h2⟩ => ⟨h1, h2.symm⟩
theorem Row.new1 (w : World) (o : Obj) (A : Array Value) (t : Nat) : Row ((w.alloc o).alloc (.cells A t)) (w.heap.size + 1) t A := heap_alloc2_new w o _
theorem vs_all (k : IntKind) (L : List Nat) : (vs k L).all (·.oneCell') = true := by
  simp only [vs, List.all_toArray, List.all_eq_true, List.mem_map]
  rintro v ⟨x, _, rfl⟩
  rfl

/-- 'a[l:]' of an array of n one-cell elements. -/
theorem run_sliceAt_low {P : Program} {t e : TypeId} {n : Nat} (ht : P.underlying t = some (.array n e)) (he : (P.info? e).map (·.size) = some 1) (b l : Nat) (x : Int) (hx : x = l) (hl : l < n) (w : World) :
    (Instr.sliceAt t (.pointer (some ⟨b, 0, none⟩)) (some (.int .i64 x)) none none).run P w = .ok (.slice (some ⟨b, l, none⟩) (n - l) (n - l)) w := by
  subst hx
  have hu : P.underlying t = some (.array (P.arrayLen t) (P.elem t)) := by simp [Program.arrayLen, Program.elem, ht]
  have h1 : P.arrayLen t = n := by simp [Program.arrayLen, ht]
  have h2 : P.elem t = e := by simp [Program.elem, ht]
  cases hq : P.info? e with
  | none => simp [hq] at he
  | some i =>
    have hs : i.size = 1 := by simpa [hq] using he
    rw [run_sliceAt_array_l w t ⟨b, 0, none⟩ hu .i64 l (by omega) (by rw [h1]; omega), h1, h2]
    simp [sizeOf, typeInfo, hq, hs, slicedAt, show ¬ n = l by omega, Addr.add_lit]

/-! ### Texts as lists of numbers -/
def bytes (s : ByteArray) : List Nat := s.data.toList.map UInt8.toNat
def txt (L : List Nat) : ByteArray := ⟨(L.map UInt8.ofNat).toArray⟩
theorem bytes_txt {L : List Nat} (h : ∀ x ∈ L, x < 256) : bytes (txt L) = L := by
  unfold bytes txt
  simp only [List.map_map]
  have : ∀ x ∈ L, (UInt8.toNat ∘ UInt8.ofNat) x = id x := fun x hx => by
    have := h x hx
    simp
    omega
  rw [List.map_congr_left this, List.map_id]
theorem txt_bytes (s : ByteArray) : txt (bytes s) = s := by
  unfold bytes txt
  have : (UInt8.ofNat ∘ UInt8.toNat) = id := funext fun x => by simp
  rw [List.map_map, this, List.map_id]
theorem bytes_lt (s : ByteArray) : ∀ x ∈ bytes s, x < 256 := by
  intro x hx
  simp only [bytes, List.mem_map] at hx
  obtain ⟨y, _, rfl⟩ := hx
  exact y.toNat_lt
theorem bytes_len (s : ByteArray) : (bytes s).length = s.size := by simp [bytes]
theorem txt_size (L : List Nat) : (txt L).size = L.length := by simp [txt, ByteArray.size]
/-- A part of a row of bytes as a text. -/
theorem run_text_of_row {P : Program} {src e dst : TypeId} (hs : P.underlying src = some (.slice e)) (he : P.underlying e = some (.int .u8)) (hd : P.underlying dst = some .string)
    {w : World} {b t o n : Nat} {L : List Nat} (h : Row w b t (vs .u8 L)) (hn : o + n ≤ L.length) (c : Nat) :
    (convert src dst (.slice (some ⟨b, o, none⟩) n c)).run P w = .ok (.string (txt ((L.drop o).take n))) w := by
  have hl : (((L.drop o).take n).map fun x : Nat => (x : Int)).length = n := by simp; omega
  have key := run_convert_bytes_arg w src e hs he b o n c (((L.drop o).take n).map fun x : Nat => (x : Int)) hl (fun j hj => by
    rw [h.cell (by omega)]
    congr 2
    simp only [g, List.getD_eq_getElem?_getD, List.getElem?_map, List.getElem?_take, List.getElem?_drop]
    rw [if_pos hj, List.getElem?_eq_getElem (by omega)]
    rfl) dst hd
  rw [key]
  congr 2
  unfold strOfNums txt
  simp [Function.comp_def]
end Go.Proofs.YtokcmaehojljdaaDoor
