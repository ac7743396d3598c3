/- The reader of a line: (*part).word and (*part).num of package tract, at every line shorter than 4294967281 bytes. -/
import Derived.Test.YteehfknepkpbnaaGreatDoorNum
import Derived.Lib.LaidTab
namespace Go.Proofs.YteehfknepkpbnaaGreatDoor
open Go.RowKit Go.Sort Go.Lib

/-- what the package-level variables hold -/
structure Glb (w : World) : Prop where
  size : 19 ≤ w.heap.size
  tab : Lib.TabIs Tryz.prog w "internal/strconv.uint64pow10" .u64 Lib.pow10Tab
  es : ∃ tp p, w.var? Tryz.prog "strconv.ErrSyntax" = some #[.iface tp p]
  er : ∃ tp p, w.var? Tryz.prog "strconv.ErrRange" = some #[.iface tp p]
  ml : ∃ m : Int, w.cell? ⟨3, 0, none⟩ = some (.int .i64 m)
  verbs : w.var? Tryz.prog "anabranch/tract.verbs" = some #[.string ⟨#[]⟩, .string ⟨#[115, 101, 116]⟩, .string ⟨#[112, 117, 116]⟩, .string ⟨#[97, 100, 100]⟩, .string ⟨#[100, 114, 111, 112]⟩, .string ⟨#[106, 111, 105, 110]⟩, .string ⟨#[114, 101, 116, 105, 114, 101]⟩]

theorem gPow : Tryz.prog.globalNamed "internal/strconv.uint64pow10" = some 2 := by kernel_rfl
theorem gEs : Tryz.prog.globalNamed "strconv.ErrSyntax" = some 5 := by kernel_rfl
theorem gEr : Tryz.prog.globalNamed "strconv.ErrRange" = some 6 := by kernel_rfl
theorem gVerbs : Tryz.prog.globalNamed "anabranch/tract.verbs" = some 0 := by kernel_rfl

theorem var_block {w w' : World} {n : String} {g : Nat} {cs : Array Value} (hg : Tryz.prog.globalNamed n = some g) (h : w'.heap[g]? = w.heap[g]?) (hv : w.var? Tryz.prog n = some cs) : w'.var? Tryz.prog n = some cs := by
  unfold World.var? at *
  simp only [hg, Option.bind_some] at *
  rw [h]; exact hv

theorem Glb.keep {w w' : World} (g : Glb w) (hs : w.heap.size ≤ w'.heap.size) (h : ∀ k, k < 19 → w'.heap[k]? = w.heap[k]?) : Glb w' where
  size := Nat.le_trans g.size hs
  tab := var_block gPow (h 2 (by omega)) g.tab
  es := by obtain ⟨tp, p, e⟩ := g.es; exact ⟨tp, p, var_block gEs (h 5 (by omega)) e⟩
  er := by obtain ⟨tp, p, e⟩ := g.er; exact ⟨tp, p, var_block gEr (h 6 (by omega)) e⟩
  ml := by
    obtain ⟨m, e⟩ := g.ml
    refine ⟨m, ?_⟩
    rw [World.cell?_of_block (w := w) (w' := w') (h 3 (by omega))]; exact e
  verbs := var_block gVerbs (h 0 (by omega)) g.verbs

theorem Glb.below {w w' : World} (g : Glb w) {B : Nat} (hB : 19 ≤ B) (h : Below B w w') : Glb w' := g.keep h.size fun k hk => h.block k (by omega)

/-- All but one block stands. -/
structure Beside (b : Nat) (w w' : World) : Prop where
  os : w'.os = w.os
  tape : w'.tape = w.tape
  output : w'.output = w.output
  size : w.heap.size ≤ w'.heap.size
  block : ∀ k, k < w.heap.size → k ≠ b → w'.heap[k]? = w.heap[k]?

theorem Beside.refl (b : Nat) (w : World) : Beside b w w := ⟨rfl, rfl, rfl, Nat.le_refl _, fun _ _ _ => rfl⟩
theorem Beside.trans {b : Nat} {w w1 w2 : World} (h : Beside b w w1) (k : Beside b w1 w2) : Beside b w w2 :=
  ⟨k.os.trans h.os, k.tape.trans h.tape, k.output.trans h.output, Nat.le_trans h.size k.size, fun i hi hne => (k.block i (Nat.lt_of_lt_of_le hi h.size) hne).trans (h.block i hi hne)⟩
theorem Beside.of_below {b : Nat} {w w' : World} (h : Below w.heap.size w w') : Beside b w w' := ⟨h.os, h.tape, h.output, h.size, fun k hk _ => h.block k hk⟩
theorem Beside.of_set (b o : Nat) (w : World) (v : Value) : Beside b w (w.setCell ⟨b, o, none⟩ v) :=
  ⟨rfl, rfl, rfl, by simp [World.setCell], fun k _ hne => Below.heap_setCell _ _ _ _ hne⟩
theorem Beside.below {b : Nat} {w w' : World} (h : Beside b w w') {B : Nat} (hB : B ≤ b) (hs : B ≤ w.heap.size) : Below B w w' :=
  ⟨h.os, h.tape, h.output, h.size, fun k hk => h.block k (by omega) (by omega)⟩
theorem Glb.beside {w w' : World} (g : Glb w) {b : Nat} (hb : 19 ≤ b) (h : Beside b w w') : Glb w' := g.keep h.size fun k hk => h.block k (by have := g.size; omega) (by omega)

/-- the reader's block -/
def PartAt (b : Nat) (s : ByteArray) (bad : Bool) (w : World) : Prop := w.heap[b]? = some (.cells #[.string s, .bool bad] 53 (0, 0))

theorem PartAt.lt {b : Nat} {s : ByteArray} {bad : Bool} {w : World} (h : PartAt b s bad w) : b < w.heap.size := by
  rcases Nat.lt_or_ge b w.heap.size with h' | h'
  · exact h'
  · unfold PartAt at h; rw [Array.getElem?_eq_none h'] at h; cases h
theorem PartAt.c0 {b : Nat} {s : ByteArray} {bad : Bool} {w : World} (h : PartAt b s bad w) : w.cell? ⟨b, 0, none⟩ = some (.string s) := by unfold PartAt at h; simp [World.cell?, h]
theorem PartAt.c1 {b : Nat} {s : ByteArray} {bad : Bool} {w : World} (h : PartAt b s bad w) : w.cell? ⟨b, 1, none⟩ = some (.bool bad) := by unfold PartAt at h; simp [World.cell?, h]
theorem PartAt.f {b : Nat} {s : ByteArray} {bad : Bool} {w : World} (h : PartAt b s bad w) (o : Nat) : w.frozen? ⟨b, o, none⟩ = false := Lib.frozen_of_heap h o
theorem PartAt.set0 {b : Nat} {s t : ByteArray} {bad : Bool} {w : World} (h : PartAt b s bad w) : PartAt b t bad (w.setCell ⟨b, 0, none⟩ (.string t)) := by
  unfold PartAt at *
  simp [World.setCell, Array.getElem?_modify, h]
theorem PartAt.set1 {b : Nat} {s : ByteArray} {bad c : Bool} {w : World} (h : PartAt b s bad w) : PartAt b s c (w.setCell ⟨b, 1, none⟩ (.bool c)) := by
  unfold PartAt at *
  simp [World.setCell, Array.getElem?_modify, h]
theorem PartAt.below {b : Nat} {s : ByteArray} {bad : Bool} {w w' : World} (h : PartAt b s bad w) (k : Below w.heap.size w w') : PartAt b s bad w' := by
  have := k.block b h.lt
  unfold PartAt at *
  rw [this]; exact h
theorem PartAt.drewN {b : Nat} {s : ByteArray} {bad : Bool} {w : World} (h : PartAt b s bad w) (n : Nat) : PartAt b s bad (w.drewN n) := h.below ⟨rfl, rfl, rfl, Nat.le_refl _, fun _ _ => rfl⟩

/-- the next word, and what stands behind it -/
def wordOf (s : ByteArray) : ByteArray := ⟨(Lib.cut s.data.toList [32]).1.toArray⟩
def restOf (s : ByteArray) : ByteArray := ⟨(Lib.cut s.data.toList [32]).2.1.toArray⟩

set_option maxHeartbeats 1000000 in
set_option maxRecDepth 100000 in
theorem word_any (b : Nat) (s : ByteArray) (bad : Bool) (w : World) (hp : PartAt b s bad w) (hs : s.size < 4294967281) (g : Glb w) :
    Calls Tryz.prog 23 #[.pointer (some ⟨b, 0, none⟩)] w fun e w' => e = .returned (.string (wordOf s)) ∧ PartAt b (restOf s) bad w' ∧ Beside b w w' := by
  obtain ⟨m, hm⟩ := g.ml
  have c0 := hp.c0
  have hf : ∀ n, (w.drewN n).frozen? ⟨b, 0, none⟩ = false := fun n => (hp.drewN n).f 0
  have hf0 := hp.f 0
  have HP := Lib.hid hp
  clear hp
  go_enter Tryz.func23, Tryz.ntmps23
  go_wp2_with (go_at_call 29; refine (Tryz.strings_Cut s ⟨#[32]⟩ m _ hs hm).mono ?_; rintro e w' ⟨rfl, n, rfl⟩)
  go_ret
  refine ⟨rfl, ?_, ?_⟩
  · exact (HP.out.drewN n).set0
  · exact (Beside.of_below (b := b) (w := w) (w' := w.drewN n) ⟨rfl, rfl, rfl, Nat.le_refl _, fun _ _ => rfl⟩).trans (Beside.of_set b 0 _ _)
#print axioms word_any
end Go.Proofs.YteehfknepkpbnaaGreatDoor
