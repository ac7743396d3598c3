/- Line of package tract: the three numbers. -/
import Derived.Test.YteehfknepkpbnaaGreatDoorPnum
import Derived.Deep.RegionHeld3
import Derived.Deep.DeepCutAuto
import Derived.Deep.DeepMust
namespace Go.Proofs.YteehfknepkpbnaaGreatDoor
open Go.RowKit Go.Sort Go.Lib

theorem itoa_any (n : Int) (h0 : -9223372036854775808 ≤ n) (h1 : n ≤ 9223372036854775807) (w : World) (g : Glb w) :
    Calls Tryz.prog 17 #[.int .i64 n] w fun e w' => e = .returned (.string ⟨(Lib.itoa n).toArray⟩) ∧ Below w.heap.size w w' :=
  (Tryz.strconv_Itoa n h0 h1 w g.tab).mono fun e w' ⟨he, k, os, hw⟩ => ⟨he, by rw [hw]; exact below_grow _ _ (Nat.le_refl _) _ _⟩

/-- the event's block -/
def EvAt (b : Nat) (C : Array Value) (w : World) : Prop := w.heap[b]? = some (.cells C 26 (0, 0))
theorem EvAt.lt {b : Nat} {C : Array Value} {w : World} (h : EvAt b C w) : b < w.heap.size := by
  rcases Nat.lt_or_ge b w.heap.size with h' | h'
  · exact h'
  · unfold EvAt at h; rw [Array.getElem?_eq_none h'] at h; cases h
theorem EvAt.below {b : Nat} {C : Array Value} {w w' : World} (h : EvAt b C w) (k : Below w.heap.size w w') : EvAt b C w' := by
  have := k.block b h.lt
  unfold EvAt at *
  rw [this]; exact h
theorem EvAt.cell {b : Nat} {C : Array Value} {w : World} (h : EvAt b C w) (o : Nat) : w.cell? ⟨b, o, none⟩ = C[o]? := by unfold EvAt at h; simp [World.cell?, h]

/-- what is told of an event of no kind -/
def headOf (W : Int) (S T : Nat) : List UInt8 := Lib.itoa W ++ [32] ++ Lib.decDigits S ++ [32] ++ Lib.decDigits T

/-- what stands through a call: the variables; the event's block is there; nothing below has turned -/
structure Thru (w w' : World) : Prop where
  g : Glb w'
  lt : w.heap.size < w'.heap.size
  below : Below w.heap.size w w'
theorem Thru.drew {w w' : World} (t : Thru w w') : Thru w w'.drew := ⟨t.g.keep (Nat.le_refl _) fun _ _ => rfl, t.lt, t.below.drew⟩
theorem Thru.next {w w1 w2 : World} (t : Thru w w1) (h : Below w1.heap.size w1 w2) : Thru w w2 := ⟨t.g.below t.g.size h, Nat.lt_of_lt_of_le t.lt h.size, t.below.trans (h.mono (Nat.le_of_lt t.lt))⟩
theorem Thru.start {w : World} (g : Glb w) (o : Obj) : Thru w (w.alloc o) :=
  ⟨g.below g.size ((Below.refl _ _).alloc (Nat.le_refl _) _), by simp, (Below.refl _ _).alloc (Nat.le_refl _) _⟩
theorem Thru.cell {w w1 w2 : World} (t : Thru w w1) (h : Below w1.heap.size w1 w2) {o : Nat} {v : Value} (e : w1.cell? ⟨w.heap.size, o, none⟩ = some v) : w2.cell? ⟨w.heap.size, o, none⟩ = some v := by
  rw [h.cell (p := ⟨w.heap.size, o, none⟩) t.lt]; exact e

theorem cellsBelow {w w' : World} {b : Nat} (h : Below w.heap.size w w') (hb : b < w.heap.size) (o : Nat) {v : Value} (e : w.cell? ⟨b, o, none⟩ = some v) : w'.cell? ⟨b, o, none⟩ = some v := by
  rw [h.cell (p := ⟨b, o, none⟩) hb]; exact e

set_option maxHeartbeats 4000000 in
set_option maxRecDepth 100000 in
theorem line_none (W : Int) (S T : Nat) (K : Nat) (key : ByteArray) (text num : Value) (N : Int) (w : World) (g : Glb w) (hW0 : 0 ≤ W) (hWm : W ≤ 9223372036854775807) (hS : S < 18446744073709551616) (hT : T < 18446744073709551616) (hK : 6 < K) :
    Calls Tryz.prog 9 #[.agg #[.int .i64 W, .int .u64 S, .int .u64 T, .int .u8 K, .string key, text, num, .int .i64 N]] w fun e w' => e = .returned (.string ⟨(headOf W S T).toArray⟩) ∧ Below w.heap.size w w' := by
  have hlS := dec_le S hS
  have hlT := dec_le T hT
  have hlW : (Lib.itoa W).length ≤ 20 := by
    obtain ⟨u, rfl⟩ : ∃ u : Nat, W = u := ⟨W.toNat, by omega⟩
    rw [Lib.itoa_nonneg]
    exact dec_le u (by omega)
  have hk1 : decide ((K : Int) < 1) = false := by simp; omega
  have hk2 : decide ((6 : Int) < (K : Int)) = true := by simp; omega
  have q1 : ¬ 9223372036854775807 < (Lib.itoa W).length + 1 := by omega
  have q2 : ¬ 9223372036854775807 < (Lib.itoa W).length + 1 + (Lib.decDigits S).length := by omega
  have q3 : ¬ 9223372036854775807 < (Lib.itoa W).length + 1 + (Lib.decDigits S).length + 1 := by omega
  have q4 : ¬ 9223372036854775807 < (Lib.itoa W).length + 1 + (Lib.decDigits S).length + 1 + (Lib.decDigits T).length := by omega
  have t0 := Thru.start g (.cells #[.int .i64 W, .int .u64 S, .int .u64 T, .int .u8 K, .string key, text, num, .int .i64 N] 26)
  have T0 := Lib.hid t0
  clear t0
  go_enter Tryz.func9, Tryz.ntmps9
  go_wp2_with fail
  go_name_world W1 hW1
  have c0 : W1.cell? ⟨w.heap.size, 0, none⟩ = some (.int .i64 W) := by rw [← hW1, World.cell?_alloc_new]; rfl
  have c1 : W1.cell? ⟨w.heap.size, 1, none⟩ = some (.int .u64 S) := by rw [← hW1, World.cell?_alloc_new]; rfl
  have c2 : W1.cell? ⟨w.heap.size, 2, none⟩ = some (.int .u64 T) := by rw [← hW1, World.cell?_alloc_new]; rfl
  have c3 : W1.cell? ⟨w.heap.size, 3, none⟩ = some (.int .u8 K) := by rw [← hW1, World.cell?_alloc_new]; rfl
  have t1 : Thru w W1.drew := by rw [← hW1]; exact T0.out.drew
  clear hW1
  go_region_held3 (fun w' => w'.cell? ⟨w.heap.size, 0, none⟩ = some (.int .i64 W) ∧ w'.cell? ⟨w.heap.size, 1, none⟩ = some (.int .u64 S) ∧ w'.cell? ⟨w.heap.size, 2, none⟩ = some (.int .u64 T) ∧ w'.cell? ⟨w.heap.size, 3, none⟩ = some (.int .u8 K) ∧ Thru w w')
    (first
      | exact ⟨c0, c1, c2, c3, t1⟩
      | (have hh := ‹_ ∧ _ ∧ _ ∧ _ ∧ Thru w _›; exact ⟨hh.2.2.2.2.cell hb hh.1, hh.2.2.2.2.cell hb hh.2.1, hh.2.2.2.2.cell hb hh.2.2.1, hh.2.2.2.2.cell hb hh.2.2.2.1, hh.2.2.2.2.next hb⟩)
      | exact ⟨t1.cell hb c0, t1.cell hb c1, t1.cell hb c2, t1.cell hb c3, t1.next hb⟩)
    (first
      | (go_at_call 17; refine (itoa_any W (by omega) hWm _ t1.g).mono ?_; rintro e w' ⟨rfl, hb⟩)
      | (go_at_call 18; refine (formatUint _ (by assumption) _ (by (have hh := ‹_ ∧ _ ∧ _ ∧ _ ∧ Thru w _›; exact hh.2.2.2.2.g.tab))).mono ?_; rintro e w' ⟨rfl, hb⟩))
  have hh := ‹_ ∧ _ ∧ _ ∧ _ ∧ Thru w _›
  obtain ⟨d0, d1, d2, d3, tn⟩ := hh
  go_wp2_with fail
  go_ret
  exact ⟨by rw [ba_append, ba_append, ba_append, ba_append]; rfl, tn.below⟩
#print axioms line_none
end Go.Proofs.YteehfknepkpbnaaGreatDoor
