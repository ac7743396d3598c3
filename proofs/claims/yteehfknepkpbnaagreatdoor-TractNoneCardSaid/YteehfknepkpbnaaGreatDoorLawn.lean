/- TractNone: the law, of what its callees do. -/
import Derived.Test.YteehfknepkpbnaaGreatDoorRead
import Derived.Great.BuildSlice
namespace Go.Proofs.YteehfknepkpbnaaGreatDoor
open Go.RowKit Go.Sort Go.Lib

/-- the variables, and the verbs' own block -/
structure Gv (w : World) : Prop where
  g : Glb w
  v : w.heap[0]? = some (.cells #[.string ⟨#[]⟩, .string ⟨#[115, 101, 116]⟩, .string ⟨#[112, 117, 116]⟩, .string ⟨#[97, 100, 100]⟩, .string ⟨#[100, 114, 111, 112]⟩, .string ⟨#[106, 111, 105, 110]⟩, .string ⟨#[114, 101, 116, 105, 114, 101]⟩] 48 (0, 0))
theorem Gv.below {w w' : World} (g : Gv w) {B : Nat} (hB : 19 ≤ B) (h : Below B w w') : Gv w' := ⟨g.g.below hB h, by rw [h.block 0 (by omega)]; exact g.v⟩

/-- what the run by the executor says of awake and of ReadAll at no text -/
def AwakeOk : Prop := ∀ w, Gv w → Calls Tryz.prog 7 #[] w fun e w' => e = .returned (.bool true) ∧ Below w.heap.size w w'
def AllOk : Prop := ∀ w, Gv w → Calls Tryz.prog 14 #[.string ⟨#[]⟩] w fun e w' => e = .returned (.tuple #[.slice none 0 0, .int .i64 0, .int .i64 0]) ∧ Below w.heap.size w w'

/-- the law at work: the event's block, all below untouched -/
structure LwAt (C : Array Value) (w0 w : World) : Prop where
  ev : EvAt w0.heap.size C w
  g : Gv w
  below : Below w0.heap.size w0 w
theorem LwAt.call {C : Array Value} {w0 w w' : World} (l : LwAt C w0 w) (h : Below w.heap.size w w') : LwAt C w0 w' :=
  ⟨l.ev.below h, l.g.below l.g.g.size h, l.below.trans (h.mono l.below.size)⟩
theorem LwAt.start {w : World} (C : Array Value) (g : Gv w) : LwAt C w (w.alloc (.cells C 26)) :=
  ⟨heap_alloc_new w _, g.below g.g.size ((Below.refl _ _).alloc (Nat.le_refl _) _), (Below.refl _ _).alloc (Nat.le_refl _) _⟩
theorem LwAt.set {C : Array Value} {w0 w : World} (l : LwAt C w0 w) (h0 : 19 ≤ w0.heap.size) (o : Nat) (v : Value) : LwAt (C.setIfInBounds o v) w0 (w.setCell ⟨w0.heap.size, o, none⟩ v) where
  ev := by
    have := l.ev
    unfold EvAt at *
    simp [World.setCell, Array.getElem?_modify, this]
  g := by
    refine l.g.below (B := w0.heap.size) h0 ⟨rfl, rfl, rfl, by simp [World.setCell], fun k hk => Below.heap_setCell _ _ _ _ (by simp; omega)⟩
  below := l.below.trans ⟨rfl, rfl, rfl, by simp [World.setCell], fun k hk => Below.heap_setCell _ _ _ _ (by simp; omega)⟩
theorem LwAt.alloc {C : Array Value} {w0 w : World} (l : LwAt C w0 w) (o : Obj) : LwAt C w0 (w.alloc o) :=
  l.call ((Below.refl _ _).alloc (Nat.le_refl _) _)

theorem LwAt.row {C : Array Value} {w0 w : World} (l : LwAt C w0 w) (h0 : 19 ≤ w0.heap.size) (C' : Array Value) : LwAt C' w0 (w.setRow w0.heap.size C') where
  ev := by
    have := l.ev
    unfold EvAt at *
    simp [World.setRow, Array.getElem?_modify, this]
  g := by
    refine l.g.below (B := w0.heap.size) h0 ⟨rfl, rfl, rfl, by simp [World.setRow], fun k hk => ?_⟩
    simp [World.setRow, Array.getElem?_modify]
    omega
  below := l.below.trans ⟨rfl, rfl, rfl, by simp [World.setRow], fun k hk => by
    simp [World.setRow, Array.getElem?_modify]
    omega⟩

theorem LwAt.drew {C : Array Value} {w0 w : World} (l : LwAt C w0 w) : LwAt C w0 w.drew := l.call ⟨rfl, rfl, rfl, Nat.le_refl _, fun _ _ => rfl⟩

structure LwS (w0 w : World) : Prop where
  lt : w0.heap.size < w.heap.size
  g : Gv w
  below : Below w0.heap.size w0 w
theorem LwS.of {C : Array Value} {w0 w : World} (l : LwAt C w0 w) : LwS w0 w := ⟨l.ev.lt, l.g, l.below⟩
theorem LwS.call {w0 w w' : World} (l : LwS w0 w) (h : Below w.heap.size w w') : LwS w0 w' :=
  ⟨Nat.lt_of_lt_of_le l.lt h.size, l.g.below l.g.g.size h, l.below.trans (h.mono l.below.size)⟩
theorem LwS.drew {w0 w : World} (l : LwS w0 w) : LwS w0 w.drew := l.call ⟨rfl, rfl, rfl, Nat.le_refl _, fun _ _ => rfl⟩

set_option maxHeartbeats 4000000 in
set_option maxRecDepth 100000 in
theorem law_none (A : AwakeOk) (R : AllOk) (W : Int) (S T K : Nat) (key : ByteArray) (tp : Option Addr) (tl tc x : Nat) (N : Int) (how : Nat) (w : World) (g : Gv w)
    (hW0 : -9223372036854775808 ≤ W) (hW1 : W ≤ 9223372036854775807) (hN0 : -9223372036854775808 ≤ N) (hN1 : N ≤ 9223372036854775807)
    (hS : S < 18446744073709551616) (hT : T < 18446744073709551616) (hK : K < 256) (hh : how < 256) :
    Calls Tryz.prog 6 #[.agg #[.int .i64 W, .int .u64 S, .int .u64 T, .int .u8 K, .string key, .slice tp tl tc, .float .f64 x, .int .i64 N], .int .u8 how] w fun e w' => e = .returned (.bool true) ∧ Below w.heap.size w w' := by
  have hsz := g.g.size
  have L0 := Lib.hid (LwAt.start #[.int .i64 W, .int .u64 S, .int .u64 T, .int .u8 K, .string key, .slice tp tl tc, .float .f64 x, .int .i64 N] g)
  clear g
  go_enter Tryz.func6, Tryz.ntmps6
  go_wp2_with fail
  refine (A _ L0.out.g).mono ?_
  rintro e w1 ⟨rfl, b1⟩
  have L1 := Lib.hid (L0.out.call b1)
  clear L0 b1
  have c0 : w1.cell? ⟨w.heap.size, 0, none⟩ = some (.int .i64 W) := L1.out.ev.cell 0
  have c1 : w1.cell? ⟨w.heap.size, 1, none⟩ = some (.int .u64 S) := L1.out.ev.cell 1
  have c2 : w1.cell? ⟨w.heap.size, 2, none⟩ = some (.int .u64 T) := L1.out.ev.cell 2
  have c3 : w1.cell? ⟨w.heap.size, 3, none⟩ = some (.int .u8 K) := L1.out.ev.cell 3
  have c4 : w1.cell? ⟨w.heap.size, 4, none⟩ = some (.string key) := L1.out.ev.cell 4
  have c5 : w1.cell? ⟨w.heap.size, 5, none⟩ = some (.slice tp tl tc) := L1.out.ev.cell 5
  have c6 : w1.cell? ⟨w.heap.size, 6, none⟩ = some (.float .f64 x) := L1.out.ev.cell 6
  have c7 : w1.cell? ⟨w.heap.size, 7, none⟩ = some (.int .i64 N) := L1.out.ev.cell 7
  go_wp2_with fail
  · refine (A _ L1.out.g).mono ?_
    rintro e w2 ⟨rfl, b2⟩
    go_wp2_with fail
    go_ret
    exact ⟨rfl, (L1.out.call b2).below⟩
  rotate_left
  · refine (A _ L1.out.g).mono ?_
    rintro e w2 ⟨rfl, b2⟩
    go_wp2_with fail
    go_ret
    exact ⟨rfl, (L1.out.call b2).below⟩
  clear c0 c1 c2 c3 c4 c5 c6 c7
  refine (near_any W S T K key tp tl tc x N _ hW0 hW1 hN0 hN1 hS hT hK).mono ?_
  rintro e w2 ⟨⟨W2, S2, T2, K2, N2, key2, rfl, hW2, hS2, hT2, hN2⟩, b2⟩
  have L2 := Lib.hid (L1.out.call b2)
  clear L1 b2
  simp only []
  rename_i hK
  refine hK _ _ ?_
  refine wpList_store_rowTo rfl 26 _ _ rfl rfl w.heap.size #[.int .i64 W2, .int .u64 S2, .int .u64 T2, .int .u8 K2, .string key2, .slice tp tl tc, .float .f64 x, .int .i64 N2] rfl rfl 26 _ L2.out.ev (by kernel_rfl) rfl (by simp [Value.oneCell']) ?_
  have L3 := Lib.hid (L2.out.row hsz #[.int .i64 W2, .int .u64 S2, .int .u64 T2, .int .u8 K2, .string key2, .slice tp tl tc, .float .f64 x, .int .i64 N2])
  clear L2
  generalize w2.setRow w.heap.size #[.int .i64 W2, .int .u64 S2, .int .u64 T2, .int .u8 K2, .string key2, .slice tp tl tc, .float .f64 x, .int .i64 N2] = w3 at *
  have c0 : w3.cell? ⟨w.heap.size, 0, none⟩ = some (.int .i64 W2) := L3.out.ev.cell 0
  have c1 : w3.cell? ⟨w.heap.size, 1, none⟩ = some (.int .u64 S2) := L3.out.ev.cell 1
  have c2 : w3.cell? ⟨w.heap.size, 2, none⟩ = some (.int .u64 T2) := L3.out.ev.cell 2
  have c3 : w3.cell? ⟨w.heap.size, 3, none⟩ = some (.int .u8 K2) := L3.out.ev.cell 3
  have c4 : w3.cell? ⟨w.heap.size, 4, none⟩ = some (.string key2) := L3.out.ev.cell 4
  have c5 : w3.cell? ⟨w.heap.size, 5, none⟩ = some (.slice tp tl tc) := L3.out.ev.cell 5
  have c6 : w3.cell? ⟨w.heap.size, 6, none⟩ = some (.float .f64 x) := L3.out.ev.cell 6
  have c7 : w3.cell? ⟨w.heap.size, 7, none⟩ = some (.int .i64 N2) := L3.out.ev.cell 7
  have f3 : w3.frozen? ⟨w.heap.size, 3, none⟩ = false := Lib.frozen_of_heap L3.out.ev 3
  go_wp2_with fail
  clear c0 c1 c2 c3 c4 c5 c6 c7 f3
  have eK : ((7 + how % 200 : Nat) : Int) = 7 + (how : Int) % 200 := by omega
  rw [← eK]
  have L4 := Lib.hid (L3.out.set hsz 3 (.int .u8 ((7 + how % 200 : Nat) : Int)))
  clear L3
  generalize w3.setCell ⟨w.heap.size, 3, none⟩ (.int .u8 ((7 + how % 200 : Nat) : Int)) = w4 at *
  refine (line_none W2 S2 T2 (7 + how % 200) key2 _ _ N2 w4 L4.out.g.g (by omega) (by omega) (by omega) (by omega) (by omega)).mono ?_
  rintro e w5 ⟨rfl, b5⟩
  have L5 := Lib.hid (L4.out.call b5)
  clear L4 b5
  go_wp2_with fail
  refine (read_none W2 S2 T2 w5 L5.out.g.g hW2 (by omega) (by omega)).mono ?_
  rintro e w6 ⟨rfl, b6⟩
  have L6 := Lib.hid (L5.out.call b6)
  clear L5 b6
  simp only [evNone]
  go_wp2_with fail
  have L7 := Lib.hid (L6.out.alloc (.cells #[.int .i64 0, .int .u64 0, .int .u64 0, .int .u8 0, .string ⟨#[]⟩, .slice none 0 0, .float .f64 0, .int .i64 0] 26))
  clear L6
  generalize w6.alloc (.cells #[.int .i64 0, .int .u64 0, .int .u64 0, .int .u8 0, .string ⟨#[]⟩, .slice none 0 0, .float .f64 0, .int .i64 0] 26) = w7 at *
  refine (R _ L7.out.g).mono ?_
  rintro e w8 ⟨rfl, b8⟩
  have L8 := Lib.hid (L7.out.call b8)
  clear L7 b8
  go_wp2_with fail
  have hlS := dec_le S2 (by omega)
  have hlT := dec_le T2 (by omega)
  have hlW := dec_le W2 (by omega)
  have q1 : ¬ 9223372036854775807 < (Lib.decDigits W2).length + 1 := by omega
  have q2 : ¬ 9223372036854775807 < (Lib.decDigits W2).length + 1 + (Lib.decDigits S2).length := by omega
  have q3 : ¬ 9223372036854775807 < (Lib.decDigits W2).length + 1 + (Lib.decDigits S2).length + 1 := by omega
  have q4 : ¬ 9223372036854775807 < (Lib.decDigits W2).length + 1 + (Lib.decDigits S2).length + 1 + (Lib.decDigits T2).length := by omega
  have hwr : IntKind.u64.wrap (W2 : Int) = W2 := by
    unfold IntKind.wrap
    simp [IntKind.bits, IntKind.signed]
    omega
  have hq : (headOf (W2 : Int) S2 T2 == ((⟨(Lib.decDigits W2).toArray⟩ : ByteArray) ++ ⟨#[32]⟩ ++ ⟨(Lib.decDigits S2).toArray⟩ ++ ⟨#[32]⟩ ++ ⟨(Lib.decDigits T2).toArray⟩).toList) = true := by
    rw [ba_append, ba_append, ba_append, ba_append, ba_toList, beq_iff_eq]
    unfold headOf
    rw [Lib.itoa_nonneg]
  have c0 : w8.cell? ⟨w.heap.size, 0, none⟩ = some (.int .i64 W2) := L8.out.ev.cell 0
  have c1 : w8.cell? ⟨w.heap.size, 1, none⟩ = some (.int .u64 S2) := L8.out.ev.cell 1
  have c2 : w8.cell? ⟨w.heap.size, 2, none⟩ = some (.int .u64 T2) := L8.out.ev.cell 2
  have t1 := (LwS.of L8.out).drew
  clear L8
  go_region_held3 (fun w' => w'.cell? ⟨w.heap.size, 0, none⟩ = some (.int .i64 W2) ∧ w'.cell? ⟨w.heap.size, 1, none⟩ = some (.int .u64 S2) ∧ w'.cell? ⟨w.heap.size, 2, none⟩ = some (.int .u64 T2) ∧ LwS w w')
    (first
      | exact ⟨c0, c1, c2, t1⟩
      | (have hh := ‹_ ∧ _ ∧ _ ∧ LwS w _›; exact ⟨cellsBelow hb hh.2.2.2.lt 0 hh.1, cellsBelow hb hh.2.2.2.lt 1 hh.2.1, cellsBelow hb hh.2.2.2.lt 2 hh.2.2.1, hh.2.2.2.call hb⟩)
      | exact ⟨cellsBelow hb t1.lt 0 c0, cellsBelow hb t1.lt 1 c1, cellsBelow hb t1.lt 2 c2, t1.call hb⟩)
    (first
      | (go_at_call 15; (try simp only [hwr]); refine (num_any _ (by omega) _).mono ?_; rintro e w' ⟨rfl, hb⟩)
      | (go_at_call 16; refine (write_nil _).mono ?_; rintro e w' ⟨rfl, hb⟩))
  have hh2 := ‹_ ∧ _ ∧ _ ∧ LwS w _›
  obtain ⟨d0, d1, d2, tn⟩ := hh2
  go_wp2_with fail
  go_ret
  exact ⟨rfl, tn.below⟩
#print axioms law_none
end Go.Proofs.YteehfknepkpbnaaGreatDoor
