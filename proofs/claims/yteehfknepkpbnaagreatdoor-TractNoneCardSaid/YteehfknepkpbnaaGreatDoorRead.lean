/- Read of package tract at the three numbers alone. -/
import Derived.Test.YteehfknepkpbnaaGreatDoorPlain
namespace Go.Proofs.YteehfknepkpbnaaGreatDoor
open Go.RowKit Go.Sort Go.Lib

theorem num_ahead (b n : Nat) (r : List UInt8) (w : World) (hn : n < 18446744073709551616) (hp : PartAt b ⟨(Lib.decDigits n ++ 32 :: r).toArray⟩ false w) (hs : (Lib.decDigits n ++ 32 :: r).length < 4294967281) (hb : 19 ≤ b) (g : Glb w) :
    Calls Tryz.prog 22 #[.pointer (some ⟨b, 0, none⟩)] w fun e w' => e = .returned (.int .u64 n) ∧ PartAt b ⟨r.toArray⟩ false w' ∧ Beside b w w' :=
  (pnum_any b _ false w hp (by show (Lib.decDigits n ++ 32 :: r).toArray.size < _; rw [List.size_toArray]; exact hs) hb g).mono fun e w' ⟨h1, h2, h3⟩ => by
    rw [(word_ahead n r).1, (num_dec n hn).1] at h1
    rw [(word_ahead n r).1, (word_ahead n r).2, (num_dec n hn).2] at h2
    exact ⟨h1, h2, h3⟩
theorem num_last (b n : Nat) (w : World) (hn : n < 18446744073709551616) (hp : PartAt b ⟨(Lib.decDigits n).toArray⟩ false w) (hb : 19 ≤ b) (g : Glb w) :
    Calls Tryz.prog 22 #[.pointer (some ⟨b, 0, none⟩)] w fun e w' => e = .returned (.int .u64 n) ∧ PartAt b ⟨#[]⟩ false w' ∧ Beside b w w' :=
  (pnum_any b _ false w hp (by show (Lib.decDigits n).toArray.size < _; rw [List.size_toArray]; have := dec_le n hn; omega) hb g).mono fun e w' ⟨h1, h2, h3⟩ => by
    rw [(word_last n).1, (num_dec n hn).1] at h1
    rw [(word_last n).1, (word_last n).2, (num_dec n hn).2] at h2
    exact ⟨h1, h2, h3⟩
theorem word_none (b : Nat) (w : World) (hp : PartAt b ⟨#[]⟩ false w) (g : Glb w) :
    Calls Tryz.prog 23 #[.pointer (some ⟨b, 0, none⟩)] w fun e w' => e = .returned (.string ⟨#[]⟩) ∧ PartAt b ⟨#[]⟩ false w' ∧ Beside b w w' :=
  (word_any b _ false w hp (by decide) g).mono fun e w' ⟨h1, h2, h3⟩ => by
    rw [word_nil.1] at h1
    rw [word_nil.2] at h2
    exact ⟨h1, h2, h3⟩

/-- the event of none -/
def evNone : Array Value := #[.int .i64 0, .int .u64 0, .int .u64 0, .int .u8 0, .string ⟨#[]⟩, .slice none 0 0, .float .f64 0, .int .i64 0]

/-- the reader at work: its part, the block of its first result, the variables, all below untouched -/
structure RdAt (s : ByteArray) (w0 w : World) : Prop where
  part : PartAt (w0.heap.size + 1) s false w
  res : EvAt w0.heap.size evNone w
  g : Glb w
  below : Below w0.heap.size w0 w
theorem RdAt.call {s t : ByteArray} {w0 w w' : World} (r : RdAt s w0 w) (h0 : 19 ≤ w0.heap.size) (hp : PartAt (w0.heap.size + 1) t false w') (hb : Beside (w0.heap.size + 1) w w') : RdAt t w0 w' where
  part := hp
  res := by
    have := hb.block w0.heap.size r.res.lt (by omega)
    unfold EvAt
    rw [this]; exact r.res
  g := r.g.beside (by omega) hb
  below := r.below.trans (hb.below (by omega) r.below.size)
theorem RdAt.alloc {s : ByteArray} {w0 w : World} (r : RdAt s w0 w) (o : Obj) : RdAt s w0 (w.alloc o) where
  part := r.part.below ((Below.refl _ _).alloc (Nat.le_refl _) _)
  res := r.res.below ((Below.refl _ _).alloc (Nat.le_refl _) _)
  g := r.g.below r.g.size ((Below.refl _ _).alloc (Nat.le_refl _) _)
  below := r.below.alloc r.below.size _
theorem RdAt.start {s : ByteArray} {w : World} (g : Glb w) : RdAt s w ((w.alloc (.cells evNone 26)).alloc (.cells #[.string s, .bool false] 53)) where
  part := by unfold PartAt; exact heap_alloc2_new w _ _
  res := by unfold EvAt; exact heap_alloc2_old w _ _
  g := (g.below g.size ((Below.refl _ _).alloc (Nat.le_refl _) _)).below (g.below g.size ((Below.refl _ _).alloc (Nat.le_refl _) _)).size ((Below.refl _ _).alloc (Nat.le_refl _) _)
  below := ((Below.refl _ _).alloc (Nat.le_refl _) _).alloc (by simp) _
theorem EvAt.beside {b k : Nat} {C : Array Value} {w w' : World} (h : EvAt k C w) (hb : Beside b w w') (hne : k ≠ b) : EvAt k C w' := by
  have := hb.block k h.lt hne
  unfold EvAt at *
  rw [this]; exact h

theorem ix48_0 (w : World) : (Instr.index 48 (.agg #[.string ⟨#[]⟩, .string ⟨#[115, 101, 116]⟩, .string ⟨#[112, 117, 116]⟩, .string ⟨#[97, 100, 100]⟩, .string ⟨#[100, 114, 111, 112]⟩, .string ⟨#[106, 111, 105, 110]⟩, .string ⟨#[114, 101, 116, 105, 114, 101]⟩]) (.int .i64 0)).run Tryz.prog w = .ok (.string ⟨#[]⟩) w := by kernel_rfl
theorem ix48_1 (w : World) : (Instr.index 48 (.agg #[.string ⟨#[]⟩, .string ⟨#[115, 101, 116]⟩, .string ⟨#[112, 117, 116]⟩, .string ⟨#[97, 100, 100]⟩, .string ⟨#[100, 114, 111, 112]⟩, .string ⟨#[106, 111, 105, 110]⟩, .string ⟨#[114, 101, 116, 105, 114, 101]⟩]) (.int .i64 1)).run Tryz.prog w = .ok (.string ⟨#[115, 101, 116]⟩) w := by kernel_rfl
theorem ix48_2 (w : World) : (Instr.index 48 (.agg #[.string ⟨#[]⟩, .string ⟨#[115, 101, 116]⟩, .string ⟨#[112, 117, 116]⟩, .string ⟨#[97, 100, 100]⟩, .string ⟨#[100, 114, 111, 112]⟩, .string ⟨#[106, 111, 105, 110]⟩, .string ⟨#[114, 101, 116, 105, 114, 101]⟩]) (.int .i64 2)).run Tryz.prog w = .ok (.string ⟨#[112, 117, 116]⟩) w := by kernel_rfl
theorem ix48_3 (w : World) : (Instr.index 48 (.agg #[.string ⟨#[]⟩, .string ⟨#[115, 101, 116]⟩, .string ⟨#[112, 117, 116]⟩, .string ⟨#[97, 100, 100]⟩, .string ⟨#[100, 114, 111, 112]⟩, .string ⟨#[106, 111, 105, 110]⟩, .string ⟨#[114, 101, 116, 105, 114, 101]⟩]) (.int .i64 3)).run Tryz.prog w = .ok (.string ⟨#[97, 100, 100]⟩) w := by kernel_rfl
theorem ix48_4 (w : World) : (Instr.index 48 (.agg #[.string ⟨#[]⟩, .string ⟨#[115, 101, 116]⟩, .string ⟨#[112, 117, 116]⟩, .string ⟨#[97, 100, 100]⟩, .string ⟨#[100, 114, 111, 112]⟩, .string ⟨#[106, 111, 105, 110]⟩, .string ⟨#[114, 101, 116, 105, 114, 101]⟩]) (.int .i64 4)).run Tryz.prog w = .ok (.string ⟨#[100, 114, 111, 112]⟩) w := by kernel_rfl
theorem ix48_5 (w : World) : (Instr.index 48 (.agg #[.string ⟨#[]⟩, .string ⟨#[115, 101, 116]⟩, .string ⟨#[112, 117, 116]⟩, .string ⟨#[97, 100, 100]⟩, .string ⟨#[100, 114, 111, 112]⟩, .string ⟨#[106, 111, 105, 110]⟩, .string ⟨#[114, 101, 116, 105, 114, 101]⟩]) (.int .i64 5)).run Tryz.prog w = .ok (.string ⟨#[106, 111, 105, 110]⟩) w := by kernel_rfl
theorem ix48_6 (w : World) : (Instr.index 48 (.agg #[.string ⟨#[]⟩, .string ⟨#[115, 101, 116]⟩, .string ⟨#[112, 117, 116]⟩, .string ⟨#[97, 100, 100]⟩, .string ⟨#[100, 114, 111, 112]⟩, .string ⟨#[106, 111, 105, 110]⟩, .string ⟨#[114, 101, 116, 105, 114, 101]⟩]) (.int .i64 6)).run Tryz.prog w = .ok (.string ⟨#[114, 101, 116, 105, 114, 101]⟩) w := by kernel_rfl

theorem setCell_same {w : World} {b i : Nat} {v : Value} (h : w.cell? ⟨b, i, none⟩ = some v) : w.setCell ⟨b, i, none⟩ v = w := by
  have e : (w.setCell ⟨b, i, none⟩ v).heap = w.heap := by
    unfold World.setCell
    apply Array.ext_getElem?
    intro k
    rw [Array.getElem?_modify]
    split
    · rename_i hk
      subst hk
      unfold World.cell? at h
      cases hb : w.heap[b]? with
      | none => rfl
      | some o =>
        rw [hb] at h
        cases o with
        | cells c el fz =>
          have hc : c[i]? = some v := by simpa using h
          obtain ⟨hi, hc⟩ := Array.getElem?_eq_some_iff.1 hc
          show some (Obj.cells (c.setIfInBounds i v) el fz) = some (Obj.cells c el fz)
          have : c.setIfInBounds i v = c := by
            apply Array.ext_getElem?
            intro j
            rw [Array.getElem?_setIfInBounds]
            split
            · rename_i hj
              subst hj
              rw [Array.getElem?_eq_getElem hi, hc]
            · rfl
          rw [this]
        | _ => rfl
    · rfl
  show { w with heap := (w.setCell ⟨b, i, none⟩ v).heap } = w
  rw [e]

set_option maxHeartbeats 4000000 in
set_option maxRecDepth 100000 in
theorem read_none (W S T : Nat) (w : World) (g : Glb w) (hW : W < 64) (hS : S < 18446744073709551616) (hT : T < 18446744073709551616) :
    Calls Tryz.prog 10 #[.string ⟨(headOf W S T).toArray⟩] w fun e w' => e = .returned (.tuple #[.agg evNone, .int .i64 4]) ∧ Below w.heap.size w w' := by
  rw [head_eq]
  have hlS := dec_le S hS
  have hlT := dec_le T hT
  have hlW := dec_le W (by omega)
  have hsz := g.size
  have G0 := Lib.hid g
  clear g
  go_enter Tryz.func10, Tryz.ntmps10
  go_wp2_with fail
  have r1 : RdAt _ w _ := RdAt.start (s := ⟨(Lib.decDigits W ++ 32 :: (Lib.decDigits S ++ 32 :: Lib.decDigits T)).toArray⟩) G0.out
  have R1 := Lib.hid r1
  clear r1
  refine (num_ahead _ _ _ _ (by omega) R1.out.part (by simp; omega) (by omega) R1.out.g).mono ?_
  rintro e w1 ⟨rfl, p1, b1⟩
  have R2 := Lib.hid (R1.out.call hsz p1 b1)
  clear R1 p1 b1
  go_wp2_with fail
  refine (small_any _ _ (by omega)).mono ?_
  rintro e w2 ⟨⟨m, rfl, hm1, hm2⟩, rfl⟩
  go_wp2_with fail
  refine (num_ahead _ _ _ _ hS R2.out.part (by simp; omega) (by omega) R2.out.g).mono ?_
  rintro e w3 ⟨rfl, p1, b1⟩
  have R3 := Lib.hid (R2.out.call hsz p1 b1)
  clear R2 p1 b1
  go_wp2_with fail
  refine (num_last _ _ _ hT R3.out.part (by omega) R3.out.g).mono ?_
  rintro e w4 ⟨rfl, p1, b1⟩
  have R4 := Lib.hid (R3.out.call hsz p1 b1)
  clear R3 p1 b1
  go_wp2_with fail
  have hE : w.heap.size + 1 < w4.heap.size := R4.out.part.lt
  have r5 := RdAt.alloc R4.out (.cells #[.int .i64 m, .int .u64 S, .int .u64 T, .int .u8 0, .string ⟨#[]⟩, .slice none 0 0, .float .f64 0, .int .i64 0] 26)
  have ev5 : EvAt w4.heap.size #[.int .i64 m, .int .u64 S, .int .u64 T, .int .u8 0, .string ⟨#[]⟩, .slice none 0 0, .float .f64 0, .int .i64 0] (w4.alloc (.cells #[.int .i64 m, .int .u64 S, .int .u64 T, .int .u8 0, .string ⟨#[]⟩, .slice none 0 0, .float .f64 0, .int .i64 0] 26)) := heap_alloc_new w4 _
  have R5 := Lib.hid r5
  have E5 := Lib.hid ev5
  clear r5 ev5
  refine (word_none _ _ R5.out.part R5.out.g).mono ?_
  rintro e w5 ⟨rfl, p1, b1⟩
  have R6 := Lib.hid (R5.out.call hsz p1 b1)
  have E6 := Lib.hid (E5.out.beside b1 (by omega))
  clear R5 E5 p1 b1
  have v0 := R6.out.g.verb 0 _ rfl
  have v1 := R6.out.g.verb 1 _ rfl
  have v2 := R6.out.g.verb 2 _ rfl
  have v3 := R6.out.g.verb 3 _ rfl
  have v4 := R6.out.g.verb 4 _ rfl
  have v5 := R6.out.g.verb 5 _ rfl
  have v6 := R6.out.g.verb 6 _ rfl
  have k3 : w5.cell? ⟨w4.heap.size, 3, none⟩ = some (.int .u8 0) := E6.out.cell 3
  have q1 := R6.out.part.c1
  have d0 : w5.cell? ⟨w.heap.size, 0, none⟩ = some (.int .i64 0) := R6.out.res.cell 0
  have f0 : w5.frozen? ⟨w.heap.size, 0, none⟩ = false := Lib.frozen_of_heap R6.out.res 0
  have d1 : w5.cell? ⟨w.heap.size, 1, none⟩ = some (.int .u64 0) := R6.out.res.cell 1
  have f1 : w5.frozen? ⟨w.heap.size, 1, none⟩ = false := Lib.frozen_of_heap R6.out.res 1
  have d2 : w5.cell? ⟨w.heap.size, 2, none⟩ = some (.int .u64 0) := R6.out.res.cell 2
  have f2 : w5.frozen? ⟨w.heap.size, 2, none⟩ = false := Lib.frozen_of_heap R6.out.res 2
  have d3 : w5.cell? ⟨w.heap.size, 3, none⟩ = some (.int .u8 0) := R6.out.res.cell 3
  have f3 : w5.frozen? ⟨w.heap.size, 3, none⟩ = false := Lib.frozen_of_heap R6.out.res 3
  have d4 : w5.cell? ⟨w.heap.size, 4, none⟩ = some (.string ⟨#[]⟩) := R6.out.res.cell 4
  have f4 : w5.frozen? ⟨w.heap.size, 4, none⟩ = false := Lib.frozen_of_heap R6.out.res 4
  have d5 : w5.cell? ⟨w.heap.size, 5, none⟩ = some (.slice none 0 0) := R6.out.res.cell 5
  have f5 : w5.frozen? ⟨w.heap.size, 5, none⟩ = false := Lib.frozen_of_heap R6.out.res 5
  have d6 : w5.cell? ⟨w.heap.size, 6, none⟩ = some (.float .f64 0) := R6.out.res.cell 6
  have f6 : w5.frozen? ⟨w.heap.size, 6, none⟩ = false := Lib.frozen_of_heap R6.out.res 6
  have d7 : w5.cell? ⟨w.heap.size, 7, none⟩ = some (.int .i64 0) := R6.out.res.cell 7
  have f7 : w5.frozen? ⟨w.heap.size, 7, none⟩ = false := Lib.frozen_of_heap R6.out.res 7
  go_wp2_with fail
  refine wp_loop_rounds 8 ?_
  rw [rounds_succ]
  go_wp2_with fail
  rw [ix48_0]
  go_wp2_with fail
  rw [rounds_succ]
  go_wp2_with fail
  rw [ix48_1]
  go_wp2_with fail
  rw [rounds_succ]
  go_wp2_with fail
  rw [ix48_2]
  go_wp2_with fail
  rw [rounds_succ]
  go_wp2_with fail
  rw [ix48_3]
  go_wp2_with fail
  rw [rounds_succ]
  go_wp2_with fail
  rw [ix48_4]
  go_wp2_with fail
  rw [rounds_succ]
  go_wp2_with fail
  rw [ix48_5]
  go_wp2_with fail
  rw [rounds_succ]
  go_wp2_with fail
  rw [ix48_6]
  go_wp2_with fail
  rw [rounds_succ]
  go_wp2_with fail
  rw [setCell_same d0, setCell_same d1, setCell_same d2, setCell_same d3, setCell_same d4, setCell_same d5, setCell_same d6, setCell_same d7]
  (try simp only [Exit.inBlock, Exit.then])
  refine bodyPost_ret (v := .tuple #[.agg evNone, .int .i64 4]) (by simp [results, Tryz.results10, go_sem, d0, d1, d2, d3, d4, d5, d6, d7, evNone]) rfl ?_
  exact ⟨rfl, R6.out.below⟩
end Go.Proofs.YteehfknepkpbnaaGreatDoor
