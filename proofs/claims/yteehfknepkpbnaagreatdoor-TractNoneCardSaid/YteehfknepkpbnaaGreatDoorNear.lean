/- near of the law, Write of no events, small of package tract. -/
import Derived.Test.YteehfknepkpbnaaGreatDoorHexs
import Derived.Handy
import Derived.IntWalk
namespace Go.Proofs.YteehfknepkpbnaaGreatDoor
open Go.RowKit Go.Sort Go.Lib

@[go_sem] theorem run_store_float (P : Program) (w : World) (a : Addr) (m : Mode) (k : FloatKind) (n : Nat) : (store a (.float k n) m).run P w = stored P w a (.float k n) m := run_store P w a _ m rfl

set_option maxHeartbeats 4000000 in
set_option maxRecDepth 100000 in
theorem write_nil (w : World) :
    Calls Tryz.prog 16 #[.slice none 0 0] w fun e w' => e = .returned (.string ⟨#[]⟩) ∧ Below w.heap.size w w' := by
  have hfr := Lib.fresh_isBuilder 66 5 w
  have HF := Lib.hid hfr
  clear hfr
  go_enter Tryz.func16, Tryz.ntmps16
  go_wp2_with fail
  refine wp_loop_rounds 1 ?_
  rw [rounds_succ]
  go_wp2_with fail
  refine (Tryz.Builder_String_any w.heap.size w.heap.size [] _ HF.out (by simp)).mono ?_
  rintro e w2 ⟨rfl, hb2⟩
  go_wp2_with fail
  go_ret
  exact ⟨rfl, ((Below.refl _ _).alloc (Nat.le_refl _) _).trans hb2⟩

set_option maxHeartbeats 4000000 in
set_option maxRecDepth 100000 in
theorem small_any (n : Nat) (w : World) (hn : n < 18446744073709551616) :
    Calls Tryz.prog 21 #[.int .u64 n] w fun e w' => (∃ m : Nat, e = .returned (.int .i64 m) ∧ m ≤ 64 ∧ m ≤ n) ∧ w' = w := by
  go_enter Tryz.func21, Tryz.ntmps21
  go_wp2_with fail
  all_goals go_ret
  exact ⟨⟨min n 64, by simp; try omega, by omega, by omega⟩, rfl⟩

theorem wrap_rem (W : Int) : ∃ m : Nat, m < 64 ∧ wrap64 ((IntKind.u64.wrap W).tmod 64) = m := by
  have h0 : 0 ≤ IntKind.u64.wrap W := by
    unfold IntKind.wrap
    simp [IntKind.bits, IntKind.signed]
    omega
  refine ⟨((IntKind.u64.wrap W).tmod 64).toNat, ?_, ?_⟩
  · rw [Int.tmod_eq_emod_of_nonneg h0]; omega
  · rw [Int.tmod_eq_emod_of_nonneg h0]
    exact (IntWalk.wrap64_in _ (by omega)).trans (by omega)

set_option maxHeartbeats 4000000 in
set_option maxRecDepth 100000 in
theorem near_any (W : Int) (S T K : Nat) (key : ByteArray) (tp : Option Addr) (tl tc x : Nat) (N : Int) (w : World)
    (_hW0 : -9223372036854775808 ≤ W) (_hW1 : W ≤ 9223372036854775807) (_hN0 : -9223372036854775808 ≤ N) (_hN1 : N ≤ 9223372036854775807)
    (hS : S < 18446744073709551616) (hT : T < 18446744073709551616) (hK : K < 256) :
    Calls Tryz.prog 8 #[.agg #[.int .i64 W, .int .u64 S, .int .u64 T, .int .u8 K, .string key, .slice tp tl tc, .float .f64 x, .int .i64 N]] w fun e w' =>
      (∃ (W' S' T' K' N' : Nat) (key' : ByteArray), e = .returned (.agg #[.int .i64 W', .int .u64 S', .int .u64 T', .int .u8 K', .string key', .slice tp tl tc, .float .f64 x, .int .i64 N']) ∧ W' < 64 ∧ S' ≤ 4611686018427387904 ∧ T' ≤ 4611686018427387904 ∧ N' < 64) ∧ Below w.heap.size w w' := by
  obtain ⟨W2, hW2, eW⟩ := wrap_rem W
  obtain ⟨N2, hN2, eN⟩ := wrap_rem N
  go_enter Tryz.func8, Tryz.ntmps8
  go_wp2_with fail
  all_goals go_returns
  all_goals refine ⟨⟨W2, 1 + S % 4611686018427387904, 1 + T % 4611686018427387904, 1 + K % 6, N2, ?_⟩, ((Below.refl _ _).alloc (Nat.le_refl _) _).alloc (by simp) _⟩
  · exact ⟨⟨#[107]⟩, by rw [← eW, ← eN]; rfl, hW2, by omega, by omega, hN2⟩
  · exact ⟨key, by rw [← eW, ← eN]; rfl, hW2, by omega, by omega, hN2⟩
end Go.Proofs.YteehfknepkpbnaaGreatDoor
