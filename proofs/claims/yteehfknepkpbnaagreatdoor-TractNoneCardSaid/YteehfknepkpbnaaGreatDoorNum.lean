/- The law's own num: a number in digits, for every uint64. -/
import Derived.Test.YteehfknepkpbnaaGreatDoorDec
namespace Go.Proofs.YteehfknepkpbnaaGreatDoor
open Go.RowKit Go.Sort Go.Lib

theorem decDigits_step (u : Nat) (h : ¬ u < 10) : Lib.decDigits u = Lib.decDigits (u / 10) ++ Lib.decDigits (u % 10) := by
  rw [Lib.decDigits_one (i := u % 10) (by omega)]
  rw [Lib.decDigits, dif_neg h]

theorem ba_append (a b : List UInt8) : (⟨a.toArray⟩ : ByteArray) ++ ⟨b.toArray⟩ = ⟨(a ++ b).toArray⟩ := by
  apply ByteArray.ext
  rw [ByteArray.data_append]
  simp

theorem dec_le (u : Nat) (h : u < 18446744073709551616) : (Lib.decDigits u).length ≤ 20 := by
  by_cases h0 : u = 0
  · subst h0; rw [Lib.decDigits_one (by omega)]; simp
  · rw [Lib.decDigits_length]; have := Lib.numDigits_eq u (by omega) h; split at this <;> omega

theorem conv_digit (u : Nat) (h : u < 10) (w : World) : (convert 23 9 (.slice (some ⟨w.heap.size, 0, none⟩) 1 1)).run Tryz.prog (w.alloc (.cells #[.int .u8 (48 + (u : Int))] 5)) =
    .ok (.string ⟨(Lib.decDigits u).toArray⟩) (w.alloc (.cells #[.int .u8 (48 + (u : Int))] 5)) := by
  have hd := Lib.decDigits_one h
  have := run_convert_bytes_back (P := Tryz.prog) (w.alloc (.cells #[.int .u8 (48 + (u : Int))] 5)) 23 9 5 ⟨w.heap.size, 0, none⟩ 1 (Lib.decDigits u) Tryz.underlying23 Tryz.underlying5 Tryz.underlying9 (fun j hj => by
    have hl : (Lib.decDigits u).length = 1 := by rw [hd]; rfl
    have hj0 : j = 0 := by omega
    subst hj0
    have hg : (Lib.decDigits u)[0] = UInt8.ofNat (48 + u) := by simp only [hd, List.getElem_cons_zero]
    have hn : (UInt8.ofNat (48 + u)).toNat = 48 + u := by rw [UInt8.toNat_ofNat']; omega
    rw [Lib.add_plain, World.cell?_alloc_new, hg, hn]
    simp)
  have hl : (Lib.decDigits u).length = 1 := by rw [hd]; rfl
  rw [hl] at this
  exact this

set_option maxHeartbeats 1000000 in
set_option maxRecDepth 100000 in
theorem num_small (u : Nat) (h : u < 10) (w : World) :
    Calls Tryz.prog 15 #[.int .u64 u] w fun e w' => e = .returned (.string ⟨(Lib.decDigits u).toArray⟩) ∧ Below w.heap.size w w' := by
  have hw1 : IntKind.u64.wrap (48 + (u : Int)) = 48 + u := by rw [IntKind.wrap_u64]; omega
  have hw2 : IntKind.u8.wrap (48 + (u : Int)) = 48 + u := by rw [IntKind.wrap_u8]; omega
  have hcv := conv_digit u h w
  go_enter Tryz.func15, Tryz.ntmps15
  go_wp2_with fail
  go_ret
  exact ⟨rfl, (Below.refl _ _).alloc (Nat.le_refl _) _⟩

set_option maxHeartbeats 1000000 in
set_option maxRecDepth 100000 in
theorem num_any (u : Nat) (h64 : u < 18446744073709551616) (w : World) :
    Calls Tryz.prog 15 #[.int .u64 u] w fun e w' => e = .returned (.string ⟨(Lib.decDigits u).toArray⟩) ∧ Below w.heap.size w w' := by
  induction u using Nat.strongRecOn generalizing w with
  | _ u ih =>
    by_cases h : u < 10
    · exact num_small u h w
    · have ih1 := Lib.hid (ih (u / 10) (by omega) (by omega))
      have ih2 := Lib.hid (fun w => num_small (u % 10) (by omega) w)
      have hst := Lib.hid (decDigits_step u h)
      have e1 : ((u : Int) / 10) = ((u / 10 : Nat) : Int) := by omega
      have e2 : ((u : Int) % 10) = ((u % 10 : Nat) : Int) := by omega
      have E1 := Lib.hid e1
      have E2 := Lib.hid e2
      clear ih e1 e2
      have hl1 := dec_le (u / 10) (by omega)
      have hl2 := dec_le (u % 10) (by omega)
      have hdec : decide ((u : Int) < 10) = false := by simp; omega
      go_enter Tryz.func15, Tryz.ntmps15
      go_wp2_with fail
      rw [E1.out]
      refine (ih1.out _).mono ?_
      rintro e w1 ⟨rfl, hb1⟩
      go_wp2_with fail
      rw [E2.out]
      refine (ih2.out _).mono ?_
      rintro e w2 ⟨rfl, hb2⟩
      go_wp2_with fail
      go_ret
      refine ⟨?_, hb1.trans (hb2.mono hb1.size)⟩
      rw [hst.out, ba_append]; rfl
#print axioms num_any
end Go.Proofs.YteehfknepkpbnaaGreatDoor
