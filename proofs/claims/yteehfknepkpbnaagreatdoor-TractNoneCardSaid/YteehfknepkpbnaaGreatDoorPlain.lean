/- Plain facts on the three numbers of a line. -/
import Derived.Test.YteehfknepkpbnaaGreatDoorNear
namespace Go.Proofs.YteehfknepkpbnaaGreatDoor
open Go.RowKit Go.Sort Go.Lib

theorem dig_in (n : Nat) : ∀ c ∈ Lib.decDigits n, 48 ≤ c.toNat ∧ c.toNat ≤ 57 := by
  induction n using Nat.strongRecOn with
  | _ n ih =>
    intro c hc
    rw [Lib.decDigits] at hc
    split at hc
    · rw [List.mem_singleton] at hc
      subst hc
      simp
      omega
    · rw [List.mem_append] at hc
      rcases hc with hc | hc
      · exact ih (n / 10) (by omega) c hc
      · rw [List.mem_singleton] at hc
        subst hc
        simp
        omega

theorem dec_some (n : Nat) : Lib.decDigits n ≠ [] := by
  rw [Lib.decDigits]
  split <;> simp

theorem parseM_dec (M : Nat) (hM : M < 18446744073709551616) (n : Nat) : n ≤ M → ∀ l, Lib.parseUintM M 0 (Lib.decDigits n ++ l) = Lib.parseUintM M n l := by
  induction n using Nat.strongRecOn with
  | _ n ih =>
    intro hn l
    rw [Lib.decDigits]
    split
    · rename_i h10
      have e : (UInt8.ofNat (48 + n)).toNat = 48 + n := by simp; omega
      rw [List.singleton_append, Lib.parseUintM, e, if_pos (by omega), if_neg (by omega), if_neg (by omega)]
      congr 1
      omega
    · have e : (UInt8.ofNat (48 + n % 10)).toNat = 48 + n % 10 := by simp; omega
      rw [List.append_assoc, ih (n / 10) (by omega) (by omega), List.singleton_append, Lib.parseUintM, e, if_pos (by omega), if_neg (by omega), if_neg (by omega)]
      congr 1
      omega

theorem parse_dec (n : Nat) (hn : n < 18446744073709551616) : Lib.parseUintB 64 (Lib.decDigits n) = .ok n := by
  unfold Lib.parseUintB
  rw [if_neg (dec_some n)]
  have := parseM_dec (2 ^ 64 - 1) (by decide) n (by omega) []
  rw [List.append_nil] at this
  rw [this, Lib.parseUintM]

theorem index_ahead : ∀ (a : List UInt8) (r : List UInt8), (∀ c ∈ a, c ≠ 32) → Lib.index (a ++ 32 :: r) [32] = a.length
  | [], r, _ => by simp [Lib.index]
  | c :: a, r, h => by
    have hc : c ≠ 32 := h c (List.mem_cons_self ..)
    have ih := index_ahead a r fun x hx => h x (List.mem_cons_of_mem _ hx)
    rw [List.cons_append, Lib.index, ih]
    have h1 : ([32] : List UInt8).isPrefixOf (c :: (a ++ 32 :: r)) = false := by
      simp [List.isPrefixOf, Ne.symm hc]
    have h2 : ((a.length : Int) == -1) = false := by
      simp
    rw [h1, h2]
    simp
theorem index_none : ∀ (a : List UInt8), (∀ c ∈ a, c ≠ 32) → Lib.index a [32] = -1
  | [], _ => by simp [Lib.index]
  | c :: a, h => by
    have hc : c ≠ 32 := h c (List.mem_cons_self ..)
    have ih := index_none a fun x hx => h x (List.mem_cons_of_mem _ hx)
    rw [Lib.index, ih]
    have h1 : ([32] : List UInt8).isPrefixOf (c :: a) = false := by
      simp [List.isPrefixOf, Ne.symm hc]
    rw [h1]
    simp

theorem dig_ne (n : Nat) : ∀ c ∈ Lib.decDigits n, c ≠ 32 := fun c hc e => by
  have := dig_in n c hc
  subst e
  simp at this

theorem cut_ahead (a r : List UInt8) (h : ∀ c ∈ a, c ≠ 32) : Lib.cut (a ++ 32 :: r) [32] = (a, r, true) := by
  unfold Lib.cut
  rw [index_ahead a r h, if_pos (by omega)]
  simp
theorem cut_none (a : List UInt8) (h : ∀ c ∈ a, c ≠ 32) : Lib.cut a [32] = (a, [], false) := by
  unfold Lib.cut
  rw [index_none a h, if_neg (by omega)]

theorem word_ahead (n : Nat) (r : List UInt8) : wordOf ⟨(Lib.decDigits n ++ 32 :: r).toArray⟩ = ⟨(Lib.decDigits n).toArray⟩ ∧ restOf ⟨(Lib.decDigits n ++ 32 :: r).toArray⟩ = ⟨r.toArray⟩ := by
  unfold wordOf restOf
  show (⟨(Lib.cut (Lib.decDigits n ++ 32 :: r) [32]).1.toArray⟩ : ByteArray) = _ ∧ (⟨(Lib.cut (Lib.decDigits n ++ 32 :: r) [32]).2.1.toArray⟩ : ByteArray) = _
  rw [cut_ahead _ _ (dig_ne n)]
  exact ⟨rfl, rfl⟩
theorem word_last (n : Nat) : wordOf ⟨(Lib.decDigits n).toArray⟩ = ⟨(Lib.decDigits n).toArray⟩ ∧ restOf ⟨(Lib.decDigits n).toArray⟩ = ⟨#[]⟩ := by
  unfold wordOf restOf
  show (⟨(Lib.cut (Lib.decDigits n) [32]).1.toArray⟩ : ByteArray) = _ ∧ (⟨(Lib.cut (Lib.decDigits n) [32]).2.1.toArray⟩ : ByteArray) = _
  rw [cut_none _ (dig_ne n)]
  exact ⟨rfl, rfl⟩
theorem word_nil : wordOf ⟨#[]⟩ = ⟨#[]⟩ ∧ restOf ⟨#[]⟩ = ⟨#[]⟩ := by
  unfold wordOf restOf
  show (⟨(Lib.cut ([]) [32]).1.toArray⟩ : ByteArray) = _ ∧ (⟨(Lib.cut ([]) [32]).2.1.toArray⟩ : ByteArray) = _
  rw [cut_none _ (by simp)]
  exact ⟨rfl, rfl⟩

theorem num_dec (n : Nat) (hn : n < 18446744073709551616) : numV ⟨(Lib.decDigits n).toArray⟩ = n ∧ numBad ⟨(Lib.decDigits n).toArray⟩ = false := by
  unfold numV numBad
  have e : ((⟨(Lib.decDigits n).toArray⟩ : ByteArray).data.toList) = Lib.decDigits n := rfl
  rw [e, parse_dec n hn]
  simp

theorem head_eq (W S T : Nat) : headOf W S T = Lib.decDigits W ++ 32 :: (Lib.decDigits S ++ 32 :: Lib.decDigits T) := by
  unfold headOf
  rw [Lib.itoa_nonneg]
  simp
end Go.Proofs.YteehfknepkpbnaaGreatDoor
