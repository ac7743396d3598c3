/- hex of package tract: bytes as digits to the base 16, behind an x; up to 2^40 bytes. -/
import Derived.Test.YteehfknepkpbnaaGreatDoorHead
import Derived.Test.YteehfknepkpbnaaGreatDoorBld
namespace Go.Proofs.YteehfknepkpbnaaGreatDoor
open Go.RowKit Go.Sort Go.Lib

def hexTab : List UInt8 := [48, 49, 50, 51, 52, 53, 54, 55, 56, 57, 97, 98, 99, 100, 101, 102]
def hexDig (i : Nat) : UInt8 := hexTab.getD i 0
def hexD : List UInt8 → List UInt8
  | [] => []
  | c :: r => hexDig (c.toNat / 16) :: hexDig (c.toNat % 16) :: hexD r
theorem hexD_snoc (l : List UInt8) (c : UInt8) : hexD (l ++ [c]) = hexD l ++ [hexDig (c.toNat / 16), hexDig (c.toNat % 16)] := by
  induction l with
  | nil => rfl
  | cons x r ih => rw [List.cons_append, hexD, hexD, ih]; rfl
theorem hexD_length (l : List UInt8) : (hexD l).length = 2 * l.length := by
  induction l with
  | nil => rfl
  | cons x r ih => rw [hexD]; simp [ih]; omega

/-- what a slice of bytes reads as -/
def Bytes (v : Value) (l : List UInt8) (B : Nat) (w : World) : Prop :=
  (∃ a c, l = [] ∧ v = .slice a 0 c) ∨ (∃ r o c, r < B ∧ v = .slice (some ⟨r, o, none⟩) l.length c ∧ ∀ j (h : j < l.length), w.cell? ⟨r, o + j, none⟩ = some (.int .u8 (l[j].toNat : Int)))

def hexBA : ByteArray := ⟨#[48, 49, 50, 51, 52, 53, 54, 55, 56, 57, 97, 98, 99, 100, 101, 102]⟩
theorem hexBA_at : ∀ i : Fin 16, (hexBA[i.val]'(i.isLt)).toNat = (hexDig i.val).toNat := by decide
theorem cells_snoc (l : List UInt8) (k : Nat) (hlt : k < l.length) (a b : Nat) (ha : a = (hexDig (l[k].toNat / 16)).toNat) (hb : b = (hexDig (l[k].toNat % 16)).toNat) :
    Lib.byteCells (120 :: hexD (l.take k)) ++ [.int .u8 (a : Int)] ++ [.int .u8 (b : Int)] = Lib.byteCells (120 :: hexD (l.take (k + 1))) := by
  subst ha; subst hb
  rw [List.take_succ_eq_append_getElem hlt, hexD_snoc]
  simp [Lib.byteCells]
theorem cells_len (l : List UInt8) (k : Nat) : (Lib.byteCells (120 :: hexD (l.take k))).length ≤ 1 + 2 * l.length := by
  have h1 := hexD_length (l.take k)
  have h2 : (l.take k).length ≤ l.length := by rw [List.length_take]; omega
  simp only [Lib.byteCells, List.length_map, List.length_cons]
  omega

set_option maxHeartbeats 4000000 in
set_option maxRecDepth 100000 in
theorem hex_some (r o cap : Nat) (l : List UInt8) (w : World) (hl : l.length ≤ 1099511627776) (hr : r < w.heap.size) (hc : ∀ j (h : j < l.length), w.cell? ⟨r, o + j, none⟩ = some (.int .u8 (l[j].toNat : Int))) :
    Calls Tryz.prog 19 #[.slice (some ⟨r, o, none⟩) l.length cap] w fun e w' => e = .returned (.string ⟨(120 :: hexD l).toArray⟩) ∧ Below w.heap.size w w' := by
  have hfr := Lib.fresh_isBuilder 66 5 w
  have HF := Lib.hid hfr
  clear hfr
  have HC := Lib.hid hc
  clear hc
  go_enter Tryz.func19, Tryz.ntmps19
  go_wp2_with fail
  refine (writeByte w.heap.size w.heap.size [] 120 _ HF.out (by simp) (by simp)).mono ?_
  rintro e w1 ⟨rfl, hB1, hb1⟩
  have hbb : Below w.heap.size w w1 := ((Below.refl _ _).alloc (Nat.le_refl _) _).trans hb1
  go_wp2_with fail
  go_loopw [9] (fun vi wr => ∃ k : Nat, k ≤ l.length ∧ vi = .int .i64 k ∧ Lib.IsBuilder 66 5 w.heap.size w.heap.size (Lib.byteCells (120 :: hexD (l.take k))) wr ∧ Below w.heap.size w wr) (fun vi _ => l.length - (RowKit.intOf vi).toNat)
  case atStart => exact ⟨0, Nat.zero_le _, rfl, Or.inr hB1, hbb⟩
  case round =>
    obtain ⟨k, hk, rfl, hbk, hbw⟩ := hrel
    rename World => wr
    by_cases hlt : k < l.length
    · have hbyte := l[k].toNat_lt
      have hcell : wr.cell? ⟨r, o + k, none⟩ = some (.int .u8 (l[k].toNat : Int)) := by
        rw [hbw.cell (p := ⟨r, o + k, none⟩) hr]; exact HC.out k hlt
      have e1 := hexBA_at ⟨l[k].toNat / 16, by omega⟩
      have e2 := hexBA_at ⟨l[k].toNat % 16, by omega⟩
      have E1 := Lib.hid e1
      have E2 := Lib.hid e2
      have hcl := cells_len l k
      have HK := Lib.hid hbk
      have hsz := hbw.size
      clear e1 e2 hbk
      go_wp2_with fail
      refine (writeByte w.heap.size w.heap.size _ _ _ HK.out (by omega) hsz).mono ?_
      rintro e w2 ⟨rfl, hB2, hb2⟩
      go_wp2_with fail
      refine (writeByte w.heap.size w.heap.size _ _ _ (Or.inr hB2) (by rw [List.length_append]; simp; omega) (by have := hb2.size; omega)).mono ?_
      rintro e w3 ⟨rfl, hB3, hb3⟩
      go_wp2_with fail
      go_roundw
      case rel =>
        refine ⟨k + 1, by omega, by go_num, Or.inr ?_, (hbw.trans hb2).trans hb3⟩
        rw [← cells_snoc l k hlt _ _ E1.out E2.out]
        exact hB3
      case measure => simp [RowKit.intOf]; omega
    · have hkl : k = l.length := by omega
      subst hkl
      rw [List.take_length] at hbk
      have HK := Lib.hid hbk
      clear hbk
      go_wp2_with fail
      refine (Tryz.Builder_String_any w.heap.size w.heap.size (120 :: hexD l) _ HK.out hbw.size).mono ?_
      rintro e w2 ⟨rfl, hb2⟩
      go_wp2_with fail
      go_ret
      exact ⟨rfl, hbw.trans hb2⟩
#print axioms hex_some
end Go.Proofs.YteehfknepkpbnaaGreatDoor
