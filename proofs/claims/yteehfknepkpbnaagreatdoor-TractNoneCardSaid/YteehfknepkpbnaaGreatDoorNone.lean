/- TractNone: the row and the card. -/
import Derived.Test.YteehfknepkpbnaaGreatDoorGvar
import Derived.Test.YteehfknepkpbnaaGreatDoorAw
import Derived.Test.YteehfknepkpbnaaGreatDoorCards
import Derived.Test.YteehfknepkpbnaaGreatDoorTie
import Derived.WalkKit
import Derived.OpenShut
import Derived.Deep.DeepHandedRow
import Derived.LaidMore
import Derived.Lay
import Derived.Carry
import Derived.SevenTiedAt
namespace Go.Proofs.YteehfknepkpbnaaGreatDoor
open Go.ChangeShapes Go.WideShapes Go.ChangeAt Go.RowKit

section
variable {P : Program} {w : World} {r : Reach} {b : Nat} {t : TypeId} {v : Value}
theorem int_wide {k : IntKind} (hu : P.underlying t = some (.int k)) (h : Cell.okWide P w r b t v) : ∃ n, v = .int k n ∧ k.has n := by
  unfold Cell.okWide Cell.ok at h
  rw [hu] at h
  cases v <;> simp_all
theorem string_wide (hu : P.underlying t = some .string) (h : Cell.okWide P w r b t v) : ∃ s, v = .string s := by
  unfold Cell.okWide Cell.ok at h
  rw [hu] at h
  cases v <;> simp_all
theorem float_wide {k : FloatKind} (hu : P.underlying t = some (.float k)) (h : Cell.okWide P w r b t v) : ∃ x, v = .float k x := by
  unfold Cell.okWide Cell.ok at h
  rw [hu] at h
  cases v <;> simp_all
theorem slice_wide {e : TypeId} (hu : P.underlying t = some (.slice e)) (h : Cell.okWide P w r b t v) : ∃ a l c, v = .slice a l c := by
  unfold Cell.okWide Cell.ok at h
  rw [hu] at h
  cases v <;> simp_all
theorem ev_wide {fs : Array Field} (hu : P.underlying 26 = some (.struct fs)) (hc : P.cellsOf 26 = 8) (hts : P.cellTypes P.depth 26 = some [3, 22, 22, 5, 9, 23, 24, 3])
    (u3 : P.underlying 3 = some (.int .i64)) (u22 : P.underlying 22 = some (.int .u64)) (u5 : P.underlying 5 = some (.int .u8)) (u9 : P.underlying 9 = some .string) (u23 : P.underlying 23 = some (.slice 5)) (u24 : P.underlying 24 = some (.float .f64))
    (h : Value.okWide P w r b 26 v) : ∃ (W S T K : Int) (key : ByteArray) (tp : Option Addr) (tl tc x : Nat) (N : Int), v = .agg #[.int .i64 W, .int .u64 S, .int .u64 T, .int .u8 K, .string key, .slice tp tl tc, .float .f64 x, .int .i64 N] ∧
      IntKind.i64.has W ∧ IntKind.u64.has S ∧ IntKind.u64.has T ∧ IntKind.u8.has K ∧ IntKind.i64.has N := by
  unfold Value.okWide at h
  rw [hu] at h
  obtain ⟨cs, rfl, hsz, ts, h1, _, h2⟩ := h
  obtain rfl := Option.some.inj (h1.symm.trans hts)
  rw [hc] at hsz
  have at' : ∀ i, i < 8 → ∃ u x, cs[i]? = some x ∧ ([3, 22, 22, 5, 9, 23, 24, 3] : List TypeId)[i % 8]? = some u ∧ Cell.okWide P w r b u x := fun i hi => by
    have hx : cs[i]? = some (cs[i]'(by omega)) := Array.getElem?_eq_getElem (by omega)
    obtain ⟨u, hu, hk⟩ := h2 i _ hx
    exact ⟨u, _, hx, hu, hk⟩
  obtain ⟨_, v0, e0, hu0, k0⟩ := at' 0 (by omega)
  obtain ⟨_, v1, e1, hu1, k1⟩ := at' 1 (by omega)
  obtain ⟨_, v2, e2, hu2, k2⟩ := at' 2 (by omega)
  obtain ⟨_, v3, e3, hu3, k3⟩ := at' 3 (by omega)
  obtain ⟨_, v4, e4, hu4, k4⟩ := at' 4 (by omega)
  obtain ⟨_, v5, e5, hu5, k5⟩ := at' 5 (by omega)
  obtain ⟨_, v6, e6, hu6, k6⟩ := at' 6 (by omega)
  obtain ⟨_, v7, e7, hu7, k7⟩ := at' 7 (by omega)
  cases hu0; cases hu1; cases hu2; cases hu3; cases hu4; cases hu5; cases hu6; cases hu7
  obtain ⟨W, rfl, hW⟩ := int_wide u3 k0
  obtain ⟨S, rfl, hS⟩ := int_wide u22 k1
  obtain ⟨T, rfl, hT⟩ := int_wide u22 k2
  obtain ⟨K, rfl, hK⟩ := int_wide u5 k3
  obtain ⟨key, rfl⟩ := string_wide u9 k4
  obtain ⟨tp, tl, tc, rfl⟩ := slice_wide u23 k5
  obtain ⟨x, rfl⟩ := float_wide u24 k6
  obtain ⟨N, rfl, hN⟩ := int_wide u3 k7
  refine ⟨W, S, T, K, key, tp, tl, tc, x, N, ?_, hW, hS, hT, hK, hN⟩
  congr 1
  apply Array.ext_getElem?
  intro i
  match i with
  | 0 => exact e0
  | 1 => exact e1
  | 2 => exact e2
  | 3 => exact e3
  | 4 => exact e4
  | 5 => exact e5
  | 6 => exact e6
  | 7 => exact e7
  | i + 8 => rw [Array.getElem?_eq_none (by omega), Array.getElem?_eq_none (by simp)]
end

theorem own : ownKnob Tryz.prog.godebug = none := by kernel_rfl
theorem laidOut : laidOutB Tryz.prog = true := by kernel_rfl
theorem cells26 : Tryz.prog.cellsOf 26 = 8 := by kernel_rfl
theorem types26 : Tryz.prog.cellTypes Tryz.prog.depth 26 = some [3, 22, 22, 5, 9, 23, 24, 3] := by kernel_rfl

set_option maxRecDepth 100000 in
theorem ev_open {W : World} {base : Nat} {v : Value} (h : Value.okWide Tryz.prog W .any base 26 v) : ∃ (W S T K : Int) (key : ByteArray) (tp : Option Addr) (tl tc x : Nat) (N : Int), v = .agg #[.int .i64 W, .int .u64 S, .int .u64 T, .int .u8 K, .string key, .slice tp tl tc, .float .f64 x, .int .i64 N] ∧
      IntKind.i64.has W ∧ IntKind.u64.has S ∧ IntKind.u64.has T ∧ IntKind.u8.has K ∧ IntKind.i64.has N :=
  ev_wide (P := Tryz.prog) Tryz.underlying26 cells26 types26 Tryz.underlying3 Tryz.underlying22 Tryz.underlying5 Tryz.underlying9 Tryz.underlying23 Tryz.underlying24 h

set_option maxRecDepth 100000 in
/-- WHAT THE WALK GIVES, FOR EVERY ARGUMENT AND EVERY WORLD THAT HOLDS WHAT THE ROW LISTS. -/
theorem contract (H : Type) (enc : TypeId × Value → H) (W : World) (base : Nat) (args : Array Value) (ds gs : List (DataW H)) (before : List MemPlace)
    (hval : ∀ (j : Nat) t v, Tryz.f6.params[j]? = some t → args[j]? = some v → Value.okWide Tryz.prog W .any base t v)
    (hW : DataW.Whole enc Tryz.prog Tryz.f6.params.toList Rows.tractNoneSpec.vars false W args.toList ds gs before) (g : Gv W) :
    Calls Tryz.prog 6 args W fun e W' => ∃ v, e = .returned v ∧ Rows.tractNoneSpec.post enc Tryz.prog Tryz.f6 false true false false W args v W' := by
  have hW' := hW
  obtain ⟨p, q, hA0, hV, rfl, hfz, hnd⟩ := hW
  have hA : DataW.TrodAll enc Tryz.prog W 0 (fun _ => true) true Tryz.f6.params.toList args.toList ds p := hA0
  rw [Tryz.params6] at hA hval
  obtain ⟨v0, vs0, d0, ds0, p0, q0, hargs, rfl, rfl, h0, r0⟩ := trodAll_cons hA
  obtain ⟨v1, vs1, d1, ds1, p1, q1, rfl, rfl, rfl, h1, r1⟩ := trodAll_cons r0
  obtain ⟨rfl, rfl, rfl⟩ := trodAll_nil r1
  obtain rfl : args = #[v0, v1] := by cases args; simp_all
  obtain ⟨rfl, rfl⟩ := trodVars_none hV
  obtain ⟨how, rfl, rfl, rfl, w1⟩ := open_int Tryz.underlying5 (hval 1 5 v1 rfl rfl) h1
  obtain ⟨W0, S, T, K, key, tp, tl, tc, x, N, rfl, hW0, hS, hT, hK, hN⟩ := ev_open (hval 0 26 v0 rfl rfl)
  clear hA0 r0 h1 r1 hA hval
  have hlt : ∀ y ∈ p0, y.block < W.heap.size := fun y hy => by simpa using hW'.lt y (by simp [hy])
  have b1 := bounds_u8 w1
  unfold IntKind.has at hW0 hS hT hK hN
  simp only [IntKind.min, IntKind.max, IntKind.signed, IntKind.bits] at hW0 hS hT hK hN
  obtain ⟨S, rfl⟩ : ∃ s : Nat, S = s := ⟨S.toNat, by simp at hS; omega⟩
  obtain ⟨T, rfl⟩ : ∃ s : Nat, T = s := ⟨T.toNat, by simp at hT; omega⟩
  obtain ⟨K, rfl⟩ : ∃ s : Nat, K = s := ⟨K.toNat, by simp at hK; omega⟩
  obtain ⟨how, rfl⟩ : ∃ s : Nat, how = s := ⟨how.toNat, by omega⟩
  simp at hW0 hS hT hK hN
  refine (law_none Go.Ex.awake_ok Go.Ex.all_ok W0 S T K key tp tl tc x N how W g (by omega) (by omega) (by omega) (by omega) (by omega) (by omega) (by omega) (by omega)).mono fun e W' ⟨he, hb⟩ => ?_
  subst he
  refine ⟨_, rfl, _, _, _, [], _, [], hW', trodAll_mk1 (shut_bool Tryz.underlying4 _), trodAll_cons_mk (Below.trod laidOut (by kernel_rfl) (of_decide_eq_true (by kernel_rfl)) h0 hb hlt) (trodAll_cons_mk (shut_int Tryz.underlying5 w1) trodAll_mk0), rfl, hb.frame _, fun h => by cases h⟩

end Go.Proofs.YteehfknepkpbnaaGreatDoor
