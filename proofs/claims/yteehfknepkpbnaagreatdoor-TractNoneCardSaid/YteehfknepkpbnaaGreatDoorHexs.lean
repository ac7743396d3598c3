/- hex of package tract, at whatever bytes. -/
import Derived.Test.YteehfknepkpbnaaGreatDoorHex
namespace Go.Proofs.YteehfknepkpbnaaGreatDoor
open Go.RowKit Go.Sort Go.Lib

set_option maxHeartbeats 4000000 in
set_option maxRecDepth 100000 in
theorem hex_nil (w : World) :
    Calls Tryz.prog 19 #[.slice none 0 0] w fun e w' => e = .returned (.string ⟨#[120]⟩) ∧ Below w.heap.size w w' := by
  have hfr := Lib.fresh_isBuilder 66 5 w
  have HF := Lib.hid hfr
  clear hfr
  go_enter Tryz.func19, Tryz.ntmps19
  go_wp2_with fail
  refine (writeByte w.heap.size w.heap.size [] 120 _ HF.out (by simp) (by simp)).mono ?_
  rintro e w1 ⟨rfl, hB1, hb1⟩
  have hbb : Below w.heap.size w w1 := ((Below.refl _ _).alloc (Nat.le_refl _) _).trans hb1
  have HK : Hid (Lib.IsBuilder 66 5 w.heap.size w.heap.size (Lib.byteCells [120]) w1) := Lib.hid (Or.inr hB1)
  clear hB1
  go_wp2_with fail
  refine wp_loop_rounds 1 ?_
  rw [rounds_succ]
  go_wp2_with fail
  refine (Tryz.Builder_String_any w.heap.size w.heap.size [120] _ HK.out hbb.size).mono ?_
  rintro e w2 ⟨rfl, hb2⟩
  go_wp2_with fail
  go_ret
  exact ⟨rfl, hbb.trans hb2⟩

/-- hex at whatever bytes -/
theorem hex_any (v : Value) (l : List UInt8) (w : World) (hl : l.length ≤ 1099511627776) (h : Bytes v l w.heap.size w) (hn : ∀ a c, v = .slice a 0 c → (a = none ∧ c = 0) ∨ ∃ r o, a = some ⟨r, o, none⟩ ∧ r < w.heap.size) :
    Calls Tryz.prog 19 #[v] w fun e w' => e = .returned (.string ⟨(120 :: hexD l).toArray⟩) ∧ Below w.heap.size w w' := by
  rcases h with ⟨a, c, rfl, rfl⟩ | ⟨r, o, c, hr, rfl, hc⟩
  · rcases hn a c rfl with ⟨rfl, rfl⟩ | ⟨r, o, rfl, hr⟩
    · exact hex_nil w
    · exact hex_some r o c [] w hl hr fun j h => by simp at h
  · exact hex_some r o c l w hl hr hc
#print axioms hex_any

theorem hex_key (key : ByteArray) (hk : key.size ≤ 1099511627776) (cap : Nat) (W : World) :
    Calls Tryz.prog 19 #[.slice (some ⟨W.heap.size, 0, none⟩) key.size cap] (Lib.bytesWorld W 5 key) fun e w' => e = .returned (.string ⟨(120 :: hexD key.data.toList).toArray⟩) ∧ Below (Lib.bytesWorld W 5 key).heap.size (Lib.bytesWorld W 5 key) w' := by
  have hs : key.size = key.data.toList.length := (list_size key).symm
  have := hex_some W.heap.size 0 cap key.data.toList (Lib.bytesWorld W 5 key) (by omega) (by rw [Lib.bytesWorld_size]; omega) (fun j h => by
    rw [Nat.zero_add, Lib.bytesWorld_cell W 5 key j (by omega)]
    simp [List.getD_eq_getElem?_getD, List.getElem?_eq_getElem h])
  rw [← hs] at this
  exact this

theorem Glb.verb {w : World} (g : Glb w) (i : Nat) (v : Value) (h : (#[.string ⟨#[]⟩, .string ⟨#[115, 101, 116]⟩, .string ⟨#[112, 117, 116]⟩, .string ⟨#[97, 100, 100]⟩, .string ⟨#[100, 114, 111, 112]⟩, .string ⟨#[106, 111, 105, 110]⟩, .string ⟨#[114, 101, 116, 105, 114, 101]⟩] : Array Value)[i]? = some v) : w.cell? ⟨0, i, none⟩ = some v := by
  have := g.verbs
  unfold World.var? at this
  simp only [gVerbs, Option.bind_some] at this
  unfold World.cell?
  split at this
  · rename_i cs el fz hb
    cases this
    simp only [hb]
    exact h
  · cases this

end Go.Proofs.YteehfknepkpbnaaGreatDoor
