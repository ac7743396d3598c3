/- (*part).num of package tract: the next word as a number, at every line shorter than 4294967281 bytes. -/
import Derived.Test.YteehfknepkpbnaaGreatDoorPart
import Derived.Lib.AtoiAllMem
import Derived.Lib.AtoiErrMem
namespace Go.Proofs.YteehfknepkpbnaaGreatDoor
open Go.RowKit Go.Sort Go.Lib

/-- the number of a word; what is told of one that is none -/
def numV (t : ByteArray) : Nat := match Lib.parseUintB 64 t.data.toList with
  | .ok u => u
  | .range => 18446744073709551615
  | _ => 0
/-- is it no number that is written in the least way? -/
def numBad (t : ByteArray) : Bool := match Lib.parseUintB 64 t.data.toList with
  | .ok u => !(Lib.decDigits u == t.data.toList)
  | _ => true

theorem parseM_le (M : Nat) : ∀ (l : List UInt8) (acc u : Nat), Lib.parseUintM M acc l = .ok u → acc ≤ M → u ≤ M := by
  intro l
  induction l with
  | nil => intro acc u h ha; rw [Lib.parseUintM] at h; cases h; exact ha
  | cons c r ih =>
    intro acc u h ha
    rw [Lib.parseUintM] at h
    split at h
    · split at h
      · cases h
      · split at h
        · cases h
        · exact ih _ _ h (by omega)
    · cases h
theorem numV_lt (t : ByteArray) : numV t < 18446744073709551616 := by
  unfold numV
  split
  · rename_i u h
    unfold Lib.parseUintB at h
    split at h
    · cases h
    · have := parseM_le _ _ _ _ h (Nat.zero_le _)
      omega
  · omega
  · omega

theorem ba_toList (s : ByteArray) : s.toList = s.data.toList := ByteArray.toList_eq s
theorem list_size (s : ByteArray) : s.data.toList.length = s.size := Array.length_toList
theorem wordOf_size (s : ByteArray) : (wordOf s).size ≤ s.size := by
  unfold wordOf
  show (Lib.cut s.data.toList [32]).1.toArray.size ≤ s.size
  unfold Lib.cut
  have := list_size s
  split
  · rw [List.size_toArray, List.length_take]
    omega
  · rw [List.size_toArray]
    show s.data.toList.length ≤ s.size
    omega
theorem restOf_size (s : ByteArray) : (restOf s).size ≤ s.size := by
  unfold restOf
  show (Lib.cut s.data.toList [32]).2.1.toArray.size ≤ s.size
  unfold Lib.cut
  have := list_size s
  split
  · rw [List.size_toArray, List.length_drop]
    omega
  · rw [List.size_toArray]
    exact Nat.zero_le _

theorem pu_ok (t : ByteArray) (hs : t.size < 4294967281) (u : Nat) (h : Lib.parseUintB 64 t.data.toList = .ok u) (w : World) :
    Calls Tryz.prog 38 #[.string t, .int .i64 10, .int .i64 64] w fun e w' => e = .returned (.tuple #[.int .u64 u, .nilIface]) ∧ Below w.heap.size w w' :=
  (Tryz.strconv_ParseUint_10_at64_ok t (by omega) u h w).mono fun e w' ⟨he, hw⟩ => ⟨he, by
    rcases hw with rfl | rfl
    · exact Below.refl _ _
    · exact Lib.bytesWorld_below _ _ _⟩

theorem pu_err (t : ByteArray) (hs : t.size < 4294967281) (h : ∀ u, Lib.parseUintB 64 t.data.toList ≠ .ok u) (w : World) (g : Glb w) :
    Calls Tryz.prog 38 #[.string t, .int .i64 10, .int .i64 64] w fun e w' => ∃ N, e = .returned (.tuple #[.int .u64 (numV t : Nat), .iface 115 (.pointer (some ⟨N, 0, none⟩))]) ∧ Below w.heap.size w w' := by
  cases hp : Lib.parseUintB 64 t.data.toList with
  | ok u => exact absurd hp (h u)
  | range =>
    obtain ⟨tp, p, e⟩ := g.er
    have hn : numV t = 18446744073709551615 := by unfold numV; rw [hp]
    rw [hn]
    exact (Tryz.strconv_ParseUint_10_at64_range_var t (by omega) hp tp p w e).mono fun e w' ⟨N, he, _, _, hb⟩ => ⟨N, he, hb⟩
  | _ =>
    obtain ⟨tp, p, e⟩ := g.es
    have hn : numV t = 0 := by unfold numV; rw [hp]
    rw [hn]
    exact (Tryz.strconv_ParseUint_10_at64_syntax_var t (by omega) hp tp p w e).mono fun e w' ⟨N, he, _, _, hb⟩ => ⟨N, he, hb⟩

set_option maxHeartbeats 2000000 in
set_option maxRecDepth 100000 in
theorem pnum_ok_bad (b : Nat) (s : ByteArray) (w : World) (hp : PartAt b s true w) (hs : s.size < 4294967281) (_hb : 19 ≤ b) (g : Glb w) (u : Nat) (h : Lib.parseUintB 64 (wordOf s).data.toList = .ok u) :
    Calls Tryz.prog 22 #[.pointer (some ⟨b, 0, none⟩)] w fun e w' => e = .returned (.int .u64 u) ∧ PartAt b (restOf s) true w' ∧ Beside b w w' := by
  have H := Lib.hid h
  have HP := Lib.hid hp
  clear h hp
  go_enter Tryz.func22, Tryz.ntmps22
  go_wp2_with fail
  refine (word_any b s true _ HP.out hs g).mono ?_
  rintro e w1 ⟨rfl, hp1, hb1⟩
  go_wp2_with fail
  refine (pu_ok (wordOf s) (by have := wordOf_size s; omega) u H.out _).mono ?_
  rintro e w2 ⟨rfl, hb2⟩
  have hp2 := hp1.below hb2
  have c1 := hp2.c1
  have f1 := hp2.f 1
  have HP2 := Lib.hid hp2
  clear hp2
  go_wp2_with fail
  go_ret
  exact ⟨rfl, HP2.out.set1, (hb1.trans (Beside.of_below hb2)).trans (Beside.of_set b 1 _ _)⟩

set_option maxHeartbeats 2000000 in
set_option maxRecDepth 100000 in
theorem pnum_ok_good (b : Nat) (s : ByteArray) (w : World) (hp : PartAt b s false w) (hs : s.size < 4294967281) (hb : 19 ≤ b) (g : Glb w) (u : Nat) (h : Lib.parseUintB 64 (wordOf s).data.toList = .ok u) :
    Calls Tryz.prog 22 #[.pointer (some ⟨b, 0, none⟩)] w fun e w' => e = .returned (.int .u64 u) ∧ PartAt b (restOf s) (!(Lib.decDigits u == (wordOf s).data.toList)) w' ∧ Beside b w w' := by
  have hu : u < 18446744073709551616 := by
    have := numV_lt (wordOf s)
    unfold numV at this
    rw [h] at this
    exact this
  have H := Lib.hid h
  have HP := Lib.hid hp
  clear h hp
  go_enter Tryz.func22, Tryz.ntmps22
  go_wp2_with fail
  refine (word_any b s false _ HP.out hs g).mono ?_
  rintro e w1 ⟨rfl, hp1, hb1⟩
  have g1 := g.beside hb hb1
  go_wp2_with fail
  refine (pu_ok (wordOf s) (by have := wordOf_size s; omega) u H.out _).mono ?_
  rintro e w2 ⟨rfl, hb2⟩
  have g2 := g1.below g1.size hb2
  have hp2 := hp1.below hb2
  have c1 := hp2.c1
  have HP2 := Lib.hid hp2
  clear hp2
  go_wp2_with fail
  refine (formatUint u hu _ g2.tab).mono ?_
  rintro e w3 ⟨rfl, hb3⟩
  have hp3 := HP2.out.below hb3
  have f3 := hp3.f 1
  have c3 := hp3.c1
  have HP3 := Lib.hid hp3
  clear hp3 c1
  go_wp2_with fail
  go_ret
  refine ⟨rfl, ?_, ((hb1.trans (Beside.of_below hb2)).trans (Beside.of_below hb3)).trans (Beside.of_set b 1 _ _)⟩
  have := HP3.out.set1 (c := !(Lib.decDigits u == (wordOf s).toList))
  rw [ba_toList] at this
  rw [ba_toList]
  exact this

set_option maxHeartbeats 2000000 in
set_option maxRecDepth 100000 in
theorem pnum_err (b : Nat) (s : ByteArray) (bad : Bool) (w : World) (hp : PartAt b s bad w) (hs : s.size < 4294967281) (hb : 19 ≤ b) (g : Glb w) (h : ∀ u, Lib.parseUintB 64 (wordOf s).data.toList ≠ .ok u) :
    Calls Tryz.prog 22 #[.pointer (some ⟨b, 0, none⟩)] w fun e w' => e = .returned (.int .u64 (numV (wordOf s) : Nat)) ∧ PartAt b (restOf s) true w' ∧ Beside b w w' := by
  have H := Lib.hid h
  have HP := Lib.hid hp
  clear h hp
  cases bad
  all_goals
    go_enter Tryz.func22, Tryz.ntmps22
    go_wp2_with fail
    refine (word_any b s _ _ HP.out hs g).mono ?_
    rintro e w1 ⟨rfl, hp1, hb1⟩
    have g1 := g.beside hb hb1
    go_wp2_with fail
    refine (pu_err (wordOf s) (by have := wordOf_size s; omega) H.out _ g1).mono ?_
    rintro e w2 ⟨N, rfl, hb2⟩
    have hp2 := hp1.below hb2
    have c1 := hp2.c1
    have f1 := hp2.f 1
    have HP2 := Lib.hid hp2
    clear hp2
    go_wp2_with fail
    go_ret
    exact ⟨rfl, HP2.out.set1, (hb1.trans (Beside.of_below hb2)).trans (Beside.of_set b 1 _ _)⟩

/-- THE NEXT WORD AS A NUMBER. -/
theorem pnum_any (b : Nat) (s : ByteArray) (bad : Bool) (w : World) (hp : PartAt b s bad w) (hs : s.size < 4294967281) (hb : 19 ≤ b) (g : Glb w) :
    Calls Tryz.prog 22 #[.pointer (some ⟨b, 0, none⟩)] w fun e w' => e = .returned (.int .u64 (numV (wordOf s) : Nat)) ∧ PartAt b (restOf s) (bad || numBad (wordOf s)) w' ∧ Beside b w w' := by
  cases hq : Lib.parseUintB 64 (wordOf s).data.toList with
  | ok u =>
    have h1 : numV (wordOf s) = u := by unfold numV; rw [hq]
    have h2 : numBad (wordOf s) = !(Lib.decDigits u == (wordOf s).data.toList) := by unfold numBad; rw [hq]
    rw [h1, h2]
    cases bad
    · rw [Bool.false_or]; exact pnum_ok_good b s w hp hs hb g u hq
    · rw [Bool.true_or]; exact pnum_ok_bad b s w hp hs hb g u hq
  | range =>
    have h2 : numBad (wordOf s) = true := by unfold numBad; rw [hq]
    rw [h2, Bool.or_true]
    exact pnum_err b s bad w hp hs hb g fun u h => by rw [hq] at h; cases h
  | _ =>
    have h2 : numBad (wordOf s) = true := by unfold numBad; rw [hq]
    rw [h2, Bool.or_true]
    exact pnum_err b s bad w hp hs hb g fun u h => by rw [hq] at h; cases h
#print axioms pnum_any
end Go.Proofs.YteehfknepkpbnaaGreatDoor
