/- What the row's list and the world's shape say of the package variables. -/
import Derived.Test.YteehfknepkpbnaaGreatDoorLawn
import Derived.Test.YteehfknepkpbnaaGreatDoorRows
import Derived.ProofKit
import Derived.OpenShut
import Derived.Lib.LaidU8
import Derived.LaidMore
import Derived.Lay
namespace Go.Proofs.YteehfknepkpbnaaGreatDoor
open Go.ChangeShapes Go.WideShapes Go.ChangeAt Go.RowKit Go.Lib

theorem iface_of_trod {H : Type} {enc : TypeId × Value → H} {P : Program} {w : World} {base : Nat} {sp : Nat → Bool} {held : Bool} {fuel : Nat} {t : TypeId} {ms : Array (String × TypeId)} {cs : List Value} {nm : String} {d : DataW H} {p : List MemPlace}
    (ht : P.underlying t = some (.interface ms)) (h : DataW.trod enc P w base sp held fuel t cs = some (.iface nm d, p)) : ∃ u v, cs = [.iface u v] := by
  cases fuel with
  | zero => simp [DataW.trod] at h
  | succ fuel =>
    unfold DataW.trod at h
    rw [ht] at h
    split at h <;> simp_all

theorem err_reads {W : World} {n : String} {g : Nat} {nm : String} {d : DataW Unit} (hg : Tryz.prog.globalNamed n = some g) (hty : (Tryz.prog.globals[g]?).map (·.type) = some 68) (h : VarReads Tryz.prog W n (.iface nm d)) : ∃ tp p, W.var? Tryz.prog n = some #[.iface tp p] := by
  obtain ⟨g', t, cs, fuel, p, h1, h2, h3, h4⟩ := h
  obtain rfl := Option.some.inj (hg.symm.trans h1)
  obtain rfl := Option.some.inj (hty.symm.trans h2)
  obtain ⟨u, v, e⟩ := iface_of_trod Tryz.underlying68 h4
  exact ⟨u, v, by rw [h3]; congr 1; cases cs; simp_all⟩

theorem pow_reads {W : World} (h : VarReads Tryz.prog W "internal/strconv.uint64pow10" (tabData .u64 Lib.pow10Tab)) : Lib.TabIs Tryz.prog W "internal/strconv.uint64pow10" .u64 Lib.pow10Tab := by
  obtain ⟨g', t, cs, fuel, p, h1, h2, h3, h4⟩ := h
  obtain rfl := Option.some.inj (gPow.symm.trans h1)
  obtain rfl := Option.some.inj ((show (Tryz.prog.globals[2]?).map (·.type) = some 105 by kernel_rfl).symm.trans h2)
  unfold TabIs
  rw [h3, ← cells_of_tab Tryz.underlying105 Tryz.underlying22 (by kernel_rfl) (by kernel_rfl) h4]

/-- an array of strings that reads as these letters -/
theorem strs_of_trod {W : World} {fuel : Nat} {cs : List Value} {ls : List (List UInt8)} {p : List MemPlace}
    (h : DataW.trod (fun _ => ()) Tryz.prog W 0 (fun _ => true) false fuel 48 cs = some (.agg (ls.map fun l => .lit (.string l)), p)) (hl : ls.length = 7) (hc : cs.length = 7) :
    cs = ls.map fun l => .string ⟨l.toArray⟩ := by
  obtain ⟨xs, m, _, ex, _, hxl, hel⟩ := DataW.trod_array Tryz.underlying48 h
  have c9 : Tryz.prog.cellsOf 9 = 1 := by kernel_rfl
  have e3 : (xs.map (·.1)) = ls.map fun l => (.lit (.string l) : DataW Unit) := (DataW.agg.inj (Prod.mk.inj ex).1).symm
  apply List.ext_getElem?
  intro r
  by_cases hr : r < 7
  · have hE := hel r hr
    rw [c9, Nat.mul_one, List.getElem?_eq_getElem (by omega)] at hE
    obtain ⟨s, e1, e2, _⟩ := DataW.trod_string Tryz.underlying9 hE
    have e4 : (xs.map (·.1))[r]? = (ls.map fun l => (DataW.lit (.string l) : DataW Unit))[r]? := by rw [e3]
    rw [List.getElem?_map, List.getElem?_map, List.getElem?_eq_getElem (by omega : r < xs.length), List.getElem?_eq_getElem (by omega : r < ls.length), e2] at e4
    simp only [Option.map_some, Option.some.injEq, DataW.lit.injEq, Lit.string.injEq] at e4
    have h0 : ((cs.drop r).take 1)[0]? = some (.string s) := by rw [e1]; rfl
    have h1 : cs[r]? = some (.string s) := by simpa using h0
    rw [h1, List.getElem?_map, List.getElem?_eq_getElem (by omega : r < ls.length), ← e4]
    rfl
  · rw [List.getElem?_eq_none (by omega), List.getElem?_eq_none (by simp; omega)]

theorem shape0 : ((begin Tryz.prog (fun _ _ => 0) default).world.heap[0]?).bind Obj.row? = some (#[.string ⟨#[]⟩, .string ⟨#[]⟩, .string ⟨#[]⟩, .string ⟨#[]⟩, .string ⟨#[]⟩, .string ⟨#[]⟩, .string ⟨#[]⟩], 48) := by kernel_rfl
theorem shape3 : ((begin Tryz.prog (fun _ _ => 0) default).world.heap[3]?).bind Obj.row? = some (#[.int .i64 0], 3) := by kernel_rfl
theorem shape18 : (((begin Tryz.prog (fun _ _ => 0) default).world.heap[18]?).bind Obj.row?).isSome = true := by kernel_rfl

theorem pow_data : (Rows.laid_internal_strconv_uint64pow10 : DataW Unit) = tabData .u64 Lib.pow10Tab := by kernel_rfl

theorem int_of_cell {P : Program} {w : World} {r : Reach} {b : Nat} {t : TypeId} {k : IntKind} {v : Value} (hu : P.underlying t = some (.int k)) (h : Cell.ok P w r b t v) : ∃ n, v = .int k n ∧ k.has n := by
  unfold Cell.ok at h
  rw [hu] at h
  cases v <;> simp_all

set_option maxRecDepth 100000 in
theorem gv_of {W : World} (hL : laidMetH Tryz.prog Rows.tractNoneRow.laid W) (hs : W.ShapedOpen Tryz.prog) : Gv W := by
  rw [MakeChecks.laidMetH_plain _ _ _ (by kernel_rfl)] at hL
  have hn : Tryz.prog.globals.size = 19 := by kernel_rfl
  obtain ⟨cs, h0, hsz, _⟩ := hs.1 0 _ _ (by omega) shape0
  obtain ⟨c3, h3, hsz3, hok3⟩ := hs.1 3 _ _ (by omega) shape3
  have hlast : 19 ≤ W.heap.size := by
    obtain ⟨⟨z, t⟩, e⟩ := Option.isSome_iff_exists.1 shape18
    obtain ⟨c, h18, _⟩ := hs.1 18 _ _ (by omega) e
    obtain ⟨hlt, _⟩ := Array.getElem?_eq_some_iff.1 h18
    omega
  have hv : W.var? Tryz.prog "anabranch/tract.verbs" = some cs := by
    unfold World.var?
    rw [gVerbs]
    simp only [Option.bind_some, h0]
  have hR := Lib.laidMet.reads hL (n := "anabranch/tract.verbs") (d := Rows.laid_anabranch_tract_verbs) (.tail _ (.tail _ (.tail _ (.tail _ (.tail _ (.tail _ (.tail _ (.tail _ (.tail _ (.tail _ (.tail _ (.tail _ (.head _)))))))))))))
  have hS := Lib.laidMet.reads hL (n := "strconv.ErrSyntax") (d := Rows.laid_strconv_ErrSyntax) (.tail _ (.tail _ (.tail _ (.tail _ (.tail _ (.tail _ (.tail _ (.tail _ (.tail _ (.tail _ (.tail _ (.head _))))))))))))
  have hE := Lib.laidMet.reads hL (n := "strconv.ErrRange") (d := Rows.laid_strconv_ErrRange) (.tail _ (.tail _ (.tail _ (.tail _ (.tail _ (.tail _ (.tail _ (.tail _ (.tail _ (.tail _ (.head _)))))))))))
  have hP := Lib.laidMet.reads hL (n := "internal/strconv.uint64pow10") (d := Rows.laid_internal_strconv_uint64pow10) (.tail _ (.tail _ (.tail _ (.tail _ (.tail _ (.tail _ (.tail _ (.tail _ (.head _)))))))))
  have hverbs : cs = #[.string ⟨#[]⟩, .string ⟨#[115, 101, 116]⟩, .string ⟨#[112, 117, 116]⟩, .string ⟨#[97, 100, 100]⟩, .string ⟨#[100, 114, 111, 112]⟩, .string ⟨#[106, 111, 105, 110]⟩, .string ⟨#[114, 101, 116, 105, 114, 101]⟩] := by
    obtain ⟨g', t, cs', fuel, p, k1, k2, k3, k4⟩ := hR
    obtain rfl := Option.some.inj (gVerbs.symm.trans k1)
    obtain rfl := Option.some.inj ((show (Tryz.prog.globals[0]?).map (·.type) = some 48 by kernel_rfl).symm.trans k2)
    obtain rfl := Option.some.inj (hv.symm.trans k3)
    have := strs_of_trod (ls := [[], [115, 101, 116], [112, 117, 116], [97, 100, 100], [100, 114, 111, 112], [106, 111, 105, 110], [114, 101, 116, 105, 114, 101]]) k4 rfl (by simpa using hsz)
    exact Array.ext' this
  subst hverbs
  obtain ⟨m, hm⟩ : ∃ m : Int, W.cell? ⟨3, 0, none⟩ = some (.int .i64 m) := by
    obtain ⟨ts, hts, _, hcell⟩ := hok3 (by kernel_rfl)
    obtain rfl := Option.some.inj (hts.symm.trans (show Tryz.prog.cellTypes Tryz.prog.depth 3 = some [3] by kernel_rfl))
    obtain ⟨v, hv0⟩ : ∃ v, c3[0]? = some v := ⟨_, Array.getElem?_eq_getElem (by rw [hsz3]; decide)⟩
    obtain ⟨u, hu, hk⟩ := hcell 0 v hv0
    have hu3 : u = 3 := by simpa using hu.symm
    subst hu3
    obtain ⟨n, hn, _⟩ := int_of_cell (P := Tryz.prog) (t := 3) (k := .i64) Tryz.underlying3 hk
    refine ⟨n, ?_⟩
    rw [← hn, ← hv0]
    exact cell_of_row W 3 0 c3 3 (0, 0) h3
  rw [pow_data] at hP
  have g2 := pow_reads hP
  have g3 := err_reads gEs (by kernel_rfl) hS
  have g4 := err_reads gEr (by kernel_rfl) hE
  exact ⟨⟨hlast, g2, g3, g4, ⟨m, hm⟩, hv⟩, h0⟩
end Go.Proofs.YteehfknepkpbnaaGreatDoor
