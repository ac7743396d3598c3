/- The executor, text Xc. -/
import Derived.Test.YteehfknepkpbnaaGreatDoorXb
import Derived.MapKept
import Derived.Laws.RangeString
import Derived.Laws.Append
/-! Conversions. -/
namespace Go.Ex
section
variable {P : Program} {D : Nat → Option Blk} {n : Nat} {h : H} {ρ : Rn} {w : World} {m : M} {o : Oper} {a : Act}

theorem tsome_some {t : TypeId} (e : tsome P t = true) : ∃ d, P.underlying t = some d := Option.isSome_iff_exists.1 e

theorem run_cint {src dst : TypeId} {k j : IntKind} {i : Int} (hs : tsome P src = true) (hd : P.underlying dst = some (.int k)) :
    (convert src dst (.int j i)).run P w = .ok (.int k (k.wrap i)) w := by
  obtain ⟨d, hd'⟩ := tsome_some hs
  simp [convert, rU hd', rU hd, Conv.intToInt]

theorem run_cstr {src dst : TypeId} {s : ByteArray} (hs : tsome P src = true) (hd : P.underlying dst = some .string) :
    (convert src dst (.string s)).run P w = .ok (.string s) w := by
  obtain ⟨d, hd'⟩ := tsome_some hs
  simp [convert, rU hd', rU hd]

theorem run_cbytes {src dst el : TypeId} {s : ByteArray} (hs : tsome P src = true) (hd : P.underlying dst = some (.slice el)) (he : P.underlying el = some (.int .u8)) :
    (convert src dst (.string s)).run P w = (Conv.stringToBytes el s).run P w := by
  obtain ⟨d, hd'⟩ := tsome_some hs
  simp [convert, rU hd', rU hd, rU he]

theorem run_cslice {t el : TypeId} {A : Addr} {l c : Nat} (hd : P.underlying t = some (.slice el)) (he : P.underlying el = some (.int .u8)) :
    (convert t t (.slice (some A) l c)).run P w = ((markStringish A).run P w).andThen fun _ w' => .ok (.slice (some A) l c) w' := by
  simp [convert, rU hd, rU he]

theorem convA_ok (p : Pre P D h ρ w m a) {src dst : TypeId} {x : Operand} (ho : o.op = .convert src dst x) {v : AV} (hv : cv ρ v = some (a.eval x)) : OkR P D n h ρ w o a (convA P h n src dst v) := by
  have hx : ∀ {V : Value} {r : AV}, (convert src dst (a.eval x)).run P w = .ok V w → cv ρ r = some V → OkR P D n h ρ w o a (.ok r []) := fun {V r} hr hc => by
    refine okR_pure p (w' := w) ?_ (SameW.refl w) hc
    simp only [execOp, ho]
    exact run_v hr
  have hx0 : ∀ {V : Value} {w' : World}, (convert src dst (a.eval x)).run P w = .ok V w' → (execOp a.eval o).run P w = .ok (.value V) w' := fun {V w'} hr => by
    simp only [execOp, ho]
    exact run_v hr
  unfold convA
  split
  · rename_i k hd
    split
    · rename_i hs
      split
      · rename_i j y
        refine okR_ofO fun r e => hx ?_ (wrapN_ok ρ e)
        rw [cv_nat hv]; exact run_cint hs hd
      · rename_i j y
        refine hx ?_ (cv_ofIw ρ k _)
        have : a.eval x = .int j (.negSucc y) := by rw [cv] at hv; exact inj_some hv
        rw [this]; exact run_cint hs hd
      · trivial
    · trivial
  · rename_i hd
    split
    · rename_i s
      split
      · rename_i hs
        obtain ⟨hb, hV⟩ := cv_str hv
        refine hx (V := a.eval x) ?_ hv
        rw [hV]; exact run_cstr hs hd
      · trivial
    · rename_i hns
      split
      · rename_i el hu
        split
        · rename_i he
          split
          · rename_i k hl
            split
            · rename_i s e
              cases hc : slCells h 1 v k with
              | none => rw [hc] at e; cases e
              | some cs =>
                rw [hc] at e
                obtain ⟨A, c, hV⟩ := lenA_ok hl hv
                rcases slCells_ok (P := P) p.sim hc hv with ⟨L, l1, ⟨A', l', c', hV', hr⟩, l3⟩ | ⟨rfl, hV'⟩
                · rw [hV] at hV'
                  cases hV'
                  obtain ⟨hb, hL⟩ := bytesUp_ok e l1
                  subst hL
                  have := run_bytesToString (P := P) w A' k c (s.map Int.ofNat) (by rw [Nat.mul_one] at hr; exact hr)
                  have hf := foldl_push s []
                  have h0 : toBA [] = ByteArray.empty := rfl
                  rw [h0, List.nil_append] at hf
                  rw [hf] at this
                  refine hx ?_ (cv_str_mk hb)
                  rw [hV, run_convert_bytes_string w src dst el _ _ _ hu he hd]
                  exact this
                · have hs : s = [] := by
                    have : bytesUp [] = some s := e
                    rw [bytesUp] at this; cases this; rfl
                  subst hs
                  have h0 : toBA [] = ByteArray.empty := rfl
                  refine hx (V := .string ByteArray.empty) ?_ (by rw [← h0]; exact cv_str_mk fun y hy => by simp at hy)
                  rw [hV, run_convert_bytes_string w src dst el _ _ _ hu he hd]
                  rcases hV' with hV' | ⟨A', c', hV'⟩
                  · rw [hV] at hV'; cases hV'
                    simp [Conv.bytesToString]
                  · rw [hV] at hV'; cases hV'
                    exact run_bytesToString w A' 0 c [] (run_loadCells_list w A' [] fun j V hj => by simp at hj)
            · trivial
          · trivial
        · trivial
      · trivial
  · rename_i el hd
    split
    · rename_i s
      split
      · rename_i he hs
        split
        · rename_i hsz
          intro fr
          obtain ⟨hb, hV⟩ := cv_str hv
          obtain ⟨cap, hcap⟩ : ∃ c, c = (Question.appendCap (toBA s).size 0 el).cut (w.tape w.drawn (.appendCap (toBA s).size 0 el)) := ⟨_, rfl⟩
          have hle : (toBA s).size ≤ cap := by rw [hcap]; exact cut_cap _ _ _ _
          rw [toBA_size] at hle
          have hcells := toBA_cells hb
          obtain ⟨C, hC⟩ : ∃ C, C = ((s.map Int.ofNat).map (Value.int .u8)).toArray ++ Array.replicate (cap - s.length) (Value.int .u8 0) := ⟨_, rfl⟩
          have hCs : C.size = cap := by rw [hC]; simp; omega
          obtain ⟨w1, e1, e2, e3, e4, e5⟩ : ∃ w1 : World, w1.heap = w.heap.push (.cells C el) ∧ w1.os = w.os ∧ w1.tape = w.tape ∧ w1.output = w.output ∧
              (newRow el ((toBA s).data.map (fun b => Value.int .u8 b.toNat) ++ Array.replicate (cap - (toBA s).size) (Value.int .u8 0))).run P w.drew = .ok ⟨w.heap.size, 0, none⟩ w1 := by
            refine ⟨w.drew.alloc (.cells C el), rfl, rfl, rfl, rfl, ?_⟩
            rw [hcells, toBA_size, ← hC]
            simp [newRow]
          have hpush : w1.heap[(⟨w.heap.size, 0, none⟩ : Addr).block]? = some (.cells C el (0, 0)) := by
            rw [e1, Array.getElem?_push, if_pos rfl]
          obtain ⟨w', fz', r1, r2, r3, r4, r5, r6, r7, r8⟩ := run_mark_stringish (P := P) hpush (.inl rfl)
          have hw' : w'.heap = w.heap.push (.cells C el fz') := by
            apply Array.ext_getElem?
            intro X
            by_cases hX : X = w.heap.size
            · subst hX
              rw [Array.getElem?_push, if_pos rfl]; exact r2
            · rw [r4 X hX, Array.getElem?_push, if_neg hX, e1, Array.getElem?_push, if_neg hX]
          refine ⟨ρ.put n ⟨w.heap.size, 0, cap, 1⟩, w', .slice (some ⟨w.heap.size, 0, none⟩) s.length cap, .inl (hx0 ?_), ?_, ext_cells (C := C) (fz := fz') p.sim fr hw' (r6.trans e2) (r7.trans e3) (r8.trans e4) (by omega) (by omega) (.inr r3) ?_⟩
          · rw [hV, run_cbytes hs hd he]
            have hf : (Question.appendCap s.length 0 el).forced = false := rfl
            rw [toBA_size] at hcap e5
            simp only [Conv.stringToBytes, Sem.run_bind, run_choose_drew, toBA_size, hf, Bool.false_eq_true, if_false, Result.andThen_ok, ← hcap, e5, r1, Sem.run_pure]
          · have := cv_slU_mk (ρ := ρ.put n ⟨w.heap.size, 0, cap, 1⟩) (b := n) (k := 0) (z := 1) (len := s.length) (Rn.put_at _ _ _) rfl (by simpa using hle)
            simpa using this
          · have := tree_cells (cvs_bytes (ρ := ρ) s) (List.replicate (cap - s.length) (Value.int .u8 0))
            rw [List.length_map] at this
            have hCl : C = ((s.map Int.ofNat).map (Value.int .u8) ++ List.replicate (cap - s.length) (Value.int .u8 0)).toArray := by rw [hC]; simp
            rw [hCl]
            exact this
        · trivial
      · trivial
    · split
      · rename_i b off len hsd he hat
        have hsd := Nat.eq_of_beq_eq_true hsd
        subst hsd
        split
        · rename_i el' n' t hb h100
          have h100 := Nat.le_of_ble_eq_true h100
          obtain ⟨q, C, fz, kk⟩ := p.sim.cells hb
          obtain ⟨q', cap, h1, hV⟩ := slAt_some hat hv
          rw [kk.hp] at h1; cases h1
          obtain ⟨w', fz', r1, r2, r3, r4, r5, r6, r7, r8⟩ := run_mark_stringish (P := P) (A := ⟨q.B, q.d + off, none⟩) kk.hw kk.hz
          refine ⟨w', a.eval x, .inl (hx0 ?_), hv, Ext.touch p.sim hb h100 kk.hp r4 r5 r6 r7 r8 ⟨q, C, fz', kk.hp, r2, kk.hn, kk.hc, .inr r3, kk.cell⟩⟩
          rw [hV, run_cslice hd he, r1]; rfl
        · trivial
      · trivial
  · trivial

theorem oConvert_ok (p : Pre P D h ρ w m a) {src dst : TypeId} {x : Operand} (ho : o.op = .convert src dst x) : OkR P D n h ρ w o a (oConvert src dst x P m h n) :=
  okR_w1 p fun _ hv => convA_ok p ho hv
end
end Go.Ex

/-! Maps. -/
namespace Go.Ex

theorem keyT_some {P : Program} {t : TypeId} {d : TypeDesc} {et : TypeId} (e : keyT P t = some (d, et)) : ∃ kt, P.underlying t = some (.map kt et) ∧ P.underlying kt = some d ∧ (d = .string ∨ ∃ k, d = .int k) := by
  unfold keyT at e
  split at e
  · rename_i kt et' hu
    split at e
    · rename_i hk; cases e; exact ⟨kt, hu, hk, .inl rfl⟩
    · rename_i k hk; cases e; exact ⟨kt, hu, hk, .inr ⟨k, rfl⟩⟩
    · cases e
  · cases e

theorem keyNow_ok {ρ : Rn} {d : TypeDesc} {x y : AV} {X Y : Value} {b : Bool} (e : keyNow d x y = some b) (hx : cv ρ x = some X) (hy : cv ρ y = some Y) :
    Instr.sameNow d X Y = some b ∧ (b = true → x = y) := by
  unfold keyNow at e
  split at e
  · rename_i k k1 a k2 c
    cases hk : kbeq k1 k2 with
    | false => rw [hk] at e; cases e
    | true =>
      rw [hk] at e; cases e
      have := kbeq_eq hk
      subst this
      rw [cv_nat hx, cv_nat hy]
      refine ⟨?_, fun hb => by rw [Nat.eq_of_beq_eq_true hb]⟩
      simp only [Instr.sameNow, if_true, beq_dec]
  · rename_i s u
    cases e
    obtain ⟨h1, rfl⟩ := cv_str hx
    obtain ⟨h2, rfl⟩ := cv_str hy
    refine ⟨?_, fun hb => by rw [leqb_iff.1 hb]⟩
    simp only [Instr.sameNow, Option.some.injEq]
    show ((toBA s).data == (toBA u).data) = _
    rw [Bool.eq_iff_iff, beq_iff_eq, leqb_iff]
    refine ⟨fun hh => ?_, fun hh => by rw [hh]⟩
    have := congrArg Array.toList hh
    exact (map_eq h1 h2).1 (by simpa [toBA] using this)
  · cases e

theorem findK_ok {ρ : Rn} {d : TypeDesc} {k : AV} {K : Value} (hk : cv ρ k = some K) : ∀ {es : List (AV × AV × Nat)} {l : List MapEntry} {i : Nat} {r : Option (Nat × AV)}, findK d k es i = some r → cvEs ρ es = some l →
    (r = none ∧ Instr.findNow d K l i = some none) ∨
    (∃ j v V s, r = some (i + j, v) ∧ Instr.findNow d K l i = some (some (i + j, V)) ∧ cv ρ v = some V ∧ es[j]? = some (k, v, s) ∧ l[j]? = some ⟨K, V, s⟩)
  | [], l, i, r, e, hl => by rw [findK] at e; cases e; rw [cvEs] at hl; cases hl; exact .inl ⟨rfl, rfl⟩
  | (k', v, s) :: es, l, i, r, e, hl => by
    obtain ⟨K', V, u, h1, h2, h3, rfl⟩ := cvEs_cons hl
    rw [findK] at e
    cases hn : keyNow d k k' with
    | none => rw [hn] at e; cases e
    | some b =>
      obtain ⟨g1, g2⟩ := keyNow_ok hn hk h1
      rw [hn] at e
      cases b with
      | true =>
        cases e
        have := g2 rfl
        subst this
        rw [hk] at h1; cases h1
        exact .inr ⟨0, v, V, s, rfl, by rw [Instr.findNow, g1]; rfl, h2, rfl, rfl⟩
      | false =>
        rcases findK_ok hk e h3 with ⟨q1, q2⟩ | ⟨j, v', V', s', q1, q2, q3, q4, q5⟩
        · exact .inl ⟨q1, by rw [Instr.findNow, g1]; exact q2⟩
        · refine .inr ⟨j + 1, v', V', s', ?_, ?_, q3, by simpa using q4, by simpa using q5⟩
          · rw [q1, Nat.succ_eq_add_one]; congr 2; omega
          · rw [Instr.findNow, g1]; simp only []; rw [show i + (j + 1) = i.succ + j from by omega]; exact q2

section
variable {P : Program} {D : Nat → Option Blk} {n : Nat} {h : H} {ρ : Rn} {w : World} {m : M} {o : Oper} {a : Act}

theorem run_checkKey {kt : TypeId} {d : TypeDesc} {b : Bool} {K : Value} (hk : P.underlying kt = some d) (hd : d = .string ∨ ∃ k, d = .int k) : (Instr.checkKey b 10000 kt K).run P w = .ok () w := by
  show (Instr.checkKey b (9999 + 1) kt K).run P w = .ok () w
  unfold Instr.checkKey
  rcases hd with rfl | ⟨k, rfl⟩ <;> simp [rU hk]

theorem run_findKey {kt : TypeId} {d : TypeDesc} {K : Value} {l : List MapEntry} {r : Option (Nat × Value)} (hk : P.underlying kt = some d) (e : Instr.findNow d K l 0 = some r) :
    (Instr.findKey kt K l).run P w = .ok r w := by
  simp [Instr.findKey, rU hk, e]

theorem run_getMap {B clk : Nat} {es : Array MapEntry} (hw : w.heap[B]? = some (.map es clk)) : (getObj B).run P w = .ok (.map es clk) w := by
  simp [getObj, Sem.run, hw]

theorem oLookup_ok (p : Pre P D h ρ w m a) {t : TypeId} {x k : Operand} {ok : Bool} (ho : o.op = .lookup t x k ok) : OkR P D n h ρ w o a (oLookup t x k ok P m h n) :=
  okR_w1 p fun xv hx => okR_w1 p fun kv hk => okR_ofO fun r e => by
    unfold lookupA at e
    split at e
    · cases e
    · rename_i d et hkt
      obtain ⟨kt, hu, huk, hd⟩ := keyT_some hkt
      split at e
      · rename_i es hes hko
        obtain ⟨l, hl, hget⟩ : ∃ l, cvEs ρ es = some l ∧ (a.eval x = .map none ∧ l = [] ∨ ∃ B clk, a.eval x = .map (some B) ∧ w.heap[B]? = some (.map l.toArray clk)) := by
          cases xv <;> try (cases hes; done)
          case nilm => cases hes; exact ⟨[], by rw [cvEs], .inl ⟨by rw [cv] at hx; exact inj_some hx, rfl⟩⟩
          case map b =>
            rw [entriesA] at hes
            split at hes
            · rename_i es' clk hb
              cases hes
              obtain ⟨q, l, h1, h2, h3⟩ := p.sim.ok b _ (un_some hb)
              obtain ⟨q', h4, h5⟩ := cv_map hx
              rw [h1] at h4; cases h4
              exact ⟨l, h2, .inr ⟨_, _, h5, h3⟩⟩
            · cases hes
        have fin : ∀ {V : Value} {v : AV} {b : Bool}, cv ρ v = some V → r = (if ok = true then .tup [v, .bool b] else v) →
            (Instr.lookup t (a.eval x) (a.eval k) ok).run P w = .ok (if ok then .tuple #[V, .bool b] else V) w → OkR P D n h ρ w o a (.ok r []) := fun {V v b} hV hr hrun => by
          refine okR_pure p (w' := w) (V := if ok then .tuple #[V, .bool b] else V) ?_ (SameW.refl w) ?_
          · simp only [execOp, ho]; exact run_v hrun
          · rw [hr]
            cases ok with
            | true => simp only [if_true]; rw [cv, cvs, hV, cvs, cv, cvs]
            | false => exact hV
        split at e
        · rename_i i v hf
          rcases findK_ok hk hf hl with ⟨q1, _⟩ | ⟨j, v', V', s', q1, q2, q3, q4, q5⟩
          · cases q1
          · cases q1
            refine fin (b := true) q3 (by cases ok <;> cases e <;> rfl) ?_
            rcases hget with ⟨hg, rfl⟩ | ⟨B, clk, hg, hw⟩
            · simp at q5
            · simp [Instr.lookup, rU hu, hg, run_getMap hw, Ex.run_checkKey huk hd, Ex.run_findKey huk q2]
        · rename_i hf
          rcases findK_ok hk hf hl with ⟨_, q2⟩ | ⟨j, v', V', s', q1, q2, q3, q4, q5⟩
          · split at e
            · rename_i z hz
              obtain ⟨Z, z1, z2⟩ := rZ (w := w) hz
              refine fin (b := false) (ofC_ok ρ _ _ z2) (by cases ok <;> cases e <;> rfl) ?_
              rcases hget with ⟨hg, rfl⟩ | ⟨B, clk, hg, hw⟩
              · simp [Instr.lookup, rU hu, hg, Ex.run_checkKey huk hd, Ex.run_findKey huk q2, z1]
              · simp [Instr.lookup, rU hu, hg, run_getMap hw, Ex.run_checkKey huk hd, Ex.run_findKey huk q2, z1]
            · cases e
          · cases q1
        · cases e
      · cases e

theorem cvEs_setVal {v : AV} {V : Value} (hv : cv ρ v = some V) : ∀ {es : List (AV × AV × Nat)} {l : List MapEntry} (i : Nat), cvEs ρ es = some l →
    cvEs ρ (setVal v es i) = some (l.modify i fun e => { e with val := V })
  | [], l, i, e => by rw [cvEs] at e; cases e; rw [setVal, cvEs]; simp
  | (k', u, s) :: es, l, i, e => by
    obtain ⟨K', U, r, h1, h2, h3, rfl⟩ := cvEs_cons e
    rw [setVal]
    cases i with
    | zero => rw [Nat.beq_refl]; exact cvEs_mk h1 hv h3
    | succ i => exact cvEs_mk h1 h2 (cvEs_setVal hv i h3)

theorem cvEs_append {x y : List (AV × AV × Nat)} {X Y : List MapEntry} (hx : cvEs ρ x = some X) (hy : cvEs ρ y = some Y) : cvEs ρ (x ++ y) = some (X ++ Y) := by
  induction x generalizing X with
  | nil => rw [cvEs] at hx; cases hx; exact hy
  | cons a x ih =>
    obtain ⟨k', u, s⟩ := a
    obtain ⟨K', U, r, h1, h2, h3, rfl⟩ := cvEs_cons hx
    exact cvEs_mk h1 h2 (ih h3)

theorem cvEs_erase : ∀ {es : List (AV × AV × Nat)} {l : List MapEntry} (i : Nat), cvEs ρ es = some l → cvEs ρ (eraseL es i) = some (l.eraseIdx i)
  | [], l, i, e => by rw [cvEs] at e; cases e; rw [eraseL, cvEs]; simp
  | (k', u, s) :: es, l, i, e => by
    obtain ⟨K', U, r, h1, h2, h3, rfl⟩ := cvEs_cons e
    rw [eraseL]
    cases i with
    | zero => exact h3
    | succ i => exact cvEs_mk h1 h2 (cvEs_erase i h3)

theorem modify_key (l : List MapEntry) (i : Nat) (K V U : Value) (s : Nat) (hl : l[i]? = some ⟨K, U, s⟩) :
    (l.modify i fun e => { e with key := K, val := V }) = l.modify i fun e => { e with val := V } := by
  apply List.ext_getElem?
  intro j
  rw [List.getElem?_modify, List.getElem?_modify]
  by_cases hj : i = j
  · subst hj; simp [hl]
  · simp [hj]

theorem keyStays {d : TypeDesc} {k : AV} {K : Value} (hk : cv ρ k = some K) (hd : keyOk d k = true) : (Instr.keyThatStays K K).run P w = .ok K w := by
  have : Instr.sameBits 10000 K K = true := by
    cases k <;> try (cases d <;> cases hd; done)
    case nat j x => rw [cv_nat hk]; simp [Instr.sameBits]
    case str s =>
      obtain ⟨hb, rfl⟩ := cv_str hk
      show ((toBA s).data == (toBA s).data) = true
      simp
  simp [Instr.keyThatStays, this]

theorem run_setMap {B clk : Nat} {es : Array MapEntry} {ob : Obj} (hw : w.heap[B]? = some (.map es clk)) : (setObj B ob).run P w = .ok () { w with heap := w.heap.setIfInBounds B ob } := by
  simp [setObj, Sem.run, hw]

/-- a map's block is written -/
theorem ext_map (p : Pre P D h ρ w m a) {b : Nat} {es es' : List (AV × AV × Nat)} {clk clk' : Nat} {l' : List MapEntry} {q : Pl} {B : Nat} (hb : getB h b = some (.map es clk)) (h100 : 100 ≤ b) (hq : ρ.blk b = some q)
    (hB : q.B = B) (hlt : B < w.heap.size) (hl : cvEs ρ es' = some l') :
    Ext D n h ρ w n (PT.set (some (.map es' clk')) (path b) h) ρ { w with heap := w.heap.setIfInBounds B (.map l'.toArray clk') } := by
  subst hB
  refine Ext.write p.sim hb h100 hq (fun X hX => ?_) (by simp) rfl rfl rfl ⟨q, l', hq, hl, ?_⟩
  · simp [Ne.symm hX]
  · simp [hlt]

theorem oMapUpdate_ok (p : Pre P D h ρ w m a) {t : TypeId} {x k v : Operand} (ho : o.op = .mapUpdate t x k v ∨ o.op = .insert t x k v) : OkR P D n h ρ w o a (oMapUpdate t x k v P m h n) :=
  okR_w1 p fun xv hx => okR_w1 p fun kv hk => okR_w1 p fun vv hv => by
    unfold mapSetA
    have hx0 : ∀ {w' : World}, (Instr.mapUpdate t (a.eval x) (a.eval k) (a.eval v)).run P w = .ok () w' → (execOp a.eval o).run P w = .ok .skip w' := fun {w'} hr => by
      rcases ho with ho | ho <;> (simp only [execOp, ho]; exact run_u hr)
    split
    · rename_i d et b hkt
      obtain ⟨kt, hu, huk, hd⟩ := keyT_some hkt
      split
      · rename_i es clk hb hko
        rw [Bool.and_eq_true] at hko
        obtain ⟨hko, h100⟩ := hko
        have h100 := Nat.le_of_ble_eq_true h100
        obtain ⟨q, l, h1, h2, h3⟩ := p.sim.ok b _ (un_some hb)
        obtain ⟨q', h4, h5⟩ := cv_map hx
        rw [h1] at h4; cases h4
        have hlt := getElem?_lt h3
        split
        · rename_i i u hf
          rcases findK_ok hk hf h2 with ⟨q1, _⟩ | ⟨j, v', V', s', q1, q2, q3, q4, q5⟩
          · cases q1
          · cases q1
            rw [Nat.zero_add] at q2
            refine ⟨_, undef, .inr ⟨hx0 ?_, rfl⟩, by rw [cv, cvs]; rfl, ext_map p hb h100 h1 rfl hlt (by rw [Nat.zero_add]; exact cvEs_setVal hv j h2)⟩
            have hks := keyStays (P := P) (w := w) hk hko
            have hmod : (l.toArray.modify j fun e => { e with key := a.eval k, val := a.eval v }) = (l.modify j fun e => { e with val := a.eval v }).toArray := by
              rw [← modify_key l j (a.eval k) (a.eval v) V' s' q5]; simp
            have hg : ((l.toArray[j]?).map (·.key)).getD (a.eval k) = a.eval k := by simp [q5]
            simp only [Instr.mapUpdate, Sem.run_bind, rU hu, Result.andThen_ok, h5, run_getMap h3, Ex.run_checkKey huk hd, Ex.run_findKey huk q2, hg, hks, hmod, run_setMap h3]
        · rename_i hf
          rcases findK_ok hk hf h2 with ⟨_, q2⟩ | ⟨j, v', V', s', q1, q2, q3, q4, q5⟩
          · refine ⟨_, undef, .inr ⟨hx0 ?_, rfl⟩, by rw [cv, cvs]; rfl, ext_map p hb h100 h1 rfl hlt (cvEs_append h2 (cvEs_mk hk hv (by rw [cvEs])))⟩
            have hpush : l.toArray.push ({ key := a.eval k, val := a.eval v, born := clk } : MapEntry) = (l ++ [(⟨a.eval k, a.eval v, clk⟩ : MapEntry)]).toArray := by simp
            simp only [Instr.mapUpdate, Sem.run_bind, rU hu, Result.andThen_ok, h5, run_getMap h3, Ex.run_checkKey huk hd, Ex.run_findKey huk q2, hpush, run_setMap h3]
          · cases q1
        · trivial
      · trivial
    · trivial

theorem deleteA_ok (p : Pre P D h ρ w m a) {ts : List TypeId} {args : List AV} {ty : TypeId} {Args : List Value} (hx0 : ∀ {V : Value} {w' : World}, (Builtin.delete_ ts.toArray ty Args.toArray).run P w = .ok V w' → (execOp a.eval o).run P w = .ok (.value V) w')
    (hargs : cvs ρ args = some Args) : OkR P D n h ρ w o a (deleteA P h ts args) := by
  unfold deleteA
  split
  · rename_i t ts' xv kv
    obtain ⟨X, r1, hx, hr, rfl⟩ := cvs_cons hargs
    obtain ⟨K, r2, hk, hr2, rfl⟩ := cvs_cons hr
    rw [cvs] at hr2; cases hr2
    split
    · rename_i d et b hkt
      obtain ⟨kt, hu, huk, hd⟩ := keyT_some hkt
      split
      · rename_i es clk hb hko
        rw [Bool.and_eq_true] at hko
        obtain ⟨hko, h100⟩ := hko
        have h100 := Nat.le_of_ble_eq_true h100
        obtain ⟨q, l, h1, h2, h3⟩ := p.sim.ok b _ (un_some hb)
        obtain ⟨q', h4, h5⟩ := cv_map hx
        rw [h1] at h4; cases h4
        have hlt := getElem?_lt h3
        split
        · rename_i i u hf
          rcases findK_ok hk hf h2 with ⟨q1, _⟩ | ⟨j, v', V', s', q1, q2, q3, q4, q5⟩
          · cases q1
          · cases q1
            rw [Nat.zero_add] at q2
            refine ⟨_, .tuple #[], .inl (hx0 ?_), by rw [cv, cvs], ext_map p hb h100 h1 rfl hlt (by rw [Nat.zero_add]; exact cvEs_erase j h2)⟩
            simp [Builtin.delete_, rU hu, h5, run_getMap h3, Ex.run_checkKey huk hd, Ex.run_findKey huk q2, run_setMap h3]
        · rename_i hf
          rcases findK_ok hk hf h2 with ⟨_, q2⟩ | ⟨j, v', V', s', q1, q2, q3, q4, q5⟩
          · refine ⟨_, .tuple #[], .inl (hx0 ?_), by rw [cv, cvs], ext_map p hb h100 h1 rfl hlt h2⟩
            simp [Builtin.delete_, rU hu, h5, run_getMap h3, Ex.run_checkKey huk hd, Ex.run_findKey huk q2, run_setMap h3]
          · cases q1
        · trivial
      · trivial
    · trivial
  · trivial
end
end Go.Ex

/-! Strings, byte by byte; lengths; the least and the greatest. -/
namespace Go.Ex
section
variable {P : Program} {D : Nat → Option Blk} {n : Nat} {h : H} {ρ : Rn} {w : World} {m : M} {o : Oper} {a : Act}

theorem oRange_ok (p : Pre P D h ρ w m a) {t : TypeId} {x : Operand} (ho : o.op = .range t x) : OkR P D n h ρ w o a (oRange t x P m h n) :=
  okR_w1 p fun v hv => by
    unfold rangeA
    split
    · rename_i s hu
      intro fr
      obtain ⟨hb, hV⟩ := cv_str hv
      refine ⟨ρ.put n ⟨w.heap.size, 0, 0, 0⟩, w.alloc (.stringIter (toBA s) 0), .pointer (some ⟨w.heap.size, 0, none⟩), .inl ?_, by rw [cv, Rn.put_at], ?_⟩
      · simp [execOp, ho, Instr.range, rU hu, hV]
      · exact Ext.alloc p.sim fr rfl rfl rfl rfl rfl fun w'' hw'' => ⟨_, Rn.put_at _ _ _, rfl, hb, hw''⟩
    · trivial

theorem run_setIter {B : Nat} {ob : Obj} {s : ByteArray} {i : Nat} (hw : w.heap[B]? = some (.stringIter s i)) : (setObj B ob).run P w = .ok () { w with heap := w.heap.setIfInBounds B ob } := by
  simp [setObj, Sem.run, hw]
theorem run_getIter {B : Nat} {s : ByteArray} {i : Nat} (hw : w.heap[B]? = some (.stringIter s i)) : (getObj B).run P w = .ok (.stringIter s i) w := by
  simp [getObj, Sem.run, hw]

theorem oNext_ok (p : Pre P D h ρ w m a) {x : Operand} {b : Bool} (ho : o.op = .next x b) : OkR P D n h ρ w o a (oNext x b P m h n) := by
  cases b with
  | false => trivial
  | true =>
    refine okR_w1 p fun v hv => ?_
    unfold nextA
    split
    · rename_i b
      split
      · rename_i s i hb
        obtain ⟨q, h1, h2, h3, h4⟩ := p.sim.ok b _ (un_some hb)
        obtain ⟨q', h5, h6⟩ := cv_ptr hv
        rw [h1] at h5; cases h5
        rw [h2] at h6
        split
        · rename_i hs
          split
          · rename_i hle
            have hle := Nat.le_of_ble_eq_true hle
            refine okR_pure p (w' := w) (V := .tuple #[.bool false]) ?_ (SameW.refl w) (by rw [cv, cvs, cv, cvs])
            have : ¬ i < (toBA s).size := by rw [toBA_size]; omega
            simp only [execOp, ho, h6]
            exact run_v (by simp [Instr.next, run_getIter h4, this])
          · trivial
        · rename_i c hc
          split
          · rename_i hlt
            rw [Bool.and_eq_true] at hlt
            obtain ⟨hlt, h100⟩ := hlt
            have h100 := Nat.le_of_ble_eq_true h100
            have hlt := blt_lt hlt
            obtain ⟨g1, g2⟩ := toBA_get hc h3
            have hz : i < (toBA s).size := by
              rw [toBA_size]
              rcases Nat.lt_or_ge i s.length with h | h
              · exact h
              · rw [List.getElem?_eq_none h] at hc; cases hc
            have g3 : (toBA s)[i] = UInt8.ofNat c := by
              rw [getElem?_pos (toBA s) i hz] at g1; exact Option.some.inj g1
            have hd := decode_ascii (toBA s) i hz (by rw [g3, g2]; exact hlt)
            rw [g3, g2] at hd
            have hB := getElem?_lt h4
            refine ⟨_, .tuple #[.bool true, goInt i, .int .i32 (c : Int)], .inl ?_, ?_, Ext.write (b := b) (k := .iter s (i + 1)) (w' := { w with heap := w.heap.setIfInBounds q.B (.stringIter (toBA s) (i + 1)) }) p.sim hb h100 h1 (fun X hX => ?_) (by simp) rfl rfl rfl ⟨q, h1, h2, h3, ?_⟩⟩
            · simp only [execOp, ho, h6]
              exact run_v (by simp [Instr.next, run_getIter h4, hz, hd, run_setIter h4])
            · rw [cv, cvs, cvs, cvs, cv, cv, cv, cvs]; rfl
            · simp [Ne.symm hX]
            · simp [hB]
          · trivial
      · trivial
    · trivial

/-- what a builtin's answer must be -/
theorem okB (p : Pre P D h ρ w m a) {x : Option AV} {B : Sem Value} (hx0 : ∀ {V : Value} {w' : World}, B.run P w = .ok V w' → (execOp a.eval o).run P w = .ok (.value V) w')
    (e : ∀ v, x = some v → ∃ V, cv ρ v = some V ∧ B.run P w = .ok V w) : OkR P D n h ρ w o a (ofO x) :=
  okR_ofO fun r hr => by
    obtain ⟨V, h1, h2⟩ := e r hr
    exact okR_pure p (hx0 h2) (SameW.refl w) h1

theorem lenB_ok (hs : Sim ρ (un h D) w) {ts : List TypeId} {args : List AV} {ty : TypeId} {Args : List Value} (hargs : cvs ρ args = some Args) {r : AV} (e : lenB P h ts args = some r) :
    ∃ V, cv ρ r = some V ∧ (Builtin.len_ ts.toArray ty Args.toArray).run P w = .ok V w := by
  unfold lenB at e
  split at e
  · rename_i t ts' x
    obtain ⟨X, r1, hx, hr, rfl⟩ := cvs_cons hargs
    rw [cvs] at hr; cases hr
    have fin : ∀ {k : Nat}, r = .nat .i64 k → (Builtin.len_ (t :: ts').toArray ty #[X]).run P w = .ok (goInt k) w → ∃ V, cv ρ r = some V ∧ (Builtin.len_ (t :: ts').toArray ty #[X]).run P w = .ok V w := fun {k} hk hr => ⟨_, by rw [hk]; exact cv_nat' ρ _ _, hr⟩
    split at e
    · rename_i s hu
      obtain ⟨hb, rfl⟩ := cv_str hx
      cases e
      exact fin rfl (by simp [Builtin.len_, rU hu, toBA_size])
    · rename_i n' el hu
      cases e
      exact fin rfl (by simp [Builtin.len_, rU hu])
    · rename_i p' hu
      split at e
      · rename_i n' el hu'
        cases e
        exact fin rfl (by simp [Builtin.len_, rU hu, rU hu'])
      · cases e
    · rename_i hu
      simp only [Option.map_eq_some_iff] at e
      obtain ⟨k, hl, rfl⟩ := e
      obtain ⟨A, c, rfl⟩ := lenA_ok hl hx
      exact fin rfl (by simp [Builtin.len_, rU hu])
    · rename_i k' e' hu
      cases e
      have : X = .map none := by rw [cv] at hx; exact inj_some hx
      subst this
      exact fin rfl (by simp [Builtin.len_, rU hu])
    · rename_i k' e' b hu
      split at e
      · rename_i es clk hb
        cases e
        obtain ⟨q, l, h1, h2, h3⟩ := hs.ok b _ (un_some hb)
        obtain ⟨q', h4, rfl⟩ := cv_map hx
        rw [h1] at h4; cases h4
        have hlen : ∀ {es : List (AV × AV × Nat)} {l : List MapEntry}, cvEs ρ es = some l → l.length = es.length := fun {es} => by
          induction es with
          | nil => intro l e; rw [cvEs] at e; cases e; rfl
          | cons x es ih =>
            intro l e
            obtain ⟨k', u, s⟩ := x
            obtain ⟨K', U, r, g1, g2, g3, rfl⟩ := cvEs_cons e
            simp [ih g3]
        exact fin rfl (by simp [Builtin.len_, rU hu, run_getMap h3, hlen h2])
      · cases e
    · cases e
  · cases e

theorem capB_ok {ts : List TypeId} {args : List AV} {ty : TypeId} {Args : List Value} (hargs : cvs ρ args = some Args) {r : AV} (e : capB P ts args = some r) :
    ∃ V, cv ρ r = some V ∧ (Builtin.cap_ ts.toArray ty Args.toArray).run P w = .ok V w := by
  unfold capB at e
  split at e
  · rename_i t ts' x
    obtain ⟨X, r1, hx, hr, rfl⟩ := cvs_cons hargs
    rw [cvs] at hr; cases hr
    split at e
    · rename_i hu
      cases e
      rw [cv_nils hx]
      exact ⟨_, cv_nat' ρ _ _, by simp [Builtin.cap_, rU hu, goInt]⟩
    · rename_i hu
      cases e
      obtain ⟨q, _, rfl⟩ := cv_sl hx
      exact ⟨_, cv_nat' ρ _ _, by simp [Builtin.cap_, rU hu, goInt]⟩
    · cases e
  · cases e
end
end Go.Ex

/-! The least and the greatest; copying. -/
namespace Go.Ex
section
variable {P : Program} {D : Nat → Option Blk} {n : Nat} {h : H} {ρ : Rn} {w : World} {m : M} {o : Oper} {a : Act}

theorem min2_ok (k : IntKind) (x y : Nat) : (Builtin.min2 (.int k (Int.ofNat x)) (.int k (Int.ofNat y))).run P w = .ok (.int k (Int.ofNat (match Nat.blt y x with | true => y | false => x))) w := by
  cases hb : Nat.blt y x with
  | true => have := blt_lt hb; simp [Builtin.min2, this]
  | false =>
    have : ¬ y < x := fun hh => by rw [show Nat.blt y x = true from by rw [Nat.blt_eq]; exact hh] at hb; cases hb
    simp [Builtin.min2, this]
theorem max2_ok (k : IntKind) (x y : Nat) : (Builtin.max2 (.int k (Int.ofNat x)) (.int k (Int.ofNat y))).run P w = .ok (.int k (Int.ofNat (match Nat.blt x y with | true => y | false => x))) w := by
  cases hb : Nat.blt x y with
  | true => have := blt_lt hb; simp [Builtin.max2, this]
  | false =>
    have : ¬ x < y := fun hh => by rw [show Nat.blt x y = true from by rw [Nat.blt_eq]; exact hh] at hb; cases hb
    simp [Builtin.max2, this]

theorem minN_ok {ts : Array TypeId} {args : List AV} {ty : TypeId} {Args : List Value} (hargs : cvs ρ args = some Args) {r : AV} (e : minN args = some r) :
    ∃ V, cv ρ r = some V ∧ (Builtin.min_ ts ty Args.toArray).run P w = .ok V w := by
  unfold minN at e
  split at e
  · cases e
  · rename_i k x
    cases e
    obtain ⟨X, r1, hx, hr, rfl⟩ := cvs_cons hargs
    rw [cvs] at hr; cases hr
    exact ⟨_, hx, by simp [Builtin.min_]⟩
  · rename_i k x k' y r'
    obtain ⟨X, r1, hx, hr, rfl⟩ := cvs_cons hargs
    obtain ⟨Y, r2, hy, hr, rfl⟩ := cvs_cons hr
    rw [cv_nat hx, cv_nat hy]
    split at e
    · rename_i hk hr
      have := kbeq_eq hk; subst this
      cases e
      rw [cvs] at hr; cases hr
      exact ⟨_, cv_nat' ρ _ _, by simp only [Builtin.min_, List.foldlM_cons, List.foldlM_nil, Sem.run_bind, min2_ok, Result.andThen_ok, Sem.run_pure]; rfl⟩
    · rename_i k'' z hk hr
      have := kbeq_eq hk; subst this
      split at e
      · rename_i hk
        have := kbeq_eq hk; subst this
        cases e
        obtain ⟨Z, r3, hz, hr3, rfl⟩ := cvs_cons ‹cvs ρ [AV.nat k z] = some r2›
        rw [cvs] at hr3; cases hr3
        rw [cv_nat hz]
        exact ⟨_, cv_nat' ρ _ _, by simp only [Builtin.min_, List.foldlM_cons, List.foldlM_nil, Sem.run_bind, min2_ok, Result.andThen_ok, Sem.run_pure]; rfl⟩
      · cases e
    · cases e
  · cases e

theorem maxN_ok {ts : Array TypeId} {args : List AV} {ty : TypeId} {Args : List Value} (hargs : cvs ρ args = some Args) {r : AV} (e : maxN args = some r) :
    ∃ V, cv ρ r = some V ∧ (Builtin.max_ ts ty Args.toArray).run P w = .ok V w := by
  unfold maxN at e
  split at e
  · cases e
  · rename_i k x
    cases e
    obtain ⟨X, r1, hx, hr, rfl⟩ := cvs_cons hargs
    rw [cvs] at hr; cases hr
    exact ⟨_, hx, by simp [Builtin.max_]⟩
  · rename_i k x k' y r'
    obtain ⟨X, r1, hx, hr, rfl⟩ := cvs_cons hargs
    obtain ⟨Y, r2, hy, hr, rfl⟩ := cvs_cons hr
    rw [cv_nat hx, cv_nat hy]
    split at e
    · rename_i hk hr
      have := kbeq_eq hk; subst this
      cases e
      rw [cvs] at hr; cases hr
      exact ⟨_, cv_nat' ρ _ _, by simp only [Builtin.max_, List.foldlM_cons, List.foldlM_nil, Sem.run_bind, max2_ok, Result.andThen_ok, Sem.run_pure]; rfl⟩
    · rename_i k'' z hk hr
      have := kbeq_eq hk; subst this
      split at e
      · rename_i hk
        have := kbeq_eq hk; subst this
        cases e
        obtain ⟨Z, r3, hz, hr3, rfl⟩ := cvs_cons ‹cvs ρ [AV.nat k z] = some r2›
        rw [cvs] at hr3; cases hr3
        rw [cv_nat hz]
        exact ⟨_, cv_nat' ρ _ _, by simp only [Builtin.max_, List.foldlM_cons, List.foldlM_nil, Sem.run_bind, max2_ok, Result.andThen_ok, Sem.run_pure]; rfl⟩
      · cases e
    · cases e
  · cases e

/-- what is copied out of a slice -/
theorem first_sl (hs : Sim ρ (un h D) w) {sz k len : Nat} {x : AV} {cs : List AV} {X : Value} (e : slCells h sz x k = some cs) (hl : lenA x = some len) (hk : k ≤ len) (hx : cv ρ x = some X) :
    ∃ L, cvs ρ cs = some L ∧ (Builtin.firstCells sz k X).run P w = .ok L.toArray w := by
  rcases slCells_ok (P := P) hs e hx with ⟨L, l1, ⟨A, l, c, rfl, hr⟩, _⟩ | ⟨rfl, rfl | ⟨A, c, rfl⟩⟩
  · exact ⟨L, l1, by simp [Builtin.firstCells, hr]⟩
  · exact ⟨[], cvs_nil ρ, by simp [Builtin.firstCells]⟩
  · obtain ⟨A', c', h1⟩ := lenA_ok hl hx
    cases h1
    have : k = 0 := by omega
    subst this
    refine ⟨[], cvs_nil ρ, ?_⟩
    have := run_loadCells_list (P := P) w A [] fun j V hj => by simp at hj
    simpa [Builtin.firstCells] using this

theorem first_str {k : Nat} {s : List Nat} (hs : bytesIn s) : ∃ L, cvs ρ ((s.take k).map (.nat .u8)) = some L ∧ (Builtin.firstCells 1 k (.string (toBA s))).run P w = .ok L.toArray w := by
  refine ⟨_, cvs_bytes _, ?_⟩
  have := toBA_extract (s := s) (l := 0) (hh := k)
  rw [List.drop_zero] at this
  have h2 := toBA_cells (s := s.take k) fun y hy => hs y (List.mem_of_mem_take hy)
  simp only [Builtin.firstCells, this, h2, Sem.run_pure]

theorem copyA_ok (p : Pre P D h ρ w m a) {ts : List TypeId} {args : List AV} {ty : TypeId} {Args : List Value} (hx0 : ∀ {V : Value} {w' : World}, (Builtin.copy_ ts.toArray ty Args.toArray).run P w = .ok V w' → (execOp a.eval o).run P w = .ok (.value V) w')
    (hargs : cvs ρ args = some Args) : OkR P D n h ρ w o a (copyA P h ts args) := by
  unfold copyA
  split
  · rename_i t ts' dv xv
    obtain ⟨Dv, r1, hd, hr, rfl⟩ := cvs_cons hargs
    obtain ⟨X, r2, hx, hr2, rfl⟩ := cvs_cons hr
    rw [cvs] at hr2; cases hr2
    split
    · rename_i el hu
      split
      · trivial
      · rename_i hs
        split
        · rename_i dl sl hdl hsl
          obtain ⟨A, c, hDv⟩ := lenA_ok hdl hd
          subst hDv
          have hlen : (Builtin.lenOf X).run P w = .ok sl w := by
            cases xv <;> try (first | (cases hsl; done) | (obtain ⟨A', c', rfl⟩ := lenA_ok hsl hx; simp [Builtin.lenOf]; done))
            case str s => cases hsl; obtain ⟨hb, rfl⟩ := cv_str hx; simp [Builtin.lenOf, toBA_size]
          dsimp only
          have hm : (Nat.min sl dl) ≤ sl ∧ (Nat.min sl dl) ≤ dl := ⟨Nat.min_le_left _ _, Nat.min_le_right _ _⟩
          generalize hmm : Nat.min sl dl = k at hm ⊢
          split
          · rename_i h0
            have h0 := Nat.eq_of_beq_eq_true h0
            subst h0
            refine okR_pure p (w' := w) (V := goInt 0) (hx0 ?_) (SameW.refl w) (by rw [cv]; rfl)
            have hz : (Builtin.firstCells (tsz P el) 0 X).run P w = .ok #[] w := by
              cases xv <;> try (first | (cases hsl; done) | (
                obtain ⟨A', c', rfl⟩ := lenA_ok hsl hx
                cases A' with
                | none => simp [Builtin.firstCells]
                | some A' =>
                  have := run_loadCells_list (P := P) w A' [] fun j V hj => by simp at hj
                  simpa [Builtin.firstCells] using this))
              case str s =>
                cases hsl
                obtain ⟨hb, rfl⟩ := cv_str hx
                simp [Builtin.firstCells, toBA]
            cases A with
            | none => simp [Builtin.copy_, rU hu, hlen, rS hs, hmm, hz]
            | some A => simp [Builtin.copy_, rU hu, hlen, rS hs, hmm, hz, storeCells]
          · split
            · rename_i cs b off len hcs hat
              obtain ⟨q, cap, h1, hV⟩ := slAt_some hat hd
              cases hV
              split
              · rename_i e c' t' hb hone
                rw [Bool.and_eq_true] at hone
                obtain ⟨hone, h100⟩ := hone
                have h100 := Nat.le_of_ble_eq_true h100
                split
                · rename_i hle
                  have hle : off + cs.length ≤ c' := Nat.le_of_ble_eq_true hle
                  obtain ⟨q', C, fz, kk⟩ := p.sim.cells hb
                  rw [kk.hp] at h1; cases h1
                  have hfirst : ∃ L, cvs ρ cs = some L ∧ (Builtin.firstCells (tsz P el) k X).run P w = .ok L.toArray w := by
                    cases xv <;> try (first | exact first_sl p.sim hcs hsl hm.1 hx | (cases hsl; done))
                    case str s =>
                      obtain ⟨hb, rfl⟩ := cv_str hx
                      dsimp only at hcs
                      split at hcs
                      · rename_i hsz
                        cases hcs
                        rw [Nat.eq_of_beq_eq_true hsz]
                        exact first_str hb
                      · cases hcs
                  obtain ⟨L, l1, l2⟩ := hfirst
                  have hll := cvs_length l1
                  have hn := kk.hn
                  obtain ⟨w', s1, s2, s3, s4, s5, s6, s7⟩ := storeCells_ok (P := P) L 0 w (B := q.B) (off := q.d + off) kk.hw (by omega) kk.hz (allOne_ok hone l1)
                  refine ⟨w', goInt k, .inl (hx0 ?_), by rw [cv]; rfl, Ext.cells p.sim hb h100 kk l1 off hle (by simpa using s2) s3 s4 s5 s6 s7⟩
                  simp [Builtin.copy_, rU hu, hlen, rS hs, hmm, l2, s1]
                · trivial
              · trivial
            · trivial
        · trivial
    · trivial
  · trivial
end
end Go.Ex

/-! Appending. -/
namespace Go.Ex
section
variable {P : Program} {D : Nat → Option Blk} {n : Nat} {h : H} {ρ : Rn} {w : World} {m : M} {o : Oper} {a : Act}

theorem size_zeroCells (Z : Array Value) (k : Nat) : (Builtin.zeroCells Z k).size = k * Z.size := by simp [Builtin.zeroCells]

/-- the second type is no number's -/
def NotInt (P : Program) (u : TypeId) : Prop := ∃ d, P.underlying u = some d ∧ ∀ k, d ≠ .int k

theorem run_append_fit {t u ty el : TypeId} {base : Option Addr} {len cap k : Nat} {X : Value} {L : Array Value} {w' : World} (hu : P.underlying t = some (.slice el)) (hx : NotInt P u) (hs : thas P el = true)
    (hl : (Builtin.lenOf X).run P w = .ok k w) (hfit : len + k ≤ cap) (hf : (Builtin.firstCells (tsz P el) k X).run P w = .ok L w)
    (hst : ∀ A, base = some A → (storeCells (A.add (len * tsz P el)) L.toList).run P w = .ok () w') (hn : base = none → w' = w) :
    (Builtin.append_ #[t, u] ty #[.slice base len cap, X]).run P w = .ok (.slice base (len + k) cap) w' := by
  obtain ⟨d, hd, hni⟩ := hx
  cases base with
  | none => rw [hn rfl]; simp [Builtin.append_, rU hu, rU hd, rS hs, hl, hfit, hf]
  | some A => simp [Builtin.append_, rU hu, rU hd, rS hs, hl, hfit, hf, hst A rfl]

theorem run_append_grow {t u ty el : TypeId} {base : Option Addr} {len cap k : Nat} {X Z : Value} {Lo L : Array Value} {i : TypeInfo} (hu : P.underlying t = some (.slice el)) (hx : NotInt P u)
    (hi : P.info? el = some i) (hz : i.zero = some Z)
    (hl : (Builtin.lenOf X).run P w = .ok k w) (hfit : ¬ len + k ≤ cap) (hb : (len + k) * i.bytes ≤ 1099511627776) (h40 : len + k ≤ 1099511627776)
    (ho : (Builtin.firstCells i.size len (.slice base len cap)).run P w.drew = .ok Lo w.drew) (hf : (Builtin.firstCells i.size k X).run P w.drew = .ok L w.drew) :
    ∃ c w', len + k ≤ c ∧ (Builtin.append_ #[t, u] ty #[.slice base len cap, X]).run P w = .ok (.slice (some ⟨w.heap.size, 0, none⟩) (len + k) c) w' ∧
      w'.heap = w.heap.push (.cells (Lo ++ L ++ Builtin.zeroCells Z.cells (c - (len + k))) el) ∧ w'.os = w.os ∧ w'.tape = w.tape ∧ w'.output = w.output := by
  obtain ⟨d, hd, hni⟩ := hx
  obtain ⟨c, hc⟩ : ∃ c, c = (Question.appendCap (len + k) cap el).cut (w.tape w.drawn (.appendCap (len + k) cap el)) := ⟨_, rfl⟩
  have hle : len + k ≤ c := by rw [hc]; exact cut_cap _ _ _ _
  have hns := nextslicecap_le (need := len + k) (old := cap) (by omega)
  have hnb : Builtin.nextslicecap (len + k) cap * i.bytes ≤ 2 * ((len + k) * i.bytes) := by
    have := Nat.mul_le_mul_right i.bytes hns
    rw [Nat.mul_assoc] at this; exact this
  have hnb' : ¬ 281474976710656 < Builtin.nextslicecap (len + k) cap * i.bytes := by omega
  have h63 : ¬ (9223372036854775807 < (len : Int) + (k : Int) ∧ i.bytes = 0) := by omega
  have hfc : (Question.appendCap (len + k) cap el).forced = false := rfl
  refine ⟨c, w.drew.alloc (.cells (Lo ++ L ++ Builtin.zeroCells Z.cells (c - (len + k))) el), hle, ?_, rfl, rfl, rfl, rfl⟩
  have hzv : (zeroValue el).run P w.drew = .ok Z w.drew := by simp [zeroValue, rI hi, hz]
  have hnew : (newRow el (Lo ++ (L ++ Builtin.zeroCells Z.cells (c - (len + k))))).run P w.drew = .ok ⟨w.heap.size, 0, none⟩ (w.drew.alloc (.cells (Lo ++ L ++ Builtin.zeroCells Z.cells (c - (len + k))) el)) := by
    simp [newRow, Array.append_assoc]
  simp [Builtin.append_, rU hu, rU hd, sizeOf, rI hi, hl, hfit]
  rw [if_neg h63, if_neg hnb', if_neg (by rw [hfc]; exact Bool.false_ne_true), ho, ← hc]
  simp only [Result.andThen_ok, hf, hzv, hnew, Array.append_assoc]

theorem same_drew : SameW w w.drew := ⟨rfl, rfl, rfl, rfl⟩

/-- what is appended -/
theorem srcA_ok (hs : Sim ρ (un h D) w) {sz k : Nat} {x : AV} {cs : List AV} {X : Value} (e : srcA h sz x = some (k, cs)) (hx : cv ρ x = some X) :
    (Builtin.lenOf X).run P w = .ok k w ∧ ∃ L, cvs ρ cs = some L ∧ (Builtin.firstCells sz k X).run P w = .ok L.toArray w := by
  have main : ∀ {k : Nat} {cs : List AV}, lenA x = some k → slCells h sz x k = some cs → (Builtin.lenOf X).run P w = .ok k w ∧ ∃ L, cvs ρ cs = some L ∧ (Builtin.firstCells sz k X).run P w = .ok L.toArray w := fun {k cs} hl hc => by
    refine ⟨?_, first_sl hs hc hl (Nat.le_refl _) hx⟩
    obtain ⟨A, c, rfl⟩ := lenA_ok hl hx
    simp [Builtin.lenOf]
  unfold srcA at e
  split at e
  · rename_i s
    obtain ⟨hb, rfl⟩ := cv_str hx
    split at e
    · rename_i hz
      cases e
      rw [Nat.eq_of_beq_eq_true hz]
      obtain ⟨L, h1, h2⟩ := first_str (P := P) (w := w) (ρ := ρ) (k := s.length) hb
      rw [List.take_length] at h1
      exact ⟨by simp [Builtin.lenOf, toBA_size], L, h1, h2⟩
    · cases e
  · split at e
    · cases e
    · rename_i k' hl
      split at e
      · rename_i cs' hc
        cases e
        exact main hl hc
      · cases e

theorem zok_some {el : TypeId} {i : TypeInfo} (hi : P.info? el = some i) (e : zok P el = true) : ∃ Z, i.zero = some Z ∧ Z.cells.size = i.size := by
  unfold zok at e
  split at e
  · rename_i z hz
    obtain ⟨Z, z1, z2⟩ := rZi hi hz
    obtain ⟨C, c1, c2⟩ := cells_ok (ofC_ok ⟨fun _ => none, fun _ => none⟩ _ _ z2)
    have := cvs_length c1
    have h2 := Nat.eq_of_beq_eq_true e
    refine ⟨Z, z1, ?_⟩
    rw [c2]
    simp only [List.size_toArray]
    rw [this, h2]
    unfold tsz; rw [hi]; rfl
  · cases e

/-- old cells, and new ones behind them -/
theorem get_app {t : PT AV} {cs : List AV} {Lo L : List Value} (ht : ∀ i v, i < Lo.length → PT.get (path i) t = some v → ∃ V, cv ρ v = some V ∧ Lo[i]? = some V) (hc : cvs ρ cs = some L) (rest : Array Value) :
    ∀ i v, i < Lo.length + L.length → PT.get (path i) (putCells t Lo.length cs) = some v → ∃ V, cv ρ v = some V ∧ (Lo.toArray ++ L.toArray ++ rest)[i]? = some V := fun i v hi hv => by
  have hlen := cvs_length hc
  rw [get_putCells] at hv
  by_cases hlt : i < Lo.length
  · rw [if_neg (by omega)] at hv
    obtain ⟨V, h1, h2⟩ := ht i v hlt hv
    refine ⟨V, h1, ?_⟩
    rw [Array.getElem?_append_left (by simp; omega), Array.getElem?_append_left (by simpa using hlt)]
    simpa using h2
  · rw [if_pos (by omega)] at hv
    obtain ⟨V, h1, h2⟩ := cvs_get hc hv
    refine ⟨V, h1, ?_⟩
    rw [Array.getElem?_append_left (by simp; omega), Array.getElem?_append_right (by simpa using hlt)]
    simpa using h2
end
end Go.Ex

/-! Appending, of abstract slices. -/
namespace Go.Ex
section
variable {P : Program} {D : Nat → Option Blk} {n : Nat} {h : H} {ρ : Rn} {w : World} {m : M} {o : Oper} {a : Act}

theorem slCells_len {sz k : Nat} {x : AV} {cs : List AV} (e : slCells h sz x k = some cs) (hl : lenA x = some k) : cs.length = k * sz := by
  have main : ∀ {b off len : Nat}, (match getB h b with | some (.cells _ n t) => cellsOf t n (Nat.mul k sz) off | _ => none) = some cs → slAt sz x = some (b, off, len) → cs.length = k * sz := fun {b off len} e2 _ => by
    split at e2
    · exact (cellsOf_some e2).1
    · cases e2
  cases x <;> try (cases e; done)
  case nils => rw [slCells] at e; cases e; cases hl; simp
  case slE b => rw [slCells] at e; cases e; cases hl; simp
  case sl b off len cap => exact main e rfl
  case slU b k' z len =>
    cases hz : slAt sz (.slU b k' z len) with
    | none => rw [slCells, hz] at e <;> first | (cases e; done) | (intros; contradiction)
    | some bol =>
      obtain ⟨b', off, len'⟩ := bol
      rw [slCells, hz] at e <;> first | exact main e hz | (intros; contradiction)

theorem srcA_len {sz k : Nat} {x : AV} {cs : List AV} (e : srcA h sz x = some (k, cs)) : cs.length = k * sz := by
  unfold srcA at e
  split at e
  · split at e
    · rename_i hz
      cases e
      rw [Nat.eq_of_beq_eq_true hz]; simp
    · cases e
  · split at e
    · cases e
    · rename_i k' hl
      split at e
      · rename_i cs' hc
        cases e
        exact slCells_len hc hl
      · cases e

/-- the new row of an append that does not fit -/
theorem app_grow (hs : Sim ρ (un h D) w) {t u ty el : TypeId} {base : Option Addr} {len cap k : Nat} {X : Value} {x : AV} {cs : List AV} {T : PT AV} {Lo : List Value} {i : TypeInfo}
    (hu : P.underlying t = some (.slice el)) (hx : NotInt P u) (hi : P.info? el = some i) (hz : zok P el = true) (hsrc : srcA h i.size x = some (k, cs)) (hxv : cv ρ x = some X)
    (hgrow : ¬ len + k ≤ cap) (hb : (len + k) * i.bytes ≤ 1099511627776) (h40 : len + k ≤ 1099511627776)
    (hLo : (Builtin.firstCells i.size len (.slice base len cap)).run P w.drew = .ok Lo.toArray w.drew) (hLl : Lo.length = len * i.size)
    (ht : ∀ j v, j < Lo.length → PT.get (path j) T = some v → ∃ V, cv ρ v = some V ∧ Lo[j]? = some V) :
    ∃ c w' C, (Builtin.append_ #[t, u] ty #[.slice base len cap, X]).run P w = .ok (.slice (some ⟨w.heap.size, 0, none⟩) (len + k) c) w' ∧ len + k ≤ c ∧
      w'.heap = w.heap.push (.cells C el) ∧ w'.os = w.os ∧ w'.tape = w.tape ∧ w'.output = w.output ∧ C.size = c * i.size ∧
      ∀ j v, j < (len + k) * i.size → PT.get (path j) (putCells T (len * i.size) cs) = some v → ∃ V, cv ρ v = some V ∧ C[j]? = some V := by
  obtain ⟨hl, _⟩ := srcA_ok (P := P) hs hsrc hxv
  obtain ⟨_, L, l1, l2⟩ := srcA_ok (P := P) (hs.same (same_drew (w := w))) hsrc hxv
  obtain ⟨Z, z1, z2⟩ := zok_some hi hz
  have hlen := srcA_len hsrc
  have hll := cvs_length l1
  obtain ⟨c, w', g1, g2, g3, g4, g5, g6⟩ := run_append_grow (ty := ty) hu hx hi z1 hl hgrow hb h40 hLo l2
  refine ⟨c, w', _, g2, g1, g3, g4, g5, g6, ?_, ?_⟩
  · simp only [Array.size_append, List.size_toArray, size_zeroCells, z2, hLl, hll, hlen]
    rw [← Nat.add_mul, ← Nat.add_mul]
    congr 1; omega
  · intro j v hj hv
    rw [← hLl] at hv
    refine get_app ht l1 _ j v ?_ hv
    rw [hLl, hll, hlen, ← Nat.add_mul]; exact hj

theorem capOk_le {s : AV} {len c cap : Nat} {A : Option Addr} (e : capOk s = true) (hl : lenA s = some len) (hs : cv ρ s = some (.slice A c cap)) : len + 0 ≤ cap := by
  cases s <;> try (cases hl; done)
  case nils => cases hl; omega
  case slE b => cases hl; omega
  case sl b off len' cap' =>
    cases hl
    obtain ⟨q, _, h2⟩ := cv_sl hs
    cases h2
    exact Nat.le_of_ble_eq_true e
  case slU b k z len' =>
    cases hl
    obtain ⟨q, _, _, h1, h2⟩ := cv_slU hs
    cases h2
    omega

/-- behind a slice whose room is drawn -/
theorem app_u (p : Pre P D h ρ w m a) {t u ty el : TypeId} {b k' z len k e sz : Nat} {T t' : PT AV} {X : Value} {x : AV} {cs : List AV} {L : List Value} {i : TypeInfo} {q : Pl} {C : Array Value} {fz : Nat × Nat}
    (kk : CellsAt ρ w b e sz t' q C fz) (hgb : getB h b = some (.cells e sz t')) (h100 : 100 ≤ b) (he : e = el) (hqz : q.z = z) (hqc : k' + len ≤ q.c) (hzi : z = i.size)
    (hx0 : ∀ {V : Value} {w' : World}, (Builtin.append_ #[t, u] ty #[.slice (some ⟨q.B, q.d + k' * z, none⟩) len (q.c - k'), X]).run P w = .ok V w' → (execOp a.eval o).run P w = .ok (.value V) w')
    (hu : P.underlying t = some (.slice el)) (hx : NotInt P u) (hs : thas P el = true) (hi : P.info? el = some i) (hz : zok P el = true) (hsrc : srcA h i.size x = some (k, cs)) (hxv : cv ρ x = some X)
    (hl : (Builtin.lenOf X).run P w = .ok k w) (l1 : cvs ρ cs = some L) (l2 : (Builtin.firstCells i.size k X).run P w = .ok L.toArray w) (hone : allOne cs = true)
    (hb : (len + k) * i.bytes ≤ 1099511627776) (h40 : len + k ≤ 1099511627776)
    (ht : ∀ j v, j < len * z → PT.get (path j) T = some v → ∃ V, cv ρ v = some V ∧ C[q.d + k' * z + j]? = some V) :
    OkR P D n h ρ w o a (.new (.slU n 0 z (len + k)) [(b, none), (n, some (.cells e ((len + k) * z) (putCells T (len * z) cs)))]) := fun fr => by
  have hD : D b = none := by
    cases hd : D b with
    | none => rfl
    | some kb => have := p.dis b (by rw [hd]; simp); rw [hgb] at this; cases this
  have hlen := srcA_len hsrc
  have hll := cvs_length l1
  have hcs := kk.hc
  rw [hqz] at hcs
  have m1 : q.c * z = k' * z + (q.c - k') * z := by rw [← Nat.add_mul]; congr 1; omega
  have m2 : len * z ≤ (q.c - k') * z := Nat.mul_le_mul_right z (by omega)
  by_cases hfit : len + k ≤ q.c - k'
  · have m3 : (len + k) * z ≤ (q.c - k') * z := Nat.mul_le_mul_right z hfit
    have m4 : (len + k) * z = len * z + k * z := Nat.add_mul _ _ _
    rw [← hzi] at hlen
    obtain ⟨w', s1, s2, s3, s4, s5, s6, s7⟩ := storeCells_ok (P := P) L 0 w (B := q.B) (off := q.d + k' * z + len * z) kk.hw (by omega) kk.hz (allOne_ok hone l1)
    rw [Nat.add_zero] at s2
    have hrun := run_append_fit (P := P) (w := w) (ty := ty) (base := some ⟨q.B, q.d + k' * z, none⟩) (w' := w') hu hx hs hl hfit (by
        have : tsz P el = i.size := by unfold tsz; rw [hi]; rfl
        rw [this]; exact l2) (fun A' hA' => by
        cases hA'
        have : tsz P el = i.size := by unfold tsz; rw [hi]; rfl
        rw [add_none, this, ← hzi]
        exact s1) (fun hh => by cases hh)
    refine ⟨ρ.put n ⟨q.B, q.d + k' * z, q.c - k', z⟩, w', _, .inl (hx0 hrun), ?_, ?_⟩
    · have := cv_slU_mk (ρ := ρ.put n ⟨q.B, q.d + k' * z, q.c - k', z⟩) (b := n) (k := 0) (z := z) (len := len + k) (Rn.put_at _ _ _) rfl (by simpa using hfit)
      simpa using this
    · refine Ext.take p.sim fr hgb hD h100 kk.hp (.inl rfl) (fun Y _ hY => s3 Y hY) (by omega) s5 s6 s7 ⟨_, _, fz, Rn.put_at _ _ _, s2, ?_, ?_, ?_, fun j v hj hv => ?_⟩
      · rw [over_size]; show q.d + k' * z + (len + k) * z ≤ C.size; omega
      · rw [over_size]; show q.d + k' * z + (q.c - k') * z ≤ C.size; omega
      · rw [over_size]; exact kk.hz
      · rw [get_putCells] at hv
        show ∃ V, cv _ v = some V ∧ (over C (q.d + k' * z + len * z) L)[q.d + k' * z + j]? = some V
        rw [over_get _ _ _ _ (by omega)]
        by_cases hin : len * z ≤ j ∧ j < len * z + cs.length
        · rw [if_pos hin] at hv
          rw [if_pos (by omega)]
          obtain ⟨V, h4, h5⟩ := cvs_get l1 hv
          exact ⟨V, cv_mono (Rn.put_le (fr.blk n (Nat.le_refl _) (by omega))) _ _ h4, by rw [show q.d + k' * z + j - (q.d + k' * z + len * z) = j - len * z from by omega]; exact h5⟩
        · rw [if_neg hin] at hv
          rw [if_neg (by omega)]
          obtain ⟨V, h4, h5⟩ := ht j v (by omega) hv
          exact ⟨V, cv_mono (Rn.put_le (fr.blk n (Nat.le_refl _) (by omega))) _ _ h4, h5⟩
  · obtain ⟨Lo, hLo⟩ : ∃ Lo, Lo = (C.toList.drop (q.d + k' * z)).take (len * z) := ⟨_, rfl⟩
    have hLl : Lo.length = len * z := by rw [hLo]; simp; omega
    have hLg : ∀ j, j < len * z → Lo[j]? = C[q.d + k' * z + j]? := fun j hj => by
      rw [hLo, List.getElem?_take, if_pos hj, List.getElem?_drop]; simp
    have hold : (Builtin.firstCells i.size len (.slice (some ⟨q.B, q.d + k' * z, none⟩) len (q.c - k'))).run P w.drew = .ok Lo.toArray w.drew := by
      refine run_firstCells_some w.drew i.size len _ len _ Lo (by rw [hLl, hzi]) fun j V hV => ?_
      have hj : j < len * z := by rw [← hLl]; exact getElem?_lt (a := Lo.toArray) (by simpa using hV)
      rw [hLg j hj] at hV
      rw [add_none]
      show w.cell? _ = _
      simp [World.cell?, kk.hw, hV]
    obtain ⟨c, w', C', q1, q2, q3, q4, q5, q6, q7, q8⟩ := app_grow (P := P) (ty := ty) (T := T) (Lo := Lo) p.sim hu hx hi hz hsrc hxv hfit hb h40 hold (by rw [hLl, hzi])
      (fun j v hj hv => by
        obtain ⟨V, h4, h5⟩ := ht j v (by omega) hv
        exact ⟨V, h4, by rw [hLg j (by omega)]; exact h5⟩)
    subst hzi
    subst he
    refine ⟨ρ.put n ⟨w.heap.size, 0, c, i.size⟩, w', _, .inl (hx0 q1), ?_, ?_⟩
    · have := cv_slU_mk (ρ := ρ.put n ⟨w.heap.size, 0, c, i.size⟩) (b := n) (k := 0) (z := i.size) (len := len + k) (Rn.put_at _ _ _) rfl (by simpa using q2)
      simpa using this
    · refine Ext.take p.sim fr hgb hD h100 kk.hp (.inr rfl) (fun Y hY hne => ?_) (by rw [q3]; simp) q4 q5 q6 ⟨_, C', (0, 0), Rn.put_at _ _ _, ?_, ?_, ?_, .inl rfl, fun j v hj hv => ?_⟩
      · rw [q3, Array.getElem?_push, if_neg (by omega)]
      · rw [q3, Array.getElem?_push, if_pos rfl]
      · show 0 + (len + k) * i.size ≤ C'.size
        rw [q7, Nat.zero_add]; exact Nat.mul_le_mul_right _ q2
      · show 0 + c * i.size ≤ C'.size
        omega
      · obtain ⟨V, h4, h5⟩ := q8 j v hj hv
        exact ⟨V, cv_mono (Rn.put_le (fr.blk n (Nat.le_refl _) (by omega))) _ _ h4, by show C'[0 + j]? = _; rw [Nat.zero_add]; exact h5⟩

theorem appendA_ok (p : Pre P D h ρ w m a) {ts : List TypeId} {args : List AV} {ty : TypeId} {Args : List Value} (hx0 : ∀ {V : Value} {w' : World}, (Builtin.append_ ts.toArray ty Args.toArray).run P w = .ok V w' → (execOp a.eval o).run P w = .ok (.value V) w')
    (hargs : cvs ρ args = some Args) : OkR P D n h ρ w o a (appendA P h n ts args) := by
  unfold appendA
  split
  · rename_i t u sv xv
    obtain ⟨S, r1, hsv, hr, rfl⟩ := cvs_cons hargs
    obtain ⟨X, r2, hx, hr2, rfl⟩ := cvs_cons hr
    rw [cvs] at hr2; cases hr2
    split
    · rename_i el hu
      split
      · trivial
      · trivial
      · rename_i hni hnn
        have hN : NotInt P u := by
          cases hd : P.underlying u with
          | none => exact absurd hd hnn
          | some d => exact ⟨d, hd, fun k hk => hni k (by rw [hd, hk])⟩
        split
        · trivial
        · rename_i hsz
          simp only [Bool.and_eq_true] at hsz
          obtain ⟨hs, hpos⟩ := hsz
          have hpos := blt_lt hpos
          obtain ⟨i, hi, his⟩ := has_info hs
          split
          · rename_i k cs len hsrc hlen
            obtain ⟨A, cap, hS⟩ := lenA_ok hlen hsv
            subst hS
            obtain ⟨hl, L, l1, l2⟩ := srcA_ok (P := P) p.sim hsrc hx
            have hcl := srcA_len hsrc
            have hLl := cvs_length l1
            split
            · rename_i h0
              have h0 := Nat.eq_of_beq_eq_true h0
              subst h0
              have hL0 : L = [] := List.eq_nil_of_length_eq_zero (by rw [hLl, hcl]; simp)
              subst hL0
              split
              · rename_i hco
                have hfit := capOk_le hco hlen hsv
                refine okR_pure p (w' := w) (V := .slice A len cap) (hx0 ?_) (SameW.refl w) hsv
                exact run_append_fit (P := P) (ty := ty) hu hN hs hl hfit l2 (fun A' _ => by simp [storeCells]) (fun _ => rfl)
              · trivial
            · rename_i hk0
              split
              · trivial
              · rename_i hg
                simp only [Bool.and_eq_true] at hg
                obtain ⟨⟨⟨g1, g2⟩, g3⟩, g4⟩ := hg
                rw [tinfo_bytes hi] at g1
                have g1 : (len + k) * i.bytes ≤ 1099511627776 := Nat.le_of_ble_eq_true g1
                have g2 : len + k ≤ 1099511627776 := Nat.le_of_ble_eq_true g2
                rw [his] at hsrc l2 hcl
                have hsame := p.sim.same (same_drew (w := w))
                split
                · have hn := cv_nils hsv
                  cases hn
                  cases hlen
                  have hk : k ≠ 0 := fun hk => by rw [hk] at hk0; cases hk0
                  intro fr
                  obtain ⟨c, w', C, q1, q2, q3, q4, q5, q6, q7, q8⟩ := app_grow (P := P) (ty := ty) (T := .leaf) (Lo := []) (len := 0) (cap := 0) (base := none) p.sim hu hN hi g4 hsrc hx (by omega) g1 g2 (by simp [Builtin.firstCells]) (by simp) (fun j v hj => by simp at hj)
                  rw [Nat.zero_add] at q1 q2 q8
                  rw [Nat.zero_mul] at q8
                  refine ⟨ρ.put n ⟨w.heap.size, 0, c, i.size⟩, w', _, .inl (hx0 q1), ?_, ?_⟩
                  · have := cv_slU_mk (ρ := ρ.put n ⟨w.heap.size, 0, c, i.size⟩) (b := n) (k := 0) (z := i.size) (len := k) (Rn.put_at _ _ _) rfl (by simpa using q2)
                    rw [his]
                    simpa using this
                  · rw [his]
                    exact ext_cells (C := C) (fz := (0, 0)) p.sim fr q3 q4 q5 q6 (by rw [q7]; exact Nat.mul_le_mul_right _ q2) (by omega) (.inl rfl) q8
                · rename_i b off len' cap'
                  obtain ⟨q, hq, hV⟩ := cv_sl hsv
                  cases hV
                  cases hlen
                  split
                  · rename_i hfit
                    have hfit : len + k ≤ cap := Nat.le_of_ble_eq_true hfit
                    split
                    · rename_i e c t' hb
                      split
                      · rename_i hle
                        rw [Bool.and_eq_true] at hle
                        obtain ⟨hle, h100⟩ := hle
                        have h100 := Nat.le_of_ble_eq_true h100
                        have hle : off + len * tsz P el + cs.length ≤ c := Nat.le_of_ble_eq_true hle
                        obtain ⟨q', C, fz, kk⟩ := p.sim.cells hb
                        have hqq := kk.hp
                        rw [hq] at hqq; cases hqq
                        have hn := kk.hn
                        obtain ⟨w', s1, s2, s3, s4, s5, s6, s7⟩ := storeCells_ok (P := P) L 0 w (B := q.B) (off := q.d + (off + len * tsz P el)) kk.hw (by omega) kk.hz (allOne_ok g3 l1)
                        refine ⟨w', .slice (some ⟨q.B, q.d + off, none⟩) (len + k) cap, .inl (hx0 ?_), cv_sl_mk hq, Ext.cells p.sim hb h100 kk l1 (off + len * tsz P el) hle (by simpa using s2) s3 s4 s5 s6 s7⟩
                        refine run_append_fit (P := P) (ty := ty) hu hN hs hl hfit (by rw [his]; exact l2) (fun A' hA' => ?_) (fun hh => by cases hh)
                        cases hA'
                        rw [add_none, Nat.add_assoc]
                        exact s1
                      · trivial
                    · trivial
                  · rename_i hnf
                    have hgrow : ¬ len + k ≤ cap := fun hh => by
                      have : Nat.ble (len + k) cap = true := Nat.ble_eq_true_of_le hh
                      have hnf' : Nat.ble (len + k) cap = false := hnf
                      rw [this] at hnf'; cases hnf'
                    split
                    · rename_i old hold
                      intro fr
                      rw [his] at hold
                      obtain ⟨Lo, o1, o2⟩ := first_sl (P := P) hsame hold rfl (Nat.le_refl _) hsv
                      have hol := slCells_len hold rfl
                      have hLo := cvs_length o1
                      obtain ⟨c, w', C, q1, q2, q3, q4, q5, q6, q7, q8⟩ := app_grow (P := P) (ty := ty) (T := putCells .leaf 0 old) (Lo := Lo) p.sim hu hN hi g4 hsrc hx hgrow g1 g2 o2 (by omega)
                        (fun j v hj hv => by
                          have := tree_cells o1 [] j v (by omega) hv
                          simpa using this)
                      refine ⟨ρ.put n ⟨w.heap.size, 0, c, i.size⟩, w', _, .inl (hx0 q1), ?_, ?_⟩
                      · have := cv_slU_mk (ρ := ρ.put n ⟨w.heap.size, 0, c, i.size⟩) (b := n) (k := 0) (z := i.size) (len := len + k) (Rn.put_at _ _ _) rfl (by simpa using q2)
                        rw [his]
                        simpa using this
                      · rw [his]
                        exact ext_cells (C := C) (fz := (0, 0)) p.sim fr q3 q4 q5 q6 (by rw [q7]; exact Nat.mul_le_mul_right _ q2) (by omega) (.inl rfl) q8
                    · trivial
                · rename_i b k' z len'
                  obtain ⟨q, hq, hqz, hqc, hV⟩ := cv_slU hsv
                  cases hV
                  cases hlen
                  split
                  · rename_i e c t' hgb hzz
                    rw [Bool.and_eq_true] at hzz
                    obtain ⟨hzz, h100⟩ := hzz
                    have h100 := Nat.le_of_ble_eq_true h100
                    have hzz := Nat.eq_of_beq_eq_true hzz
                    split
                    · trivial
                    · rename_i he
                      have he := Nat.eq_of_beq_eq_true he
                      obtain ⟨q', C, fz, kk⟩ := p.sim.cells hgb
                      have hqq := kk.hp
                      rw [hq] at hqq; cases hqq
                      have hn := kk.hn
                      split
                      · rename_i hk
                        have hk := Nat.eq_of_beq_eq_true hk
                        subst hk
                        split
                        · rename_i hle
                          have hle : len * z ≤ c := Nat.le_of_ble_eq_true hle
                          refine app_u p kk hgb h100 he hqz hqc (by rw [hzz, his]) hx0 hu hN hs hi g4 hsrc hx hl l1 l2 g3 g1 g2 fun j v hj hv => ?_
                          rw [Nat.zero_mul, Nat.add_zero]
                          exact kk.cell j v (by omega) hv
                        · trivial
                      · split
                        · rename_i old hold
                          refine app_u p kk hgb h100 he hqz hqc (by rw [hzz, his]) hx0 hu hN hs hi g4 hsrc hx hl l1 l2 g3 g1 g2 fun j v hj hv => ?_
                          obtain ⟨o1, o2⟩ := cellsOf_some hold
                          have o1 : old.length = len * z := o1
                          rw [get_putCells, if_pos (by omega), Nat.sub_zero] at hv
                          obtain ⟨c1, c2⟩ := cellOf_some (o2 j v hv)
                          obtain ⟨V, h4, h5⟩ := kk.cell _ v c1 c2
                          exact ⟨V, h4, by rw [Nat.add_assoc]; exact h5⟩
                        · trivial
                  · trivial
                · trivial
          · trivial
    · trivial
  · trivial
end
end Go.Ex

/-! Builtins; every operation. -/
namespace Go.Ex
section
variable {P : Program} {D : Nat → Option Blk} {n : Nat} {h : H} {ρ : Rn} {w : World} {m : M} {o : Oper} {a : Act}

theorem oCall_ok (p : Pre P D h ρ w m a) {c : Call} (ho : o.op = .call c) : OkR P D n h ρ w o a (oCall c P m h n) := by
  unfold oCall
  split
  · rename_i b hcal
    split
    · rename_i args he
      obtain ⟨Args, hA, hE⟩ : ∃ Args, cvs ρ args = some Args ∧ (c.args.map a.eval) = Args.toArray := by
        have := evs_ok p he
        exact ⟨c.args.toList.map a.eval, this, by apply Array.toList_inj.1; simp⟩
      have key : ∀ {B : Sem Value}, (∀ consts, builtin b c.argTypes o.type consts Args.toArray = (do pure (.value (← B)))) → ∀ {V : Value} {w' : World}, B.run P w = .ok V w' → (execOp a.eval o).run P w = .ok (.value V) w' := fun {B} hB {V w'} hr => by
        simp only [execOp, ho, resolve, hcal, hE, pure_bind, invoke, hB]
        exact run_v hr
      unfold builtinA
      split
      · exact okB p (key (B := Builtin.len_ c.argTypes o.type Args.toArray) fun _ => rfl) fun v hv => by
          have := lenB_ok (ty := o.type) p.sim hA hv; simpa using this
      · exact okB p (key (B := Builtin.cap_ c.argTypes o.type Args.toArray) fun _ => rfl) fun v hv => by
          have := capB_ok (P := P) (w := w) (ty := o.type) hA hv; simpa using this
      · exact appendA_ok (ty := o.type) p (key (B := Builtin.append_ c.argTypes.toList.toArray o.type Args.toArray) fun _ => by simp [builtin]) hA
      · exact copyA_ok (ty := o.type) p (key (B := Builtin.copy_ c.argTypes.toList.toArray o.type Args.toArray) fun _ => by simp [builtin]) hA
      · exact deleteA_ok (ty := o.type) p (key (B := Builtin.delete_ c.argTypes.toList.toArray o.type Args.toArray) fun _ => by simp [builtin]) hA
      · exact okB p (key (B := Builtin.min_ c.argTypes o.type Args.toArray) fun _ => rfl) fun v hv => minN_ok hA hv
      · exact okB p (key (B := Builtin.max_ c.argTypes o.type Args.toArray) fun _ => rfl) fun v hv => maxN_ok hA hv
      · trivial
    · trivial
  · trivial

/-- EVERY OPERATION. -/
theorem aop_ok (p : Pre P D h ρ w m a) (o : Oper) : OkR P D n h ρ w o a (aop o.op P m h n) := by
  cases ho : o.op with
  | move x => exact oMove_ok p (.inl ho)
  | assign x => exact oMove_ok p (.inr ho)
  | pick c x y => exact oPick_ok p ho
  | alloc e => exact oAlloc_ok p ho
  | box e x => exact oBox_ok p ho
  | build t ps => exact oBuild_ok p ho
  | buildSlice t l ps => exact oBuildSlice_ok p ho
  | load t x => exact oLoad_ok p ho
  | store t x y => exact oStore_ok p ho
  | nilCheck x => exact oNilCheck_ok p ho
  | binOp op t x y u => exact oBin_ok p ho
  | unOp op t x => exact oUn_ok p ho
  | convert s d x => exact oConvert_ok p ho
  | makeInterface t x => exact oMakeIface_ok p ho
  | makeFunc f x c => exact oMakeFunc_ok p ho
  | makeMap t r => exact oMakeMap_ok p ho
  | makeSlice t l c => exact oMakeSlice_ok p ho
  | slice t x l hh mx => exact oSlice_ok p ho
  | fieldAddr t x f => exact oFieldAddr_ok p ho
  | field t x f => exact oField_ok p ho
  | indexAddr t x i => exact oIndexAddr_ok p ho
  | index t x i => exact oIndex_ok p ho
  | lookup t x k ok => exact oLookup_ok p ho
  | mapUpdate t x k v => exact oMapUpdate_ok p (.inl ho)
  | range t x => exact oRange_ok p ho
  | next x s => exact oNext_ok p ho
  | typeAssert x t u ok => exact oAssert_ok p ho
  | extract t i => exact oExtract_ok p ho
  | call c => exact oCall_ok p ho
  | _ => trivial
end
end Go.Ex
