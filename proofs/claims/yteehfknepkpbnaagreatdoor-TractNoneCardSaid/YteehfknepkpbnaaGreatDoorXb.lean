/- The executor, text Xb. -/
import Derived.Test.YteehfknepkpbnaaGreatDoorXa
import Derived.Lib.Strings
import Derived.Laws.MakeOwn
import Derived.Great.BuildSlice
import Derived.Laws.Slices
import Derived.Laws.BytesString
/-! The operations one by one: parts of values, interface values, functions. -/
namespace Go.Ex
section
variable {P : Program} {D : Nat → Option Blk} {n : Nat} {h : H} {ρ : Rn} {w : World} {m : M} {o : Oper} {a : Act}

theorem cvs_drop {ρ : Rn} : ∀ {vs : List AV} {Vs : List Value} (i : Nat), cvs ρ vs = some Vs → cvs ρ (vs.drop i) = some (Vs.drop i)
  | [], Vs, i, e => by rw [cvs] at e; cases e; simp [cvs]
  | v :: vs, Vs, 0, e => by simpa using e
  | v :: vs, Vs, i + 1, e => by
    obtain ⟨V, Us, h1, h2, rfl⟩ := cvs_cons e
    simpa using cvs_drop i h2
theorem cvs_take {ρ : Rn} : ∀ {vs : List AV} {Vs : List Value} (i : Nat), cvs ρ vs = some Vs → cvs ρ (vs.take i) = some (Vs.take i)
  | [], Vs, i, e => by rw [cvs] at e; cases e; simp [cvs]
  | v :: vs, Vs, 0, e => by simp [cvs]
  | v :: vs, Vs, i + 1, e => by
    obtain ⟨V, Us, h1, h2, rfl⟩ := cvs_cons e
    simpa using cvs_mk h1 (cvs_take i h2)

theorem part_ok {t : TypeId} {cs : List AV} {Cs : List Value} {off : Nat} {r : AV} (e : partA P t cs off = some r) (hc : cvs ρ cs = some Cs) :
    ∃ V, cv ρ r = some V ∧ (part t Cs.toArray off).run P w = .ok V w := by
  unfold partA at e
  cases hs : tsome P t && thas P t with
  | false => rw [hs] at e; cases e
  | true =>
    rw [hs] at e
    obtain ⟨h1, h2⟩ := (Bool.and_eq_true _ _ ▸ hs : tsome P t = true ∧ thas P t = true)
    cases ha : tagg P t with
    | true =>
      rw [ha] at e
      cases e
      refine ⟨.agg ((Cs.drop off).take (tsz P t)).toArray, by rw [cv, cvs_take _ (cvs_drop off hc)], ?_⟩
      simp [part, rAgg h1, ha, rS h2]
    | false =>
      rw [ha] at e
      obtain ⟨V, h3, h4⟩ := cvs_get hc e
      refine ⟨V, h3, ?_⟩
      simp [part, rAgg h1, ha, h4]

theorem oField_ok (p : Pre P D h ρ w m a) {t : TypeId} {x : Operand} {f : Nat} (ho : o.op = .field t x f) : OkR P D n h ρ w o a (oField t x f P m h n) :=
  okR_w1 p fun v hv => okR_ofO fun r e => by
    unfold fieldA at e
    split at e
    · rename_i cs
      split at e
      · rename_i fs hu
        split at e
        · rename_i fd hf
          obtain ⟨Cs, h1, h2⟩ := cv_agg hv
          obtain ⟨V, h3, h4⟩ := part_ok (w := w) e h1
          exact okR_pure p (w' := w) (by simp [execOp, ho, Instr.field, rU hu, hf, h2, asAgg, h4]) (SameW.refl w) h3
        · cases e
      · cases e
    · cases e

theorem toBA_get {s : List Nat} {i b : Nat} (e : s[i]? = some b) (hs : bytesIn s) : (toBA s)[i]? = some (UInt8.ofNat b) ∧ (UInt8.ofNat b).toNat = b := by
  have hb : b < 256 := hs b (List.mem_of_getElem? e)
  refine ⟨?_, by simp; omega⟩
  have hi : i < s.length := by
    rcases Nat.lt_or_ge i s.length with h | h
    · exact h
    · rw [List.getElem?_eq_none h] at e; cases e
  have hz : i < (toBA s).size := by simpa [toBA, ByteArray.size] using hi
  rw [getElem?_pos (toBA s) i hz]
  rw [List.getElem?_eq_getElem hi] at e
  cases e
  show some (((s.map UInt8.ofNat).toArray)[i]'(by simpa using hi)) = _
  simp

theorem oIndex_ok (p : Pre P D h ρ w m a) {t : TypeId} {x i : Operand} (ho : o.op = .index t x i) : OkR P D n h ρ w o a (oIndex t x i P m h n) :=
  okR_w1 p fun v hv => okR_w1 p fun u hu => okR_ofO fun r e => by
    unfold indexA at e
    split at e
    · rename_i k j
      have hj := cv_nat hu
      split at e
      · rename_i s
        split at e
        · rename_i hut
          split at e
          · rename_i b hb
            cases e
            obtain ⟨h1, h2⟩ := cv_str hv
            obtain ⟨h3, h4⟩ := toBA_get hb h1
            refine okR_pure p (w' := w) (V := .int .u8 (.ofNat b)) ?_ (SameW.refl w) (by rw [cv])
            simp [execOp, ho, Instr.index, hj, asIntOf, rU hut, h2, h3, h4]
          · cases e
        · cases e
      · rename_i cs
        split at e
        · rename_i len el hut
          split at e
          · rename_i hlt
            obtain ⟨Cs, h1, h2⟩ := cv_agg hv
            obtain ⟨V, h3, h4⟩ := part_ok (w := w) e h1
            have hel : thas P el = true := by
              unfold partA at e
              cases hs : tsome P el && thas P el with
              | false => rw [hs] at e; cases e
              | true => exact (Bool.and_eq_true _ _ ▸ hs : tsome P el = true ∧ thas P el = true).2
            have hlt' := blt_lt hlt
            refine okR_pure p (w' := w) ?_ (SameW.refl w) h3
            have h4' : (part el Cs.toArray (j * tsz P el)).run P w = .ok V w := h4
            simp [execOp, ho, Instr.index, hj, asIntOf, rU hut, h2, rS hel, h4']
            omega
          · cases e
        · cases e
      · cases e
    · cases e

theorem notIface {t : TypeId} (e : isIface P t = false) : ∃ d, P.underlying t = some d ∧ ∀ ms, d ≠ .interface ms := by
  unfold isIface at e
  split at e
  · cases e
  · cases e
  · rename_i d h1 h2
    cases hd : P.underlying t with
    | none => exact absurd hd h2
    | some d => exact ⟨d, rfl, fun ms hc => h1 ms (by rw [hd, hc])⟩

theorem oMakeIface_ok (p : Pre P D h ρ w m a) {t : TypeId} {x : Operand} (ho : o.op = .makeInterface t x) : OkR P D n h ρ w o a (oMakeIface t x P m h n) := by
  unfold oMakeIface
  cases hi : isIface P t with
  | true => trivial
  | false =>
    obtain ⟨d, h1, h2⟩ := notIface hi
    refine okR_w1 p fun v hv => okR_pure p (w' := w) (V := .iface t (a.eval x)) ?_ (SameW.refl w) (by rw [cv, hv])
    have : (Instr.makeInterface t (a.eval x)).run P w = .ok (.iface t (a.eval x)) w := by
      simp only [Instr.makeInterface, Sem.run_bind, rU h1, Result.andThen_ok]
      cases d <;> first | (exact absurd rfl (h2 _)) | rfl
    simp [execOp, ho, this]

theorem evs_ok (p : Pre P D h ρ w m a) : ∀ {xs : List Operand} {vs : List AV}, evs m xs = some vs → cvs ρ vs = some (xs.map a.eval)
  | [], vs, e => by rw [evs] at e; cases e; simp [cvs]
  | x :: xs, vs, e => by
    rw [evs] at e
    cases h1 : ev x m with
    | none => rw [h1] at e; cases e
    | some v => cases h2 : evs m xs with
      | none => rw [h1, h2] at e; cases e
      | some us =>
        rw [h1, h2] at e; cases e
        exact cvs_mk (p.ev h1) (evs_ok p h2)

theorem oMakeFunc_ok (p : Pre P D h ρ w m a) {f : Fn} {x c : Array Operand} (ho : o.op = .makeFunc f x c) : OkR P D n h ρ w o a (oMakeFunc f x c P m h n) := by
  unfold oMakeFunc
  cases f <;> try trivial
  case func f =>
    cases h1 : evs m x.toList with
    | none => trivial
    | some xs => cases h2 : evs m c.toList with
      | none => trivial
      | some cs =>
        refine okR_pure p (w' := w) (V := .func (.func f) (x.map a.eval) (c.map a.eval)) (by simp [execOp, ho, Instr.makeFunc]) (SameW.refl w) ?_
        rw [cv, evs_ok p h1, evs_ok p h2]
        simp only [Option.some.injEq, Value.func.injEq, true_and]
        constructor <;> (apply Array.ext'; simp)

theorem oAssert_ok (p : Pre P D h ρ w m a) {x : Operand} {xt t : TypeId} {ok : Bool} (ho : o.op = .typeAssert x xt t ok) : OkR P D n h ρ w o a (oAssert x xt t ok P m h n) :=
  okR_w1 p fun v hv => okR_ofO fun r e => by
    unfold assertA at e
    split at e
    · cases e
    · cases e
    · rename_i d h1 h2
      cases hd : P.underlying t with
      | none => exact absurd hd h2
      | some d =>
        have hni : ∀ ms, d ≠ .interface ms := fun ms hc => h1 ms (by rw [hd, hc])
        split at e
        · rename_i u v'
          obtain ⟨U, h3, h4⟩ := cv_ifc hv
          split at e
          · rename_i hb
            have hut : u = t := Nat.eq_of_beq_eq_true hb
            subst hut
            have hrun : (Instr.typeAssert (a.eval x) xt u ok).run P w = .ok (if ok then .tuple #[U, .bool true] else U) w := by
              simp only [Instr.typeAssert, Sem.run_bind, rU hd, Result.andThen_ok, h4]
              cases d <;> first | (exact absurd rfl (hni _)) | (simp; done)
            cases ok
            · simp only [Option.some.injEq] at e; subst e
              exact okR_pure p (w' := w) (by simp [execOp, ho, hrun]) (SameW.refl w) h3
            · simp only [Option.some.injEq] at e; subst e
              refine okR_pure p (w' := w) (V := .tuple #[U, .bool true]) (by simp [execOp, ho, hrun]) (SameW.refl w) ?_
              rw [cv, cvs_mk h3 (cvs_mk (by rw [cv]) (cvs_nil ρ))]
          · rename_i hb
            have hut : u ≠ t := fun hc => by rw [hc, Nat.beq_refl] at hb; cases hb
            split at e
            · rename_i z hz
              cases e
              obtain ⟨Z, h5, h6⟩ := rZ (w := w) hz
              have hrun : (Instr.typeAssert (a.eval x) xt t true).run P w = .ok (.tuple #[Z, .bool false]) w := by
                simp only [Instr.typeAssert, Sem.run_bind, rU hd, Result.andThen_ok, h4]
                cases d <;> first | (exact absurd rfl (hni _)) | (simp [hut, h5]; done)
              refine okR_pure p (w' := w) (V := .tuple #[Z, .bool false]) (by simp [execOp, ho, hrun]) (SameW.refl w) ?_
              rw [cv, cvs_mk (ofC_ok ρ _ _ h6) (cvs_mk (by rw [cv]) (cvs_nil ρ))]
            · cases e
        · split at e
          · rename_i z hz
            cases e
            obtain ⟨Z, h5, h6⟩ := rZ (w := w) hz
            have h4 : a.eval x = .nilIface := by rw [cv] at hv; exact inj_some hv
            have hrun : (Instr.typeAssert (a.eval x) xt t true).run P w = .ok (.tuple #[Z, .bool false]) w := by
              simp only [Instr.typeAssert, Sem.run_bind, rU hd, Result.andThen_ok, h4]
              cases d <;> first | (exact absurd rfl (hni _)) | (simp [h5]; done)
            refine okR_pure p (w' := w) (V := .tuple #[Z, .bool false]) (by simp [execOp, ho, hrun]) (SameW.refl w) ?_
            rw [cv, cvs_mk (ofC_ok ρ _ _ h6) (cvs_mk (by rw [cv]) (cvs_nil ρ))]
          · cases e
        · cases e

end
end Go.Ex

/-! Whole numbers. -/
namespace Go.Ex

theorem pow2_eq (k : IntKind) : pow2 k = 2 ^ k.bits := by cases k <;> rfl
theorem half_eq (k : IntKind) : half k = 2 ^ (k.bits - 1) := by cases k <;> rfl
theorem sgn_eq (k : IntKind) : sgn k = k.signed := by cases k <;> rfl
theorem ibits_eq (k : IntKind) : ibits k = k.bits := by cases k <;> rfl
theorem kbeq_eq {k k' : IntKind} (e : kbeq k k' = true) : k = k' := by cases k <;> cases k' <;> first | rfl | cases e

theorem wrap_u (k : IntKind) (n : Nat) (hs : sgn k = false) : k.wrap (Int.ofNat n) = Int.ofNat (n % pow2 k) := by
  cases k <;> first | (cases hs; done) | (simp [IntKind.wrap, IntKind.bits, IntKind.signed, pow2])
theorem wrap_s (k : IntKind) (n : Nat) (hs : sgn k = true) (hn : n < half k) : k.wrap (Int.ofNat n) = Int.ofNat n := by
  cases k <;> first | (cases hs; done) | (simp [half] at hn; simp [IntKind.wrap, IntKind.bits, IntKind.signed]; omega)

theorem cv_ofI (ρ : Rn) (k : IntKind) (x : Int) : cv ρ (ofI k x) = some (.int k x) := by
  cases x with
  | ofNat n => show cv ρ (.nat k n) = _; rw [cv]
  | negSucc n => show cv ρ (.neg k n) = _; rw [cv]
theorem cv_ofIw (ρ : Rn) (k : IntKind) (x : Int) : cv ρ (ofIw k x) = some (.int k (k.wrap x)) := cv_ofI ρ k _
theorem cv_nat' (ρ : Rn) (k : IntKind) (x : Nat) : cv ρ (.nat k x) = some (.int k (Int.ofNat x)) := by rw [cv]

theorem wrapN_ok (ρ : Rn) {k : IntKind} {n : Nat} {r : AV} (e : wrapN k n = some r) : cv ρ r = some (.int k (k.wrap (Int.ofNat n))) := by
  have e1 : Bool.rec (motive := fun _ => Option AV) (wrapU k n) (strictN n (wrapT k)) (sgn k) = some r := e
  cases hs : sgn k with
  | false =>
    rw [hs] at e1
    have e2 : wrapU k n = some r := e1
    unfold wrapU at e2
    rw [strictN_eq] at e2
    cases e2
    rw [cv_nat', wrap_u k n hs]; rfl
  | true =>
    rw [hs] at e1
    have e2 : strictN n (wrapT k) = some r := e1
    rw [strictN_eq] at e2
    have e3 : Bool.rec (motive := fun _ => Option AV) (some (ofIw k (.ofNat n))) (some (.nat k n)) (Nat.blt n (half k)) = some r := e2
    cases hb : Nat.blt n (half k) with
    | false => rw [hb] at e3; cases e3; exact cv_ofIw ρ k _
    | true => rw [hb] at e3; cases e3; rw [cv_nat', wrap_s k n hs (blt_lt hb)]

theorem someN_ok (ρ : Rn) {k : IntKind} {n : Nat} {r : AV} (e : someN k n = some r) : cv ρ r = some (.int k (Int.ofNat n)) := by
  unfold someN at e
  rw [strictN_eq] at e
  cases e; exact cv_nat' ρ k n
theorem someB_ok (ρ : Rn) {b : Bool} {r : AV} (e : someB b = some r) : cv ρ r = some (.bool b) := by
  cases b <;> (cases e; rw [cv])

theorem ofInt_toNat (k : IntKind) (a : Nat) : (BitVec.ofInt k.bits (Int.ofNat a)).toNat = a % pow2 k := by
  rw [pow2_eq]
  show (BitVec.ofInt k.bits ((a : Nat) : Int)).toNat = _
  rw [BitVec.ofInt_natCast, BitVec.toNat_ofNat]

section
variable {P : Program} {w : World}

theorem beq_dec (a b : Nat) : Nat.beq a b = ((Int.ofNat a : Int) == Int.ofNat b) := by
  rw [Bool.eq_iff_iff]; simp; omega
theorem blt_dec (a b : Nat) : Nat.blt a b = decide ((Int.ofNat a : Int) < Int.ofNat b) := by
  rw [Bool.eq_iff_iff]; simp [Nat.blt_eq]
theorem ble_dec (a b : Nat) : Nat.ble a b = decide ((Int.ofNat a : Int) ≤ Int.ofNat b) := by
  rw [Bool.eq_iff_iff]; simp [Nat.ble_eq]

theorem binN_ok (ρ : Rn) {op : BinOp} {t : TypeId} {k : IntKind} {a b : Nat} {r : AV} (e : binN op k a b = some r) :
    ∃ V, cv ρ r = some V ∧ (binOp op t (.int k (.ofNat a)) (.int k (.ofNat b))).run P w = .ok V w := by
  cases op
  case add =>
    refine ⟨_, wrapN_ok ρ e, ?_⟩
    simp [binOp, Op.intArith]
  case mul =>
    refine ⟨_, wrapN_ok ρ e, ?_⟩
    simp [binOp, Op.intArith]
  case sub =>
    have e1 : Bool.rec (motive := fun _ => Option AV) (some (ofIw k (Int.sub (.ofNat a) (.ofNat b)))) (wrapN k (a - b)) (Nat.ble b a) = some r := e
    cases hb : Nat.ble b a with
    | false => rw [hb] at e1; cases e1; exact ⟨_, cv_ofIw ρ k _, by simp [binOp, Op.intArith]; rfl⟩
    | true =>
      rw [hb] at e1
      refine ⟨_, wrapN_ok ρ e1, ?_⟩
      have hle : b ≤ a := Nat.le_of_ble_eq_true hb
      simp [binOp, Op.intArith, Int.ofNat_sub hle]
  case quo =>
    have e1 : Bool.rec (motive := fun _ => Option AV) (wrapN k (a / b)) none (Nat.beq b 0) = some r := e
    cases hb : Nat.beq b 0 with
    | true => rw [hb] at e1; cases e1
    | false =>
      rw [hb] at e1
      have hn : b ≠ 0 := fun hc => by rw [hc] at hb; cases hb
      refine ⟨_, wrapN_ok ρ e1, ?_⟩
      simp [binOp, Op.intDiv, hn]
  case rem =>
    have e1 : Bool.rec (motive := fun _ => Option AV) (someN k (a % b)) none (Nat.beq b 0) = some r := e
    cases hb : Nat.beq b 0 with
    | true => rw [hb] at e1; cases e1
    | false =>
      rw [hb] at e1
      have hn : b ≠ 0 := fun hc => by rw [hc] at hb; cases hb
      refine ⟨_, someN_ok ρ e1, ?_⟩
      simp [binOp, Op.intDiv, hn]
      exact Int.tmod_eq_emod_of_nonneg (Int.natCast_nonneg a)
  case and =>
    refine ⟨_, wrapN_ok ρ e, ?_⟩
    have h : Nat.land (a % pow2 k) (b % pow2 k) = (BitVec.ofInt k.bits (Int.ofNat a) &&& BitVec.ofInt k.bits (Int.ofNat b)).toNat := by
      rw [BitVec.toNat_and, ofInt_toNat, ofInt_toNat]; rfl
    show _ = Result.ok (Value.int k (k.wrap (Int.ofNat (Nat.land (a % pow2 k) (b % pow2 k))))) w
    rw [h]; simp [binOp, Op.intBits]
  case or =>
    refine ⟨_, wrapN_ok ρ e, ?_⟩
    have h : Nat.lor (a % pow2 k) (b % pow2 k) = (BitVec.ofInt k.bits (Int.ofNat a) ||| BitVec.ofInt k.bits (Int.ofNat b)).toNat := by
      rw [BitVec.toNat_or, ofInt_toNat, ofInt_toNat]; rfl
    show _ = Result.ok (Value.int k (k.wrap (Int.ofNat (Nat.lor (a % pow2 k) (b % pow2 k))))) w
    rw [h]; simp [binOp, Op.intBits]
  case xor =>
    refine ⟨_, wrapN_ok ρ e, ?_⟩
    have h : Nat.xor (a % pow2 k) (b % pow2 k) = (BitVec.ofInt k.bits (Int.ofNat a) ^^^ BitVec.ofInt k.bits (Int.ofNat b)).toNat := by
      rw [BitVec.toNat_xor, ofInt_toNat, ofInt_toNat]; rfl
    show _ = Result.ok (Value.int k (k.wrap (Int.ofNat (Nat.xor (a % pow2 k) (b % pow2 k))))) w
    rw [h]; simp [binOp, Op.intBits]
  case eql => exact ⟨_, someB_ok ρ e, by rw [beq_dec]; simp [binOp, Op.intCmp]⟩
  case neq => exact ⟨_, someB_ok ρ e, by rw [beq_dec]; simp [binOp, Op.intCmp, bne]⟩
  case lss => exact ⟨_, someB_ok ρ e, by rw [blt_dec]; simp [binOp, Op.intCmp]⟩
  case leq => exact ⟨_, someB_ok ρ e, by rw [ble_dec]; simp [binOp, Op.intCmp]⟩
  case gtr => exact ⟨_, someB_ok ρ e, by rw [blt_dec]; simp [binOp, Op.intCmp]⟩
  case geq => exact ⟨_, someB_ok ρ e, by rw [ble_dec]; simp [binOp, Op.intCmp]⟩
  all_goals cases e

theorem binI_ok (ρ : Rn) {op : BinOp} {t : TypeId} {k : IntKind} {a b : Int} {r : AV} (e : binI op k a b = some r) :
    ∃ V, cv ρ r = some V ∧ (binOp op t (.int k a) (.int k b)).run P w = .ok V w := by
  cases op <;> simp only [binI, Option.some.injEq, reduceCtorEq] at e
  case add => subst e; exact ⟨_, cv_ofIw ρ k _, by simp [binOp, Op.intArith]⟩
  case sub => subst e; exact ⟨_, cv_ofIw ρ k _, by simp [binOp, Op.intArith]⟩
  case mul => subst e; exact ⟨_, cv_ofIw ρ k _, by simp [binOp, Op.intArith]⟩
  case quo =>
    split at e
    · cases e
    · rename_i hn; cases e; exact ⟨_, cv_ofIw ρ k _, by simp [binOp, Op.intDiv, hn]⟩
  case rem =>
    split at e
    · cases e
    · rename_i hn; cases e; exact ⟨_, cv_ofI ρ k _, by simp [binOp, Op.intDiv, hn]⟩
  case eql => subst e; exact ⟨_, by rw [cv], by simp [binOp, Op.intCmp]⟩
  case neq => subst e; exact ⟨_, by rw [cv], by simp [binOp, Op.intCmp]⟩
  case lss => subst e; exact ⟨_, by rw [cv], by simp [binOp, Op.intCmp]⟩
  case leq => subst e; exact ⟨_, by rw [cv], by simp [binOp, Op.intCmp]⟩
  case gtr => subst e; exact ⟨_, by rw [cv], by simp [binOp, Op.intCmp]⟩
  case geq => subst e; exact ⟨_, by rw [cv], by simp [binOp, Op.intCmp]⟩

theorem shiftA_ok (ρ : Rn) {op : BinOp} {t : TypeId} {k k' : IntKind} {a b : Nat} {r : AV} (e : shiftA op k a b = some r) :
    ∃ V, cv ρ r = some V ∧ (binOp op t (.int k (.ofNat a)) (.int k' (.ofNat b))).run P w = .ok V w := by
  have hb : ¬ ((b : Int) < 0) := by omega
  cases op <;> simp only [shiftA, reduceCtorEq] at e
  case shl =>
    refine ⟨_, wrapN_ok ρ e, ?_⟩
    simp [binOp, Op.shift, hb, ibits_eq]
  case shr =>
    refine ⟨_, someN_ok ρ e, ?_⟩
    have h2 : (2 : Int) ^ min b k.bits = ((2 ^ min b k.bits : Nat) : Int) := by simp
    have h : (Int.ofNat a).fdiv (2 ^ min b k.bits) = Int.ofNat (a / 2 ^ min b k.bits) := by
      rw [h2, Int.fdiv_eq_ediv_of_nonneg _ (Int.natCast_nonneg _)]
      exact (Int.natCast_ediv a _).symm
    show Sem.run P (Op.shift .shr k (Int.ofNat a) k' (Int.ofNat b)) w = Result.ok (Value.int k (Int.ofNat (a / 2 ^ min b (ibits k)))) w
    rw [ibits_eq, ← h]
    simp [Op.shift, hb]

end
end Go.Ex

/-! Strings, comparisons with nil; the operators. -/
namespace Go.Ex

theorem leqb_iff : ∀ {a b : List Nat}, leqb a b = true ↔ a = b
  | [], [] => by simp [leqb]
  | [], _ :: _ => by simp [leqb]
  | _ :: _, [] => by simp [leqb]
  | x :: a, y :: b => by
    rw [leqb]
    cases h : Nat.beq x y with
    | true => have := Nat.eq_of_beq_eq_true h; subst this; simp [leqb_iff]
    | false =>
      have : x ≠ y := fun e => by rw [e, Nat.beq_refl] at h; cases h
      simp [this]

theorem ofNat_inj {x y : Nat} (hx : x < 256) (hy : y < 256) (e : UInt8.ofNat x = UInt8.ofNat y) : x = y := by
  have := congrArg UInt8.toNat e
  simp at this; omega

theorem bytesIn_tail {x : Nat} {s : List Nat} (h : bytesIn (x :: s)) : x < 256 ∧ bytesIn s := ⟨h x (by simp), fun y hy => h y (by simp [hy])⟩

theorem toBA_list (s : List Nat) : (toBA s).toList = s.map UInt8.ofNat := by rw [Lib.toList_data]; simp [toBA]

theorem map_eq : ∀ {a b : List Nat}, bytesIn a → bytesIn b → (a.map UInt8.ofNat = b.map UInt8.ofNat ↔ a = b)
  | [], [], _, _ => by simp
  | [], _ :: _, _, _ => by simp
  | _ :: _, [], _, _ => by simp
  | x :: a, y :: b, ha, hb => by
    obtain ⟨h1, h2⟩ := bytesIn_tail ha
    obtain ⟨h3, h4⟩ := bytesIn_tail hb
    simp only [List.map_cons, List.cons.injEq, map_eq h2 h4]
    exact ⟨fun e => ⟨ofNat_inj h1 h3 e.1, e.2⟩, fun e => ⟨by rw [e.1], e.2⟩⟩

theorem leqb_bytes {a b : List Nat} (ha : bytesIn a) (hb : bytesIn b) : leqb a b = ((toBA a).toList == (toBA b).toList) := by
  rw [Bool.eq_iff_iff, leqb_iff, toBA_list, toBA_list, beq_iff_eq, map_eq ha hb]

theorem lltb_bytes : ∀ {a b : List Nat}, bytesIn a → bytesIn b → lltb a b = Op.bytesLess (a.map UInt8.ofNat) (b.map UInt8.ofNat)
  | [], [], _, _ => by simp [lltb, Op.bytesLess]
  | [], _ :: _, _, _ => by simp [lltb, Op.bytesLess]
  | _ :: _, [], _, _ => by simp [lltb, Op.bytesLess]
  | x :: a, y :: b, ha, hb => by
    obtain ⟨h1, h2⟩ := bytesIn_tail ha
    obtain ⟨h3, h4⟩ := bytesIn_tail hb
    rw [lltb]
    simp only [List.map_cons, Op.bytesLess]
    have hlt : (UInt8.ofNat x < UInt8.ofNat y) ↔ x < y := by rw [UInt8.lt_iff_toNat_lt]; simp; omega
    have heq : (UInt8.ofNat x == UInt8.ofNat y) = Nat.beq x y := by
      rw [Bool.eq_iff_iff, beq_iff_eq]
      exact ⟨fun e => by rw [ofNat_inj h1 h3 e, Nat.beq_refl], fun e => by rw [Nat.eq_of_beq_eq_true e]⟩
    rw [heq, ← lltb_bytes h2 h4]
    cases hb1 : Nat.blt x y with
    | true => have := blt_lt hb1; simp [hlt, this]
    | false =>
      have : ¬ x < y := fun hc => by rw [← Nat.blt_eq] at hc; rw [hc] at hb1; cases hb1
      simp only [hlt, this, decide_false, Bool.false_or]
      cases Nat.beq x y <;> simp

theorem toBA_size (s : List Nat) : (toBA s).size = s.length := by simp [toBA, ByteArray.size]
theorem toBA_append (a b : List Nat) : toBA a ++ toBA b = toBA (a ++ b) := by
  apply ByteArray.ext
  rw [ByteArray.data_append]
  simp [toBA]
theorem bytesIn_append {a b : List Nat} (ha : bytesIn a) (hb : bytesIn b) : bytesIn (a ++ b) := fun x hx => by
  rcases List.mem_append.1 hx with h | h
  · exact ha x h
  · exact hb x h
theorem cv_str_mk {ρ : Rn} {s : List Nat} (h : bytesIn s) : cv ρ (.str s) = some (.string (toBA s)) := by rw [cv, if_pos h]

section
variable {P : Program} {D : Nat → Option Blk} {n : Nat} {h : H} {ρ : Rn} {w : World} {m : M} {o : Oper} {a : Act}

theorem binS_ok {op : BinOp} {t : TypeId} {x y : List Nat} {r : AV} (e : binS op x y = some r) (hx : bytesIn x) (hy : bytesIn y) :
    ∃ V, cv ρ r = some V ∧ (binOp op t (.string (toBA x)) (.string (toBA y))).run P w = .ok V w := by
  have hl := lltb_bytes hx hy
  rw [← toBA_list, ← toBA_list] at hl
  have hq := leqb_bytes hx hy
  cases op <;> simp only [binS, Option.some.injEq, reduceCtorEq] at e
  case add =>
    cases hs : small x && small y with
    | false => rw [hs] at e; cases e
    | true =>
      rw [hs] at e; cases e
      obtain ⟨h1, h2⟩ := (Bool.and_eq_true _ _ ▸ hs : small x = true ∧ small y = true)
      have h1' := Nat.le_of_ble_eq_true h1
      have h2' := Nat.le_of_ble_eq_true h2
      refine ⟨_, cv_str_mk (bytesIn_append hx hy), ?_⟩
      have hnot : ¬ (((toBA x).size + (toBA y).size : Nat) : Int) > IntKind.i64.max := by
        rw [toBA_size, toBA_size]
        have : IntKind.i64.max = 9223372036854775807 := by decide
        rw [this]; omega
      simp only [binOp, Op.stringOp, if_neg hnot, toBA_append]; rfl
  case eql => subst e; exact ⟨_, by rw [cv], by rw [hq]; simp [binOp, Op.stringOp]⟩
  case neq => subst e; exact ⟨_, by rw [cv], by rw [hq]; simp [binOp, Op.stringOp]⟩
  case lss => subst e; exact ⟨_, by rw [cv], by rw [hl]; simp [binOp, Op.stringOp]⟩
  case leq => subst e; exact ⟨_, by rw [cv], by rw [hl, hq]; simp [binOp, Op.stringOp]⟩
  case gtr => subst e; exact ⟨_, by rw [cv], by rw [hl, hq]; simp [binOp, Op.stringOp]⟩
  case geq => subst e; exact ⟨_, by rw [cv], by rw [hl]; simp [binOp, Op.stringOp]⟩

theorem cv_bool {b : Bool} {V : Value} (e : cv ρ (.bool b) = some V) : V = .bool b := by rw [cv] at e; exact inj_some e
theorem cv_slice {x : AV} {V : Value} (e : cv ρ x = some V) (hx : (∃ b c d f, x = .sl b c d f) ∨ (∃ b c d f, x = .slU b c d f) ∨ ∃ b, x = .slE b) : ∃ A l c, V = .slice (some A) l c := by
  rcases hx with ⟨b, off, len, cap, rfl⟩ | ⟨b, k, z, len, rfl⟩ | ⟨b, rfl⟩
  · rw [cv] at e
    cases hb : ρ.blk b with
    | none => rw [hb] at e; cases e
    | some q => rw [hb] at e; cases e; exact ⟨_, _, _, rfl⟩
  · rw [cv] at e
    cases hb : ρ.blk b with
    | none => rw [hb] at e; cases e
    | some q =>
      rw [hb] at e; dsimp only at e
      split at e
      · cases e; exact ⟨_, _, _, rfl⟩
      · cases e
  · rw [cv] at e
    cases hb : ρ.emp b with
    | none => rw [hb] at e; cases e
    | some q => obtain ⟨A, c⟩ := q; rw [hb] at e; cases e; exact ⟨_, _, _, rfl⟩

set_option maxHeartbeats 2000000 in
theorem sameA_ok {t : TypeId} {c : Bool} {x y : AV} {X Y : Value} {r : Bool} (e : sameA P t c x y = some r) (hx : cv ρ x = some X) (hy : cv ρ y = some Y) :
    (Op.equal t X Y).run P w = .ok r w ∧ ((X = .nilIface ∧ Y = .nilIface) → c = true) ∧ (∀ A B, X = .agg A → Y ≠ .agg B) := by
  have E : Op.equal t X Y = Op.equalIn (9999 + 1) t X Y := rfl
  rw [E, Op.equalIn]
  unfold sameA at e
  split at e <;> first | (cases e; done) | skip
  case h_1 hu =>
    cases e
    have h1 := cv_bool hx; have h2 := cv_bool hy; subst h1; subst h2
    exact ⟨by simp [rU hu], by simp, by simp⟩
  case h_2 hu =>
    cases e
    rw [cv] at hx hy; cases hx; cases hy
    exact ⟨by simp [rU hu], by simp, by simp⟩
  case h_3 hu =>
    cases e
    rw [cv] at hx; cases hx
    obtain ⟨q, _, rfl⟩ := cv_ptr hy
    exact ⟨by simp [rU hu], by simp, by simp⟩
  case h_4 hu =>
    cases e
    rw [cv] at hy; cases hy
    obtain ⟨q, _, rfl⟩ := cv_ptr hx
    exact ⟨by simp [rU hu], by simp, by simp⟩
  case h_5 hu =>
    cases e
    rw [cv] at hx hy; cases hx; cases hy
    exact ⟨by simp [rU hu], by simp, by simp⟩
  case h_6 hu =>
    cases e
    rw [cv] at hx; cases hx
    obtain ⟨A, l, k, rfl⟩ := cv_slice hy (.inl ⟨_, _, _, _, rfl⟩)
    exact ⟨by simp [rU hu], by simp, by simp⟩
  case h_7 hu =>
    cases e
    rw [cv] at hx; cases hx
    obtain ⟨A, l, k, rfl⟩ := cv_slice hy (.inr (.inl ⟨_, _, _, _, rfl⟩))
    exact ⟨by simp [rU hu], by simp, by simp⟩
  case h_8 hu =>
    cases e
    rw [cv] at hx; cases hx
    obtain ⟨A, l, k, rfl⟩ := cv_slice hy (.inr (.inr ⟨_, rfl⟩))
    exact ⟨by simp [rU hu], by simp, by simp⟩
  case h_9 hu =>
    cases e
    rw [cv] at hy; cases hy
    obtain ⟨A, l, k, rfl⟩ := cv_slice hx (.inl ⟨_, _, _, _, rfl⟩)
    exact ⟨by simp [rU hu], by simp, by simp⟩
  case h_10 hu =>
    cases e
    rw [cv] at hy; cases hy
    obtain ⟨A, l, k, rfl⟩ := cv_slice hx (.inr (.inl ⟨_, _, _, _, rfl⟩))
    exact ⟨by simp [rU hu], by simp, by simp⟩
  case h_11 hu =>
    cases e
    rw [cv] at hy; cases hy
    obtain ⟨A, l, k, rfl⟩ := cv_slice hx (.inr (.inr ⟨_, rfl⟩))
    exact ⟨by simp [rU hu], by simp, by simp⟩
  case h_12 hu =>
    cases e
    rw [cv] at hx hy; cases hx; cases hy
    exact ⟨by simp [rU hu], by simp, by simp⟩
  case h_13 hu =>
    cases e
    rw [cv] at hx; cases hx
    obtain ⟨q, _, rfl⟩ := cv_map hy
    exact ⟨by simp [rU hu], by simp, by simp⟩
  case h_14 hu =>
    cases e
    rw [cv] at hy; cases hy
    obtain ⟨q, _, rfl⟩ := cv_map hx
    exact ⟨by simp [rU hu], by simp, by simp⟩
  case h_15 hu =>
    cases e
    rw [cv] at hx hy; cases hx; cases hy
    exact ⟨by simp [rU hu], by simp, by simp⟩
  case h_16 hu =>
    cases e
    rw [cv] at hx; cases hx
    obtain ⟨_, _, _, _, rfl⟩ := cv_fn hy
    exact ⟨by simp [rU hu], by simp, by simp⟩
  case h_17 hu =>
    cases e
    rw [cv] at hy; cases hy
    obtain ⟨_, _, _, _, rfl⟩ := cv_fn hx
    exact ⟨by simp [rU hu], by simp, by simp⟩
  case h_18 hu =>
    rw [cv] at hx hy; cases hx; cases hy
    cases c with
    | false => simp at e
    | true => simp at e; subst e; exact ⟨by simp [rU hu], by simp, by simp⟩
  case h_19 hu =>
    cases e
    rw [cv] at hx; cases hx
    obtain ⟨_, _, rfl⟩ := cv_ifc hy
    exact ⟨by simp [rU hu], by simp, by simp⟩
  case h_20 hu =>
    cases e
    rw [cv] at hy; cases hy
    obtain ⟨_, _, rfl⟩ := cv_ifc hx
    exact ⟨by simp [rU hu], by simp, by simp⟩

end
end Go.Ex

/-! The operators. -/
namespace Go.Ex
section
variable {P : Program} {D : Nat → Option Blk} {n : Nat} {h : H} {ρ : Rn} {w : World} {m : M} {o : Oper} {a : Act}

theorem isC_eq (x : Operand) : isC x = (match x with | .const _ => true | _ => false) := by cases x <;> rfl

/-- the look at two nil interface values -/
theorem eqGuard_ok {op : BinOp} {t : TypeId} {x y : Operand} {X Y : Value} (h1 : (X = .nilIface ∧ Y = .nilIface) → (isC x || isC y) = true) (h2 : ∀ A B, X = .agg A → Y ≠ .agg B) :
    (eqGuard op t x y X Y).run P w = .ok () w := by
  by_cases hop : op = .eql ∨ op = .neq
  · by_cases hn : X = .nilIface ∧ Y = .nilIface
    · have hc := h1 hn
      obtain ⟨rfl, rfl⟩ := hn
      rcases hop with rfl | rfl <;> (simp only [eqGuard]; cases x <;> cases y <;> first | (simp; done) | (simp [isC] at hc))
    · rcases hop with rfl | rfl
      all_goals
        cases X <;> first
          | (simp [eqGuard]; done)
          | (cases Y <;> first | (simp [eqGuard]; done) | (exact absurd ⟨rfl, rfl⟩ hn) | (exact absurd rfl (h2 _ _ rfl)))
  · unfold eqGuard
    cases op <;> first | (exact absurd (.inl rfl) hop) | (exact absurd (.inr rfl) hop) | rfl

theorem toI_some {x : AV} {k : IntKind} {i : Int} {X : Value} (e : toI x = some (k, i)) (hx : cv ρ x = some X) : X = .int k i := by
  cases x <;> try (cases e; done)
  case nat k' b => cases e; rw [cv] at hx; exact inj_some hx
  case neg k' b => cases e; rw [cv] at hx; exact inj_some hx

theorem binNN_some {op : BinOp} {k k' : IntKind} {a b : Nat} {r : AV} (e : binNN op k k' a b = some r) : (isShift op = true ∧ shiftA op k a b = some r) ∨ (isShift op = false ∧ k = k' ∧ binN op k a b = some r) := by
  have e1 : Bool.rec (motive := fun _ => Option AV) (Bool.rec (motive := fun _ => Option AV) none (shiftA op k a b) (isShift op)) (Bool.rec (motive := fun _ => Option AV) (binN op k a b) (shiftA op k a b) (isShift op)) (kbeq k k') = some r := e
  cases hs : isShift op with
  | true =>
    rw [hs] at e1
    refine .inl ⟨rfl, ?_⟩
    cases hk : kbeq k k' with
    | false => rw [hk] at e1; exact e1
    | true => rw [hk] at e1; exact e1
  | false =>
    rw [hs] at e1
    refine .inr ⟨rfl, ?_⟩
    cases hk : kbeq k k' with
    | false => rw [hk] at e1; cases e1
    | true => rw [hk] at e1; exact ⟨kbeq_eq hk, e1⟩

theorem binX_ok {op : BinOp} {t : TypeId} {c : Bool} {x y r : AV} {X Y : Value} (e : binX P op t c x y = some r) (hx : cv ρ x = some X) (hy : cv ρ y = some Y) :
    (∃ V, cv ρ r = some V ∧ (binOp op t X Y).run P w = .ok V w) ∧ ((X = .nilIface ∧ Y = .nilIface) → c = true) ∧ (∀ A B, X = .agg A → Y ≠ .agg B) := by
  unfold binX at e
  split at e
  · rename_i s1 s2
    obtain ⟨h1, rfl⟩ := cv_str hx
    obtain ⟨h2, rfl⟩ := cv_str hy
    exact ⟨binS_ok e h1 h2, by simp, by simp⟩
  · split at e
    · rename_i k i k' j hi hj
      have h1 := toI_some hi hx
      have h2 := toI_some hj hy
      split at e
      · rename_i hk
        have hkk := kbeq_eq hk
        subst hkk; subst h1; subst h2
        exact ⟨binI_ok ρ e, by simp, by simp⟩
      · cases e
    · split at e
      · cases hs : sameA P t c x y with
        | none => rw [hs] at e; cases e
        | some b =>
          rw [hs] at e; cases e
          obtain ⟨h1, h2, h3⟩ := sameA_ok (w := w) hs hx hy
          refine ⟨⟨.bool b, by rw [cv], ?_⟩, h2, h3⟩
          have key : (do pure (Value.bool (← Op.equal t X Y)) : Sem Value).run P w = .ok (.bool b) w := by simp [h1]
          rw [← key]
          unfold sameA at hs
          split at hs <;> first
            | (cases hs; done)
            | (rw [cv] at hx hy; cases hx; cases hy; simp [binOp]; done)
            | (rw [cv] at hx; cases hx; obtain ⟨q, _, rfl⟩ := cv_ptr hy; simp [binOp]; done)
            | (rw [cv] at hy; cases hy; obtain ⟨q, _, rfl⟩ := cv_ptr hx; simp [binOp]; done)
            | (rw [cv] at hx; cases hx; obtain ⟨_, _, _, rfl⟩ := cv_slice hy (.inl ⟨_, _, _, _, rfl⟩); simp [binOp]; done)
            | (rw [cv] at hx; cases hx; obtain ⟨_, _, _, rfl⟩ := cv_slice hy (.inr (.inl ⟨_, _, _, _, rfl⟩)); simp [binOp]; done)
            | (rw [cv] at hx; cases hx; obtain ⟨_, _, _, rfl⟩ := cv_slice hy (.inr (.inr ⟨_, rfl⟩)); simp [binOp]; done)
            | (rw [cv] at hy; cases hy; obtain ⟨_, _, _, rfl⟩ := cv_slice hx (.inl ⟨_, _, _, _, rfl⟩); simp [binOp]; done)
            | (rw [cv] at hy; cases hy; obtain ⟨_, _, _, rfl⟩ := cv_slice hx (.inr (.inl ⟨_, _, _, _, rfl⟩)); simp [binOp]; done)
            | (rw [cv] at hy; cases hy; obtain ⟨_, _, _, rfl⟩ := cv_slice hx (.inr (.inr ⟨_, rfl⟩)); simp [binOp]; done)
            | (rw [cv] at hx; cases hx; obtain ⟨q, _, rfl⟩ := cv_map hy; simp [binOp]; done)
            | (rw [cv] at hy; cases hy; obtain ⟨q, _, rfl⟩ := cv_map hx; simp [binOp]; done)
            | (rw [cv] at hx; cases hx; obtain ⟨_, _, _, _, rfl⟩ := cv_fn hy; simp [binOp]; done)
            | (rw [cv] at hy; cases hy; obtain ⟨_, _, _, _, rfl⟩ := cv_fn hx; simp [binOp]; done)
            | (rw [cv] at hx; cases hx; obtain ⟨_, _, rfl⟩ := cv_ifc hy; simp [binOp]; done)
            | (rw [cv] at hy; cases hy; obtain ⟨_, _, rfl⟩ := cv_ifc hx; simp [binOp]; done)
      · cases hs : sameA P t c x y with
        | none => rw [hs] at e; cases e
        | some b =>
          rw [hs] at e; cases e
          obtain ⟨h1, h2, h3⟩ := sameA_ok (w := w) hs hx hy
          refine ⟨⟨.bool (!b), by rw [cv], ?_⟩, h2, h3⟩
          have key : (do pure (Value.bool (!(← Op.equal t X Y))) : Sem Value).run P w = .ok (.bool (!b)) w := by simp [h1]
          rw [← key]
          unfold sameA at hs
          split at hs <;> first
            | (cases hs; done)
            | (rw [cv] at hx hy; cases hx; cases hy; simp [binOp]; done)
            | (rw [cv] at hx; cases hx; obtain ⟨q, _, rfl⟩ := cv_ptr hy; simp [binOp]; done)
            | (rw [cv] at hy; cases hy; obtain ⟨q, _, rfl⟩ := cv_ptr hx; simp [binOp]; done)
            | (rw [cv] at hx; cases hx; obtain ⟨_, _, _, rfl⟩ := cv_slice hy (.inl ⟨_, _, _, _, rfl⟩); simp [binOp]; done)
            | (rw [cv] at hx; cases hx; obtain ⟨_, _, _, rfl⟩ := cv_slice hy (.inr (.inl ⟨_, _, _, _, rfl⟩)); simp [binOp]; done)
            | (rw [cv] at hx; cases hx; obtain ⟨_, _, _, rfl⟩ := cv_slice hy (.inr (.inr ⟨_, rfl⟩)); simp [binOp]; done)
            | (rw [cv] at hy; cases hy; obtain ⟨_, _, _, rfl⟩ := cv_slice hx (.inl ⟨_, _, _, _, rfl⟩); simp [binOp]; done)
            | (rw [cv] at hy; cases hy; obtain ⟨_, _, _, rfl⟩ := cv_slice hx (.inr (.inl ⟨_, _, _, _, rfl⟩)); simp [binOp]; done)
            | (rw [cv] at hy; cases hy; obtain ⟨_, _, _, rfl⟩ := cv_slice hx (.inr (.inr ⟨_, rfl⟩)); simp [binOp]; done)
            | (rw [cv] at hx; cases hx; obtain ⟨q, _, rfl⟩ := cv_map hy; simp [binOp]; done)
            | (rw [cv] at hy; cases hy; obtain ⟨q, _, rfl⟩ := cv_map hx; simp [binOp]; done)
            | (rw [cv] at hx; cases hx; obtain ⟨_, _, _, _, rfl⟩ := cv_fn hy; simp [binOp]; done)
            | (rw [cv] at hy; cases hy; obtain ⟨_, _, _, _, rfl⟩ := cv_fn hx; simp [binOp]; done)
            | (rw [cv] at hx; cases hx; obtain ⟨_, _, rfl⟩ := cv_ifc hy; simp [binOp]; done)
            | (rw [cv] at hy; cases hy; obtain ⟨_, _, rfl⟩ := cv_ifc hx; simp [binOp]; done)
      · cases e

theorem binA_ok {op : BinOp} {t : TypeId} {c : Bool} {x y r : AV} {X Y : Value} (e : binA P op t c x y = some r) (hx : cv ρ x = some X) (hy : cv ρ y = some Y) :
    (∃ V, cv ρ r = some V ∧ (binOp op t X Y).run P w = .ok V w) ∧ ((X = .nilIface ∧ Y = .nilIface) → c = true) ∧ (∀ A B, X = .agg A → Y ≠ .agg B) := by
  unfold binA at e
  cases h1 : asNat x with
  | none => rw [h1] at e; exact binX_ok e hx hy
  | some kx =>
    obtain ⟨k, i⟩ := kx
    rw [h1] at e
    have e1 : Option.rec (motive := fun _ => Option AV) (binX P op t c x y) (fun ky => Prod.rec (motive := fun _ => Option AV) (fun k' b => binNN op k k' i b) ky) (asNat y) = some r := e
    cases h2 : asNat y with
    | none => rw [h2] at e1; exact binX_ok e1 hx hy
    | some ky =>
      obtain ⟨k', j⟩ := ky
      rw [h2] at e1
      have e2 : binNN op k k' i j = some r := e1
      have hx' := asNat_some h1; have hy' := asNat_some h2
      subst hx'; subst hy'
      have hX := cv_nat hx; have hY := cv_nat hy
      subst hX; subst hY
      refine ⟨?_, by simp, by simp⟩
      rcases binNN_some e2 with ⟨hs, h3⟩ | ⟨hs, rfl, h3⟩
      · exact shiftA_ok ρ h3
      · exact binN_ok ρ h3

theorem oBin_ok (p : Pre P D h ρ w m a) {op : BinOp} {t u : TypeId} {x y : Operand} (ho : o.op = .binOp op t x y u) : OkR P D n h ρ w o a (oBin op t x y u P m h n) :=
  okR_w1 p fun v hv => okR_w1 p fun v' hv' => okR_ofO fun r e => by
    obtain ⟨⟨V, h1, h2⟩, h3, h4⟩ := binA_ok (w := w) e hv hv'
    refine okR_pure p (w' := w) ?_ (SameW.refl w) h1
    have h5 := eqGuard_ok (P := P) (w := w) (op := op) (t := t) h3 h4
    simp [execOp, ho, h5, h2]

theorem oUn_ok (p : Pre P D h ρ w m a) {op : UnOp} {t : TypeId} {x : Operand} (ho : o.op = .unOp op t x) : OkR P D n h ρ w o a (oUn op t x P m h n) :=
  okR_w1 p fun v hv => okR_ofO fun r e => by
    have hx : execOp a.eval o = (do pure (Next.value (← Op.unary op (a.eval x)))) := by simp only [execOp, ho]
    unfold unA at e
    split at e
    · rename_i b
      cases e
      have h1 := cv_bool hv
      exact okR_pure p (w' := w) (V := .bool (!b)) (by rw [hx]; exact run_v (by rw [h1]; rfl)) (SameW.refl w) (by rw [cv])
    · rename_i k b
      cases e
      have h1 := cv_nat hv
      exact okR_pure p (w' := w) (by rw [hx]; exact run_v (by rw [h1]; rfl)) (SameW.refl w) (cv_ofIw ρ k (Int.sub 0 (.ofNat b)))
    · rename_i k b
      cases e
      have h1 : a.eval x = .int k (.negSucc b) := by rw [cv] at hv; exact inj_some hv
      exact okR_pure p (w' := w) (by rw [hx]; exact run_v (by rw [h1]; rfl)) (SameW.refl w) (cv_ofIw ρ k (Int.sub 0 (.negSucc b)))
    · rename_i k b
      split at e
      · rename_i hs
        cases e
        have h1 := cv_nat hv
        refine okR_pure p (w' := w) ?_ (SameW.refl w) (cv_nat' ρ k _)
        have hsg : k.signed = false := by rw [← sgn_eq]; exact hs
        have hpos : 0 < pow2 k := by cases k <;> decide
        have hb : (BitVec.ofInt k.bits k.max ^^^ BitVec.ofInt k.bits (Int.ofNat b)).toNat = pow2 k - 1 - b % pow2 k := by
          have hmax : BitVec.ofInt k.bits k.max = BitVec.allOnes k.bits := by cases k <;> first | (cases hs; done) | decide
          rw [hmax, BitVec.xor_comm, BitVec.xor_allOnes, BitVec.toNat_not, ofInt_toNat, pow2_eq]
        have hlt : (pow2 k - 1 - b % pow2 k) % pow2 k = pow2 k - 1 - b % pow2 k := Nat.mod_eq_of_lt (by omega)
        have hw := wrap_u k (pow2 k - 1 - b % pow2 k) hs
        rw [hlt] at hw
        rw [hx]
        refine run_v ?_
        rw [h1]
        have hu : Op.unary .xor (.int k (Int.ofNat b)) = pure (.int k (k.wrap ((BitVec.ofInt k.bits k.max ^^^ BitVec.ofInt k.bits (Int.ofNat b)).toNat : Nat))) := by
          simp [Op.unary, Op.intBits, hsg]
        rw [hu, hb]
        show Result.ok (Value.int k (k.wrap (Int.ofNat (pow2 k - 1 - b % pow2 k)))) w = _
        rw [hw]; rfl
      · cases e
    · cases e

end
end Go.Ex

/-! Blocks that are made, and cells that are written. -/
namespace Go.Ex

theorem get_putCells : ∀ (vs : List AV) (t : PT AV) (off i : Nat), PT.get (path i) (putCells t off vs) = if off ≤ i ∧ i < off + vs.length then vs[i - off]? else PT.get (path i) t
  | [], t, off, i => by rw [putCells, if_neg (by simp only [List.length_nil]; omega)]
  | v :: vs, t, off, i => by
    rw [putCells, get_putCells vs]
    by_cases h : Nat.succ off ≤ i ∧ i < Nat.succ off + vs.length
    · rw [if_pos h, if_pos (by simp; omega)]
      obtain ⟨k, hk⟩ : ∃ k, i - off = k + 1 := ⟨i - off - 1, by omega⟩
      rw [hk, List.getElem?_cons_succ]; congr 1; omega
    · rw [if_neg h]
      by_cases he : i = off
      · subst he
        rw [if_pos (by simp)]
        simp only [Nat.sub_self, List.getElem?_cons_zero]
        exact PT.get_set _ _ _
      · rw [if_neg (by simp; omega)]
        exact PT.get_set_ne _ _ _ _ fun e => he (path_inj e)

theorem cells_ok {ρ : Rn} {v : AV} {V : Value} (e : cv ρ v = some V) : ∃ L, cvs ρ v.cells = some L ∧ V.cells = L.toArray := by
  have one : ∀ {u : AV}, cv ρ u = some V → u.cells = [u] → (∀ l, V ≠ .agg l) → ∃ L, cvs ρ u.cells = some L ∧ V.cells = L.toArray := fun {u} h1 h2 h3 => by
    refine ⟨[V], by rw [h2]; exact cvs_mk h1 (cvs_nil ρ), ?_⟩
    cases V <;> first | rfl | (exact absurd rfl (h3 _))
  cases v
  case agg l =>
    obtain ⟨L, h1, rfl⟩ := cv_agg e
    exact ⟨L, h1, rfl⟩
  case tup l =>
    obtain ⟨L, h1, rfl⟩ := cv_tup e
    exact one e rfl (fun l h => by cases h)
  case ptr => obtain ⟨q, _, rfl⟩ := cv_ptr e; exact one e rfl (fun l h => by cases h)
  case sl => obtain ⟨A, l, k, rfl⟩ := cv_slice e (.inl ⟨_, _, _, _, rfl⟩); exact one e rfl (fun l h => by cases h)
  case slU => obtain ⟨A, l, k, rfl⟩ := cv_slice e (.inr (.inl ⟨_, _, _, _, rfl⟩)); exact one e rfl (fun l h => by cases h)
  case slE => obtain ⟨A, l, k, rfl⟩ := cv_slice e (.inr (.inr ⟨_, rfl⟩)); exact one e rfl (fun l h => by cases h)
  case map => obtain ⟨q, _, rfl⟩ := cv_map e; exact one e rfl (fun l h => by cases h)
  case fn => obtain ⟨_, _, _, _, rfl⟩ := cv_fn e; exact one e rfl (fun l h => by cases h)
  case ifc => obtain ⟨_, _, rfl⟩ := cv_ifc e; exact one e rfl (fun l h => by cases h)
  case str => obtain ⟨_, rfl⟩ := cv_str e; exact one e rfl (fun l h => by cases h)
  all_goals
    have e' := e
    rw [cv] at e'
    cases e'
    exact one e rfl (fun l h => by cases h)

theorem cvs_get' {ρ : Rn} {vs : List AV} {Vs : List Value} {i : Nat} {V : Value} (hc : cvs ρ vs = some Vs) (e : Vs[i]? = some V) : ∃ v, vs[i]? = some v ∧ cv ρ v = some V := by
  have hlt : i < vs.length := by
    rw [← cvs_length hc]
    rcases Nat.lt_or_ge i Vs.length with h | h
    · exact h
    · rw [List.getElem?_eq_none h] at e; cases e
  obtain ⟨W, h1, h2⟩ := cvs_get hc (List.getElem?_eq_getElem hlt)
  rw [e] at h2; cases h2
  exact ⟨_, List.getElem?_eq_getElem hlt, h1⟩

section
variable {P : Program} {D : Nat → Option Blk} {n : Nat} {h : H} {ρ : Rn} {w : World} {m : M} {o : Oper} {a : Act}

/-- a new block of cells, of which the first are known -/
theorem ext_cells (hs : Sim ρ (un h D) w) (fr : Fr ρ h D n (n + 1)) {el sz c z : Nat} {t : PT AV} {C : Array Value} {fz : Nat × Nat} {w' : World}
    (hw : w'.heap = w.heap.push (.cells C el fz)) (ho : w'.os = w.os) (ht : w'.tape = w.tape) (hu : w'.output = w.output)
    (h1 : sz ≤ C.size) (h2 : c * z ≤ C.size) (h3 : fz.1 = fz.2 ∨ C.size ≤ fz.1)
    (h4 : ∀ i v, i < sz → PT.get (path i) t = some v → ∃ V, cv ρ v = some V ∧ C[i]? = some V) :
    Ext D n h ρ w (n + 1) (PT.set (some (.cells el sz t)) (path n) h) (ρ.put n ⟨w.heap.size, 0, c, z⟩) w' :=
  Ext.alloc hs fr rfl hw ho ht hu fun w'' hw'' => by
    refine ⟨⟨w.heap.size, 0, c, z⟩, C, fz, Rn.put_at _ _ _, hw'', by simpa using h1, by simpa using h2, h3, fun i v hi hv => ?_⟩
    obtain ⟨V, h5, h6⟩ := h4 i v hi hv
    exact ⟨V, cv_mono (Rn.put_le (fr.blk n (Nat.le_refl _) (by omega))) _ _ h5, by simpa using h6⟩

theorem tree_cells {cs : List AV} {L : List Value} (hc : cvs ρ cs = some L) (rest : List Value) : ∀ i v, i < cs.length → PT.get (path i) (putCells .leaf 0 cs) = some v →
    ∃ V, cv ρ v = some V ∧ (L ++ rest).toArray[i]? = some V := fun i v hi hv => by
  rw [get_putCells, if_pos (by omega), Nat.sub_zero] at hv
  obtain ⟨V, h1, h2⟩ := cvs_get hc hv
  refine ⟨V, h1, ?_⟩
  have hlt : i < L.length := getElem?_lt (by simpa using h2)
  simp [List.getElem?_append_left hlt, h2]

theorem allocA_ok (p : Pre P D h ρ w m a) {el : TypeId} {v : AV} {V : Value} (hv : cv ρ v = some V)
    (hr : (execOp a.eval o).run P w = .ok (.value (.pointer (some ⟨w.heap.size, 0, none⟩))) { w with heap := w.heap.push (.cells V.cells el) }) :
    OkR P D n h ρ w o a (allocA n el v) := fun fr => by
  obtain ⟨L, h1, h2⟩ := cells_ok hv
  refine ⟨ρ.put n ⟨w.heap.size, 0, 0, 0⟩, _, _, .inl hr, by rw [cv, Rn.put_at], ?_⟩
  refine ext_cells p.sim fr (fz := (0, 0)) (C := V.cells) rfl rfl rfl rfl ?_ (by simp) (.inl rfl) ?_
  · rw [h2]; simp [cvs_length h1]
  · rw [h2]
    have := tree_cells h1 []
    simpa using this

theorem oAlloc_ok (p : Pre P D h ρ w m a) {el : TypeId} (ho : o.op = .alloc el) : OkR P D n h ρ w o a (oAlloc el P m h n) := by
  unfold oAlloc w1
  cases hz : tzero P el with
  | none => trivial
  | some z =>
    obtain ⟨Z, h1, h2⟩ := rZ (w := w) hz
    exact allocA_ok p (ofC_ok ρ _ _ h2) (by simp [execOp, ho, Instr.alloc, h1, newVar, newRow])

theorem oBox_ok (p : Pre P D h ρ w m a) {el : TypeId} {x : Operand} (ho : o.op = .box el x) : OkR P D n h ρ w o a (oBox el x P m h n) :=
  okR_w1 p fun v hv => allocA_ok p hv (by simp [execOp, ho, Instr.box, newVar, newRow])

theorem oMakeMap_ok (p : Pre P D h ρ w m a) {t : TypeId} {r : Option Operand} (ho : o.op = .makeMap t r) : OkR P D n h ρ w o a (oMakeMap t r P m h n) := by
  cases r with
  | some x => trivial
  | none =>
    intro fr
    refine ⟨ρ.put n ⟨w.heap.size, 0, 0, 0⟩, { w with heap := w.heap.push (.map #[] 0) }, .map (some w.heap.size), .inl (by simp [execOp, ho, Instr.makeMap]), by rw [cv, Rn.put_at], ?_⟩
    exact Ext.alloc p.sim fr rfl rfl rfl rfl rfl fun w'' hw'' => ⟨_, [], Rn.put_at _ _ _, by rw [cvEs], hw''⟩

/-! Stores. -/
theorem allOne_ok : ∀ {vs : List AV} {L : List Value}, allOne vs = true → cvs ρ vs = some L → ∀ V ∈ L, V.oneCell' = true
  | [], L, _, hc => by rw [cvs] at hc; cases hc; simp
  | v :: vs, L, ha, hc => by
    obtain ⟨V, Vs, h1, h2, rfl⟩ := cvs_cons hc
    rw [allOne] at ha
    cases hv : v.one with
    | false => rw [hv] at ha; cases ha
    | true =>
      rw [hv] at ha
      intro U hU
      rcases List.mem_cons.1 hU with rfl | hU
      · cases v <;> first
          | (cases hv; done)
          | (obtain ⟨q, _, rfl⟩ := cv_ptr h1; rfl)
          | (obtain ⟨A, l, k, rfl⟩ := cv_slice h1 (.inl ⟨_, _, _, _, rfl⟩); rfl)
          | (obtain ⟨A, l, k, rfl⟩ := cv_slice h1 (.inr (.inl ⟨_, _, _, _, rfl⟩)); rfl)
          | (obtain ⟨A, l, k, rfl⟩ := cv_slice h1 (.inr (.inr ⟨_, rfl⟩)); rfl)
          | (obtain ⟨q, _, rfl⟩ := cv_map h1; rfl)
          | (obtain ⟨_, _, _, _, rfl⟩ := cv_fn h1; rfl)
          | (obtain ⟨_, _, rfl⟩ := cv_ifc h1; rfl)
          | (obtain ⟨_, rfl⟩ := cv_str h1; rfl)
          | (rw [cv] at h1; cases h1; rfl)
      · exact allOne_ok ha h2 U hU

/-- the array with values laid over it from a place on -/
def over (C : Array Value) (off : Nat) : List Value → Array Value
  | [] => C
  | v :: vs => over (C.setIfInBounds off v) (off + 1) vs

theorem over_size : ∀ (vs : List Value) (C : Array Value) (off : Nat), (over C off vs).size = C.size
  | [], C, off => rfl
  | v :: vs, C, off => by rw [over, over_size vs]; simp
theorem over_get : ∀ (vs : List Value) (C : Array Value) (off i : Nat), off + vs.length ≤ C.size → (over C off vs)[i]? = if off ≤ i ∧ i < off + vs.length then vs[i - off]? else C[i]?
  | [], C, off, i, _ => by rw [over, if_neg (by simp only [List.length_nil]; omega)]
  | v :: vs, C, off, i, hl => by
    simp at hl
    rw [over, over_get vs _ _ _ (by simp; omega)]
    by_cases h : off + 1 ≤ i ∧ i < off + 1 + vs.length
    · rw [if_pos h, if_pos (by simp; omega)]
      obtain ⟨k, hk⟩ : ∃ k, i - off = k + 1 := ⟨i - off - 1, by omega⟩
      rw [hk, List.getElem?_cons_succ]; congr 1; omega
    · rw [if_neg h]
      by_cases he : i = off
      · subst he
        rw [if_pos (by simp)]
        simp only [Nat.sub_self, List.getElem?_cons_zero]
        rw [Array.getElem?_setIfInBounds_self, if_pos (by omega)]
      · rw [if_neg (by simp; omega), Array.getElem?_setIfInBounds_ne (fun e => he e.symm)]

theorem setCell_heap (w : World) (B off : Nat) (v : Value) {C : Array Value} {el : TypeId} {fz : Nat × Nat} (hw : w.heap[B]? = some (.cells C el fz)) :
    (w.setCell ⟨B, off, none⟩ v).heap[B]? = some (.cells (C.setIfInBounds off v) el fz) ∧ (∀ X, X ≠ B → (w.setCell ⟨B, off, none⟩ v).heap[X]? = w.heap[X]?) ∧
      (w.setCell ⟨B, off, none⟩ v).heap.size = w.heap.size := by
  refine ⟨?_, fun X hX => ?_, by simp [World.setCell]⟩
  · simp [World.setCell, Array.getElem?_modify, hw]
  · simp only [World.setCell, Array.getElem?_modify]
    rw [if_neg (fun e => hX e.symm)]

theorem storeCells_ok : ∀ (vs : List Value) (i : Nat) (w : World) {B off : Nat} {C : Array Value} {el : TypeId} {fz : Nat × Nat}, w.heap[B]? = some (.cells C el fz) → off + i + vs.length ≤ C.size →
    (fz.1 = fz.2 ∨ C.size ≤ fz.1) → (∀ v ∈ vs, v.oneCell' = true) →
    ∃ w', (storeCells ⟨B, off, none⟩ vs i).run P w = .ok () w' ∧ w'.heap[B]? = some (.cells (over C (off + i) vs) el fz) ∧ (∀ X, X ≠ B → w'.heap[X]? = w.heap[X]?) ∧ w'.heap.size = w.heap.size ∧
      w'.os = w.os ∧ w'.tape = w.tape ∧ w'.output = w.output
  | [], i, w, B, off, C, el, fz, hw, _, _, _ => ⟨w, by simp [storeCells], by simpa [over] using hw, fun _ _ => rfl, rfl, rfl, rfl, rfl⟩
  | v :: vs, i, w, B, off, C, el, fz, hw, hl, hz, h1 => by
    simp at hl
    obtain ⟨s1, s2, s3⟩ := setCell_heap w B (off + i) v hw
    obtain ⟨w', r1, r2, r3, r4, r5, r6, r7⟩ := storeCells_ok vs (i + 1) (w.setCell ⟨B, off + i, none⟩ v) (off := off) s1 (by simp; omega) (by simpa using hz) (fun u hu => h1 u (by simp [hu]))
    refine ⟨w', ?_, ?_, fun X hX => (r3 X hX).trans (s2 X hX), r4.trans s3, r5, r6, r7⟩
    · have hc : w.cell? ⟨B, off + i, none⟩ = some (C[off + i]'(by omega)) := by simp [World.cell?, hw]
      have hf : w.frozen? ⟨B, off + i, none⟩ = false := by
        obtain ⟨lo, hi⟩ := fz
        simp only [World.frozen?, hw]
        rcases hz with hz | hz
        · simp only at hz; subst hz; simp <;> omega
        · simp only at hz; simp <;> omega
      have hst : (store ⟨B, off + i, none⟩ v .plain).run P w = .ok () (w.setCell ⟨B, off + i, none⟩ v) := by
        rw [run_store P w _ v .plain (h1 v (by simp)), hc, hf]; rfl
      simp only [storeCells, add_none, Sem.run_bind, hst, Result.andThen_ok, r1]
    · rw [over]; rwa [show off + i + 1 = off + (i + 1) from by omega]

/-- A row of known values is laid over known cells. -/
theorem Ext.cells (hs : Sim ρ (un h D) w) {b el sz : Nat} {t : PT AV} (hb : getB h b = some (.cells el sz t)) (h100 : 100 ≤ b) {p : Pl} {C : Array Value} {fz : Nat × Nat} (k : CellsAt ρ w b el sz t p C fz)
    {vs : List AV} {L : List Value} (hv : cvs ρ vs = some L) (off : Nat) (hl : off + vs.length ≤ sz) {w' : World} (h1 : w'.heap[p.B]? = some (.cells (over C (p.d + off) L) el fz))
    (h2 : ∀ X, X ≠ p.B → w'.heap[X]? = w.heap[X]?) (h3 : w'.heap.size = w.heap.size) (ho : w'.os = w.os) (ht : w'.tape = w.tape) (hu : w'.output = w.output) :
    Ext D n h ρ w n (PT.set (some (.cells el sz (putCells t off vs))) (path b) h) ρ w' := by
  have hlen := cvs_length hv
  refine Ext.write hs hb h100 k.hp h2 h3 ho ht hu ⟨p, _, fz, k.hp, h1, by rw [over_size]; exact k.hn, by rw [over_size]; exact k.hc, by rw [over_size]; exact k.hz, fun i v hi hv' => ?_⟩
  rw [get_putCells] at hv'
  have hn := k.hn
  rw [over_get _ _ _ _ (by omega)]
  by_cases hin : off ≤ i ∧ i < off + vs.length
  · rw [if_pos hin] at hv'
    rw [if_pos (by omega)]
    obtain ⟨V, h4, h5⟩ := cvs_get hv hv'
    exact ⟨V, h4, by rw [show p.d + i - (p.d + off) = i - off from by omega]; exact h5⟩
  · rw [if_neg hin] at hv'
    rw [if_neg (by omega)]
    exact k.cell i v hi hv'

theorem and5 {a b c d f : Bool} (e : (a && b && c && d && f) = true) : a = true ∧ b = true ∧ c = true ∧ d = true ∧ f = true := by
  cases a <;> cases b <;> cases c <;> cases d <;> cases f <;> first | exact ⟨rfl, rfl, rfl, rfl, rfl⟩ | cases e

theorem and4 {a b c d : Bool} (e : (a && b && c && d) = true) : a = true ∧ b = true ∧ c = true ∧ d = true := by
  cases a <;> cases b <;> cases c <;> cases d <;> first | exact ⟨rfl, rfl, rfl, rfl⟩ | cases e

theorem oStore_ok (p : Pre P D h ρ w m a) {t : TypeId} {x y : Operand} (ho : o.op = .store t x y) : OkR P D n h ρ w o a (oStore t x y P m h n) :=
  okR_w1 p fun u hu => okR_w1 p fun v hv => by
    unfold storeA
    cases hp : asPtr u with
    | none => trivial
    | some bo =>
      obtain ⟨b, off⟩ := bo
      have hup := asPtr_some hp
      subst hup
      show OkR P D n h ρ w o a (Option.rec (motive := fun _ => OR) .no (storeB P t v b off) (getB h b))
      cases hb : getB h b with
      | none => trivial
      | some k =>
        cases k with
        | map _ _ => trivial
        | iter _ _ => trivial
        | cells el sz c =>
          show OkR P D n h ρ w o a (Bool.rec (motive := fun _ => OR) .no (.ok (.tup []) [(b, some (.cells el sz (putCells c off v.cells)))])
            (Nat.beq v.cells.length (tsz P t) && thas P t && Nat.ble (off + v.cells.length) sz && allOne v.cells && Nat.ble 100 b))
          cases hg : (Nat.beq v.cells.length (tsz P t) && thas P t && Nat.ble (off + v.cells.length) sz && allOne v.cells && Nat.ble 100 b) with
          | false => trivial
          | true =>
            obtain ⟨g1, g2, g3, g4, g5⟩ := and5 hg
            have g1 := Nat.eq_of_beq_eq_true g1
            have g3 := Nat.le_of_ble_eq_true g3
            obtain ⟨q, C, fz, k⟩ := p.sim.cells hb
            obtain ⟨L, c1, c2⟩ := cells_ok hv
            have hlen := cvs_length c1
            have hn := k.hn
            obtain ⟨w', r1, r2, r3, r4, r5, r6, r7⟩ := storeCells_ok (P := P) L 0 w (B := q.B) (off := q.d + off) k.hw (by omega) k.hz (allOne_ok g4 c1)
            refine ⟨w', undef, .inr ⟨?_, rfl⟩, by rw [cv, cvs]; rfl, ?_⟩
            · have hq : a.eval x = .pointer (some ⟨q.B, q.d + off, none⟩) := by
                obtain ⟨q', h1, h2⟩ := cv_ptr hu
                rw [k.hp] at h1; cases h1; exact h2
              have hsz : L.length = tsz P t := by omega
              simp [execOp, ho, Instr.storeAt, hq, Instr.sureAddr, storeVar, hsz, rS g2, c2, r1]
            · exact Ext.cells p.sim hb (Nat.le_of_ble_eq_true g5) k c1 off g3 (by simpa using r2) r3 r4 r5 r6 r7

end
end Go.Ex

/-! Literals; slices that are made. -/
namespace Go.Ex

def setSegV : List Value → Nat → List Value → List Value
  | cs, _, [] => cs
  | cs, i, v :: vs => setSegV (cs.set i v) (i + 1) vs

theorem cvs_set {ρ : Rn} : ∀ {cs : List AV} {C : List Value} (i : Nat) {v : AV} {V : Value}, cvs ρ cs = some C → cv ρ v = some V → cvs ρ (cs.set i v) = some (C.set i V)
  | [], C, i, v, V, hc, _ => by rw [cvs] at hc; cases hc; simp [cvs]
  | c :: cs, C, 0, v, V, hc, hv => by
    obtain ⟨U, Us, h1, h2, rfl⟩ := cvs_cons hc
    exact cvs_mk hv h2
  | c :: cs, C, i + 1, v, V, hc, hv => by
    obtain ⟨U, Us, h1, h2, rfl⟩ := cvs_cons hc
    exact cvs_mk h1 (cvs_set i h2 hv)

theorem setSeg_ok {ρ : Rn} : ∀ {vs cs : List AV} {L C : List Value} (i : Nat), cvs ρ cs = some C → cvs ρ vs = some L → cvs ρ (setSeg cs i vs) = some (setSegV C i L)
  | [], cs, L, C, i, hc, hv => by rw [cvs] at hv; cases hv; exact hc
  | v :: vs, cs, L, C, i, hc, hv => by
    obtain ⟨U, Us, h1, h2, rfl⟩ := cvs_cons hv
    exact setSeg_ok (i + 1) (cvs_set i hc h1) h2

theorem foldl_seg : ∀ (L : List Value) (C : List Value) (off k : Nat),
    (L.zipIdx k).foldl (fun (cs : Array Value) (x : Value × Nat) => cs.setIfInBounds (off + x.2) x.1) C.toArray = (setSegV C (off + k) L).toArray
  | [], C, off, k => rfl
  | v :: L, C, off, k => by
    rw [List.zipIdx_cons, List.foldl_cons]
    have : (C.toArray.setIfInBounds (off + k) v) = (C.set (off + k) v).toArray := by simp
    rw [this, foldl_seg L _ off (k + 1), setSegV, Nat.add_assoc]

theorem setSegV_length : ∀ (L C : List Value) (i : Nat), (setSegV C i L).length = C.length
  | [], C, i => rfl
  | v :: L, C, i => by rw [setSegV, setSegV_length]; simp

def PartsOk (ρ : Rn) : List (Nat × AV) → List (Nat × Value) → Prop
  | [], [] => True
  | (i, v) :: r, (j, V) :: R => i = j ∧ cv ρ v = some V ∧ PartsOk ρ r R
  | _, _ => False

theorem fill_ok {ρ : Rn} {place : Nat → Option (Nat × Nat)} : ∀ {parts : List (Nat × AV)} {Ps : List (Nat × Value)} {cs r : List AV} {C : List Value}, fillA place cs parts = some r → cvs ρ cs = some C →
    PartsOk ρ parts Ps → ∃ R, cvs ρ r = some R ∧ Instr.fill place C.toArray Ps = some R.toArray
  | [], [], cs, r, C, e, hc, _ => by rw [fillA] at e; cases e; exact ⟨C, hc, by rw [Instr.fill]⟩
  | [], _ :: _, cs, r, C, e, hc, hp => hp.elim
  | (_, _) :: _, [], cs, r, C, e, hc, hp => hp.elim
  | (i, v) :: rest, (j, V) :: Xs, cs, r, C, e, hc, hp => by
    obtain ⟨h1, h2, hr⟩ := hp
    subst h1
    rw [fillA] at e
    rw [Instr.fill]
    cases hpl : place i with
    | none => rw [hpl] at e; cases e
    | some os =>
      obtain ⟨off, size⟩ := os
      rw [hpl] at e
      simp only at e ⊢
      cases hg : (Nat.beq v.cells.length size && Nat.ble (off + v.cells.length) cs.length) with
      | false => simp only [Nat.add_eq, hg] at e; cases e
      | true =>
        simp only [Nat.add_eq, hg] at e
        obtain ⟨g1, g2⟩ : Nat.beq v.cells.length size = true ∧ Nat.ble (off + v.cells.length) cs.length = true := by simpa using hg
        have g1 := Nat.eq_of_beq_eq_true g1
        have g2 := Nat.le_of_ble_eq_true g2
        obtain ⟨L, c1, c2⟩ := cells_ok h2
        have hl := cvs_length c1
        have hC := cvs_length hc
        obtain ⟨R, r1, r2⟩ := fill_ok e (setSeg_ok off hc c1) hr
        refine ⟨R, r1, ?_⟩
        rw [c2, if_neg (by simp; omega)]
        rw [← r2]
        congr 1
        have := foldl_seg L C off 0
        simp only [Nat.add_zero] at this
        rw [← this]
        simp

theorem evL_ok {P : Program} {D : Nat → Option Blk} {h : H} {ρ : Rn} {w : World} {m : M} {a : Act} (p : Pre P D h ρ w m a) : ∀ {xs : List (Nat × Operand)} {vs : List (Nat × AV)}, evL m xs = some vs →
    PartsOk ρ vs (xs.map fun x => (x.1, a.eval x.2))
  | [], vs, e => by rw [evL] at e; cases e; trivial
  | (i, x) :: r, vs, e => by
    rw [evL] at e
    cases hv : ev x m with
    | none => rw [hv] at e; cases e
    | some v =>
      rw [hv] at e
      cases hr : evL m r with
      | none => rw [hr] at e; cases e
      | some us =>
        rw [hr] at e; cases e
        exact ⟨rfl, p.ev hv, evL_ok p hr⟩

section
variable {P : Program} {D : Nat → Option Blk} {n : Nat} {h : H} {ρ : Rn} {w : World} {m : M} {o : Oper} {a : Act}

theorem placesOf_ok : ∀ {fs : List Field} {ps : List (Nat × Nat)}, placesOf P fs = some ps → fs.mapM (fun f => (P.info? f.type).map fun i => (f.offset, i.size)) = some ps
  | [], ps, e => by rw [placesOf] at e; cases e; rfl
  | f :: fs, ps, e => by
    rw [placesOf] at e
    cases hf : thas P f.type with
    | false => rw [hf] at e; cases e
    | true =>
      rw [hf] at e
      cases hr : placesOf P fs with
      | none => rw [hr] at e; cases e
      | some r =>
        rw [hr] at e; cases e
        obtain ⟨i, h1, h2⟩ := has_info hf
        simp [List.mapM_cons, placesOf_ok hr, h1, h2]

theorem oBuild_ok (p : Pre P D h ρ w m a) {t : TypeId} {ps : Array (Nat × Operand)} (ho : o.op = .build t ps) : OkR P D n h ρ w o a (oBuild t ps P m h n) := by
  unfold oBuild
  cases hv : evL m ps.toList with
  | none => trivial
  | some vs =>
    refine okR_ofO fun r e => ?_
    have hp := evL_ok p hv
    unfold buildA at e
    cases hz : tzero P t with
    | none => rw [hz] at e; cases e
    | some z =>
      rw [hz] at e
      obtain ⟨Z, z1, z2⟩ := rZ (w := w) hz
      obtain ⟨C, c1, c2⟩ := cells_ok (ofC_ok ρ _ _ z2)
      have hpl : (ps.map fun (x : Nat × Operand) => (x.1, a.eval x.2)).toList = ps.toList.map fun x => (x.1, a.eval x.2) := by simp
      simp only at e
      split at e
      · rename_i fs hu
        split at e
        · cases e
        · rename_i pl hpl'
          simp only [Option.map_eq_some_iff] at e
          obtain ⟨cs, e1, rfl⟩ := e
          obtain ⟨R, r1, r2⟩ := fill_ok e1 c1 hp
          refine okR_pure p (w' := w) (V := .agg R.toArray) ?_ (SameW.refl w) (by rw [cv, r1])
          have hq := run_places w _ _ (placesOf_ok hpl')
          have r3 : Instr.fill (fun i => pl[i]?) C.toArray (ps.toList.map fun x => (x.1, a.eval x.2)) = some R.toArray := r2
          simp [execOp, ho, Instr.build, rU hu, z1, Array.mapM_eq_mapM_toList, hq, c2, r3]
      · rename_i len el hu
        split at e
        · rename_i hs
          simp only [Option.map_eq_some_iff] at e
          obtain ⟨cs, e1, rfl⟩ := e
          obtain ⟨R, r1, r2⟩ := fill_ok e1 c1 hp
          refine okR_pure p (w' := w) (V := .agg R.toArray) ?_ (SameW.refl w) (by rw [cv, r1])
          have r3 : Instr.fill (fun i => some (i * tsz P el, tsz P el)) C.toArray (ps.toList.map fun x => (x.1, a.eval x.2)) = some R.toArray := r2
          simp [execOp, ho, Instr.build, rU hu, z1, rS hs, c2, r3]
        · cases e
      · cases e

/-! Many like cells. -/
def repV (z : List Value) : Nat → List Value
  | 0 => []
  | n + 1 => z ++ repV z n

theorem cvs_append : ∀ {xs ys : List AV} {X Y : List Value}, cvs ρ xs = some X → cvs ρ ys = some Y → cvs ρ (xs ++ ys) = some (X ++ Y)
  | [], ys, X, Y, hx, hy => by rw [cvs] at hx; cases hx; exact hy
  | x :: xs, ys, X, Y, hx, hy => by
    obtain ⟨U, Us, h1, h2, rfl⟩ := cvs_cons hx
    exact cvs_mk h1 (cvs_append h2 hy)

theorem repL_ok {z : List AV} {Z : List Value} (hz : cvs ρ z = some Z) : ∀ n, cvs ρ (repL z n) = some (repV Z n)
  | 0 => cvs_nil ρ
  | n + 1 => cvs_append hz (repL_ok hz n)

theorem repV_length (z : List Value) : ∀ n, (repV z n).length = n * z.length
  | 0 => by simp [repV]
  | n + 1 => by rw [repV, List.length_append, repV_length z n, Nat.succ_mul, Nat.add_comm]

theorem repV_get (z : List Value) (hz : 0 < z.length) : ∀ n i, i < n * z.length → (repV z n)[i]? = z[i % z.length]?
  | 0, i, h => by simp at h
  | n + 1, i, h => by
    rw [repV, List.getElem?_append]
    by_cases hi : i < z.length
    · rw [if_pos hi, Nat.mod_eq_of_lt hi]
    · rw [if_neg hi, repV_get z hz n (i - z.length) (by rw [Nat.succ_mul] at h; omega), Nat.mod_eq_sub_mod (a := i) (by omega)]

theorem madeCells_rep (z : List Value) (hz : 0 < z.length) (n : Nat) : madeCells z.toArray (n * z.length) = (repV z n).toArray := by
  apply Array.ext
  · rw [size_madeCells]; simp [repV_length]
  · intro i h1 h2
    rw [size_madeCells] at h1
    have h3 := repV_get z hz n i h1
    have h4 : i % z.length < z.length := Nat.mod_lt _ hz
    have h5 : i < (repV z n).length := by simpa using h2
    rw [List.getElem?_eq_getElem h4, List.getElem?_eq_getElem h5] at h3
    have h3 := Option.some.inj h3
    simp only [madeCells, Array.getElem_map, Array.getElem_range, List.size_toArray, List.getElem_toArray, h3]
    simp [h4]

theorem tinfo_bytes {el : TypeId} {i : TypeInfo} (e : P.info? el = some i) : ((P.info? el).map (·.bytes)).getD 0 = i.bytes := by rw [e]; rfl

theorem rZi {t : TypeId} {z : AV} {i : TypeInfo} (hi : P.info? t = some i) (e : tzero P t = some z) : ∃ Z, i.zero = some Z ∧ ofC Z = some z := by
  unfold tzero at e
  rw [hi] at e
  cases hz : i.zero with
  | none => simp [hz] at e
  | some Z => simp [hz] at e; exact ⟨Z, rfl, e⟩

theorem fill_size {place : Nat → Option (Nat × Nat)} : ∀ (Ps : List (Nat × Value)) (C R : Array Value), Instr.fill place C Ps = some R → R.size = C.size
  | [], C, R, e => by rw [Instr.fill] at e; cases e; rfl
  | (i, v) :: r, C, R, e => by
    rw [Instr.fill] at e
    split at e
    · cases e
    · split at e
      · cases e
      · rw [fill_size r _ R e]
        rename_i off size _ _
        have : ∀ (l : List (Value × Nat)) (c : Array Value), (l.foldl (fun (cs : Array Value) (x : Value × Nat) => cs.setIfInBounds (off + x.2) x.1) c).size = c.size := fun l => by
          induction l with
          | nil => intro c; rfl
          | cons x l ih => intro c; rw [List.foldl_cons, ih]; simp
        rw [← Array.foldl_toList]
        exact this _ _

theorem oBuildSlice_ok (p : Pre P D h ρ w m a) {t : TypeId} {len : Nat} {ps : Array (Nat × Operand)} (ho : o.op = .buildSlice t len ps) : OkR P D n h ρ w o a (oBuildSlice t len ps P m h n) := by
  unfold oBuildSlice
  cases hv : evL m ps.toList with
  | none => trivial
  | some vs =>
    have hp := evL_ok p hv
    show OkR P D n h ρ w o a (buildSliceA P n t len vs)
    unfold buildSliceA
    split
    · rename_i el hu
      split
      · rename_i z hz hs
        split
        · rename_i hg
          split
          · trivial
          · rename_i cs e
            intro fr
            simp only [Bool.and_eq_true] at hg
            obtain ⟨⟨g1, g2⟩, g3⟩ := hg
            have g1 := Nat.eq_of_beq_eq_true g1
            have g2 : len * tsz P el ≤ 16777216 := Nat.le_of_ble_eq_true g2
            have g3 := blt_lt g3
            obtain ⟨i, hi, his⟩ := has_info hs
            obtain ⟨Z, z1, z2⟩ := rZi hi hz
            obtain ⟨C, c1, c2⟩ := cells_ok (ofC_ok ρ _ _ z2)
            have hl := cvs_length c1
            obtain ⟨R, r1, r2⟩ := fill_ok e (repL_ok c1 len) hp
            have hpos : 0 < C.length := by omega
            have r3 := madeCells_rep C hpos len
            rw [hl, g1, his] at r3
            have r4 : Instr.fill (fun j => some (j * i.size, i.size)) (repV C len).toArray (ps.map fun (x : Nat × Operand) => (x.1, a.eval x.2)).toList = some R.toArray := by
              rw [← his]; simpa using r2
            refine ⟨ρ.put n ⟨w.heap.size, 0, 0, 0⟩, w.alloc (.cells R.toArray el), .slice (some ⟨w.heap.size, 0, none⟩) len len, .inl ?_, ?_, ext_cells (C := R.toArray) (fz := (0, 0)) p.sim fr rfl rfl rfl rfl ?_ (by simp) (.inl rfl) ?_⟩
            · by_cases h0 : len * i.size = 0
              · have h7 : len = 0 := by
                  rcases Nat.mul_eq_zero.1 h0 with h | h
                  · exact h
                  · omega
                subst h7
                have r5 : Instr.fill (fun j => some (j * i.size, i.size)) #[] (ps.toList.map fun (x : Nat × Operand) => (x.1, a.eval x.2)) = some R.toArray := by simpa [repV] using r4
                have hr : (Array.range 0).map (fun (_ : Nat) => (default : Value)) = #[] := by simp
                simp [execOp, ho, Instr.buildSlice, rU hu, rS hs, his, newRow]
                rw [hr, r5]
                simp
              · have := run_buildSlice w t el len (ps.map fun (x : Nat × Operand) => (x.1, a.eval x.2)) R.toArray i Z hu hi z1 (by rw [← his]; omega) h0 (by
                  have h6 : ((Array.range (len * i.size)).map (Z.cells[· % Z.cells.size]!)) = (repV C len).toArray := by rw [← r3, c2]; rfl
                  rw [h6]
                  exact r4)
                simp [execOp, ho, this]
            · rw [cv, Rn.put_at]
            · simp [cvs_length r1]
            · simpa using tree_cells r1 []
        · trivial
      · trivial
    · trivial

theorem oMakeSlice_ok (p : Pre P D h ρ w m a) {t : TypeId} {l c : Operand} (ho : o.op = .makeSlice t l c) : OkR P D n h ρ w o a (oMakeSlice t l c P m h n) :=
  okR_w1 p fun lv hlv => okR_w1 p fun cvv hcv => by
    unfold makeSliceA
    split
    · rename_i kl ln kc cn
      split
      · rename_i el hu
        split
        · rename_i z hz hs
          split
          · rename_i hg
            intro fr
            simp only [Bool.and_eq_true] at hg
            obtain ⟨⟨⟨⟨g1, g2⟩, g3⟩, g4⟩, g5⟩ := hg
            have g1 := Nat.eq_of_beq_eq_true g1
            have g2 := Nat.le_of_ble_eq_true g2
            have g3 := Nat.le_of_ble_eq_true g3
            have g4 := Nat.le_of_ble_eq_true g4
            have g5 := blt_lt g5
            obtain ⟨i, hi, his⟩ := has_info hs
            obtain ⟨Z, z1, z2⟩ := rZi hi hz
            obtain ⟨C, c1, c2⟩ := cells_ok (ofC_ok ρ _ _ z2)
            have hl := cvs_length c1
            rw [tinfo_bytes hi] at g3
            have hpos : 0 < C.length := by omega
            have r3 := madeCells_rep C hpos cn
            rw [hl, g1, his] at r3
            have hm := run_make (P := P) w t el i Z hu hi z1 kl kc (Int.ofNat ln) (Int.ofNat cn) (by simp) (by simpa using g2)
              (by
                have : (i.bytes : Int) * Int.ofNat cn = ((cn * i.bytes : Nat) : Int) := by simp [Int.mul_comm]
                rw [this]
                have : cn * i.bytes ≤ 1099511627776 := g3
                omega) (by simp; omega)
            have hr := repL_ok c1 cn
            refine ⟨ρ.put n ⟨w.heap.size, 0, 0, 0⟩, w.alloc (.cells (repV C cn).toArray el), .slice (some ⟨w.heap.size, 0, none⟩) ln cn, .inl ?_, ?_, ext_cells (C := (repV C cn).toArray) (fz := (0, 0)) p.sim fr rfl rfl rfl rfl ?_ (by simp) (.inl rfl) ?_⟩
            · rw [c2] at hm
              have e1 : (Int.ofNat cn).toNat = cn := rfl
              have e2 : (Int.ofNat ln).toNat = ln := rfl
              rw [e1, e2, r3] at hm
              simp only [execOp, ho, cv_nat hlv, cv_nat hcv]
              exact run_v hm
            · rw [cv, Rn.put_at]
            · simp [repV_length, his]; rw [hl, g1, his]; omega
            · intro j v hj hv
              have hlen := cvs_length hr
              have := tree_cells hr [] j v (by rw [← hlen, repV_length, hl, g1]; exact hj) hv
              simpa using this
          · trivial
        · trivial
      · trivial
    · trivial
end
end Go.Ex

/-! Slices of slices, arrays and strings. -/
namespace Go.Ex
section
variable {P : Program} {D : Nat → Option Blk} {n : Nat} {h : H} {ρ : Rn} {w : World} {m : M} {o : Oper} {a : Act}

/-- a bound: none, or a number -/
def BdOk (v : Option Nat) (V : Option Value) : Prop := match v, V with
  | none, none => True
  | some x, some (.int _ (.ofNat y)) => x = y
  | _, _ => False

theorem bd_ok (p : Pre P D h ρ w m a) {x : Option Operand} {v : Option AV} {r : Option Nat} (e : omap m x = some v) (er : optN v = some r) : BdOk r (x.map a.eval) := by
  cases x with
  | none => cases e; cases er; trivial
  | some x =>
    rw [omap] at e
    cases hx : ev x m with
    | none => rw [hx] at e; cases e
    | some u =>
      rw [hx] at e; cases e
      cases u <;> try (cases er; done)
      case nat k y =>
        cases er
        have := cv_nat (p.ev hx)
        simp [BdOk, this]

theorem run_bd {k : IntKind} {x y : Nat} {c : BoundsCode} (hx : x ≤ y) : (Instr.sliceBound (.int k (x : Int)) y c).run P w = .ok x w := by
  have := run_sliceBound (P := P) w k (x : Int) y c (by omega) (by omega)
  simpa using this

theorem sliceBounds_ok {b : Bool} {len cap l hh : Nat} {lo hi : Option Nat} {LO HI : Option Value} (h1 : BdOk lo LO) (h2 : BdOk hi HI) (e : bounds len cap lo hi = some (l, hh)) :
    (Instr.sliceBounds b len cap LO HI none).run P w = .ok (l, hh, cap) w ∧ l ≤ hh ∧ hh ≤ cap := by
  unfold bounds at e
  simp only at e
  split at e
  · rename_i hg
    cases e
    simp only [Bool.and_eq_true] at hg
    have g1 := Nat.le_of_ble_eq_true hg.1
    have g2 := Nat.le_of_ble_eq_true hg.2
    refine ⟨?_, g1, g2⟩
    rcases LO with _ | LO <;> rcases HI with _ | HI <;> rcases lo with _ | lo <;> rcases hi with _ | hi <;> try (first | exact h1.elim | exact h2.elim)
    · simp [Instr.sliceBounds]
    · rcases HI with _ | ⟨k, (y | y)⟩ <;> try exact h2.elim
      cases (h2 : hi = y)
      simp only [Option.getD_some, Option.getD_none] at g1 g2 ⊢
      simp [Instr.sliceBounds, run_bd g2]
    · rcases LO with _ | ⟨k, (y | y)⟩ <;> try exact h1.elim
      cases (h1 : lo = y)
      simp only [Option.getD_some, Option.getD_none] at g1 g2 ⊢
      simp [Instr.sliceBounds, run_bd g1]
    · rcases LO with _ | ⟨k, (y | y)⟩ <;> try exact h1.elim
      rcases HI with _ | ⟨k', (y' | y')⟩ <;> try exact h2.elim
      cases (h1 : lo = y)
      cases (h2 : hi = y')
      simp only [Option.getD_some] at g1 g2 ⊢
      simp [Instr.sliceBounds, run_bd g1, run_bd g2]
  · cases e

theorem sliceBounds3_ok {b : Bool} {len cap l hh mm h0 : Nat} {lo : Option Nat} {LO HI MX : Option Value} (h1 : BdOk lo LO) (h2 : BdOk (some h0) HI) (h3 : BdOk (some mm) MX)
    (e : bounds len mm lo (some h0) = some (l, hh)) (hm : mm ≤ cap) :
    (Instr.sliceBounds b len cap LO HI MX).run P w = .ok (l, hh, mm) w ∧ l ≤ hh ∧ hh ≤ mm := by
  unfold bounds at e
  simp only at e
  split at e
  · rename_i hg
    cases e
    simp only [Bool.and_eq_true] at hg
    have g1 := Nat.le_of_ble_eq_true hg.1
    have g2 := Nat.le_of_ble_eq_true hg.2
    refine ⟨?_, g1, g2⟩
    rcases HI with _ | (_ | ⟨k', (y' | y')⟩) <;> try exact h2.elim
    rcases MX with _ | (_ | ⟨k2, (y2 | y2)⟩) <;> try exact h3.elim
    cases (h2 : h0 = y')
    cases (h3 : mm = y2)
    simp only [Option.getD_some] at g1 g2 ⊢
    rcases LO with _ | LO <;> rcases lo with _ | lo <;> try (exact h1.elim)
    · simp [Instr.sliceBounds, run_bd g2, run_bd hm]
    · rcases LO with _ | ⟨k, (y | y)⟩ <;> try exact h1.elim
      cases (h1 : lo = y)
      simp only [Option.getD_some] at g1 g2 ⊢
      simp [Instr.sliceBounds, run_bd g1, run_bd g2, run_bd hm]
  · cases e

theorem cv_sl {b off len cap : Nat} {V : Value} (e : cv ρ (.sl b off len cap) = some V) : ∃ q, ρ.blk b = some q ∧ V = .slice (some ⟨q.B, q.d + off, none⟩) len cap := by
  rw [cv] at e
  cases hb : ρ.blk b with
  | none => rw [hb] at e; cases e
  | some q => rw [hb] at e; exact ⟨q, rfl, by cases e; rfl⟩
theorem cv_sl_mk {b off len cap : Nat} {q : Pl} (e : ρ.blk b = some q) : cv ρ (.sl b off len cap) = some (.slice (some ⟨q.B, q.d + off, none⟩) len cap) := by rw [cv, e]
theorem cv_slU {b k z len : Nat} {V : Value} (e : cv ρ (.slU b k z len) = some V) : ∃ q, ρ.blk b = some q ∧ q.z = z ∧ k + len ≤ q.c ∧ V = .slice (some ⟨q.B, q.d + k * z, none⟩) len (q.c - k) := by
  rw [cv] at e
  cases hb : ρ.blk b with
  | none => rw [hb] at e; cases e
  | some q =>
    rw [hb] at e
    dsimp only at e
    split at e
    · rename_i hc; exact ⟨q, rfl, hc.1, hc.2, by cases e; rfl⟩
    · cases e
theorem cv_slU_mk {b k z len : Nat} {q : Pl} (e : ρ.blk b = some q) (hz : q.z = z) (hc : k + len ≤ q.c) : cv ρ (.slU b k z len) = some (.slice (some ⟨q.B, q.d + k * z, none⟩) len (q.c - k)) := by
  rw [cv, e]; dsimp only; rw [if_pos ⟨hz, hc⟩]
theorem cv_slE {b : Nat} {V : Value} (e : cv ρ (.slE b) = some V) : ∃ A c, ρ.emp b = some (A, c) ∧ V = .slice (some A) 0 c := by
  rw [cv] at e
  cases hb : ρ.emp b with
  | none => rw [hb] at e; cases e
  | some q => rw [hb] at e; obtain ⟨A, c⟩ := q; exact ⟨A, c, rfl, by cases e; rfl⟩
theorem cv_nils {V : Value} (e : cv ρ .nils = some V) : V = .slice none 0 0 := by rw [cv] at e; exact inj_some e

theorem run_sl {t el : TypeId} {A : Option Addr} {len cap l hh mm : Nat} {LO HI MX : Option Value} (hu : P.underlying t = some (.slice el)) (hs : thas P el = true)
    (hb : (Instr.sliceBounds true len cap LO HI MX).run P w = .ok (l, hh, mm) w) :
    (Instr.sliceAt t (.slice A len cap) LO HI MX).run P w = .ok (.slice (if mm = l then A else A.map (·.add (l * tsz P el))) (hh - l) (mm - l)) w := by
  simp [Instr.sliceAt, Instr.slice, rU hu, hb, rS hs]

theorem toBA_extract {s : List Nat} {l hh : Nat} : (toBA s).extract l hh = toBA ((s.take hh).drop l) := by
  have hd : ∀ x : ByteArray, ∀ y : ByteArray, x.data = y.data → x = y := fun x y e => by cases x; cases y; cases e; rfl
  apply hd
  rw [ByteArray.data_extract]
  simp [toBA, List.map_drop, List.map_take, List.extract_toArray, List.extract_eq_take_drop, List.drop_take]

noncomputable def offW (i l off of2 : Nat) : Nat := match Nat.beq i l with | true => off | false => of2
theorem ifOff {q : Pl} {off i l sz : Nat} : (if i = l then some (⟨q.B, q.d + off, none⟩ : Addr) else (some (⟨q.B, q.d + off, none⟩ : Addr)).map (·.add (l * sz))) =
    some ⟨q.B, q.d + offW i l off (off + l * sz), none⟩ := by
  unfold offW
  by_cases e : i = l
  · subst e; rw [if_pos rfl, Nat.beq_refl]
  · rw [if_neg e, beq_ne e]
    simp [add_none, Nat.add_assoc]

theorem bounds_most {len cap cap' : Nat} {lo hi : Option Nat} {r : Nat × Nat} (e : bounds len cap lo hi = some r) (hc : cap ≤ cap') : bounds len cap' lo hi = some r := by
  unfold bounds at *
  simp only at *
  split at e
  · rename_i hg
    cases e
    simp only [Bool.and_eq_true] at hg
    have g2 := Nat.le_of_ble_eq_true hg.2
    rw [hg.1, Nat.ble_eq_true_of_le (Nat.le_trans g2 hc)]
    rfl
  · cases e

theorem sliceA_ok (p : Pre P D h ρ w m a) {t : TypeId} {x : Operand} {lo hi mx : Option Operand} (ho : o.op = .slice t x lo hi mx) {v : AV} (hv : cv ρ v = some (a.eval x)) {lov hiv mxv : Option AV}
    (e1 : omap m lo = some lov) (e2 : omap m hi = some hiv) (e3 : omap m mx = some mxv) : OkR P D n h ρ w o a (sliceA P n t v lov hiv mxv) := by
  unfold sliceA
  split
  · rename_i l1 h1 m1 b1 b2 b3
    have k1 := bd_ok p e1 b1
    have k2 := bd_ok p e2 b2
    have k3 := bd_ok p e3 b3
    clear b1 b2 b3 e1 e2 e3
    have hx : ∀ {V : Value} {r : AV}, (Instr.sliceAt t (a.eval x) (lo.map a.eval) (hi.map a.eval) (mx.map a.eval)).run P w = .ok V w → cv ρ r = some V → OkR P D n h ρ w o a (.ok r []) := fun {V r} hr hc => by
      refine okR_pure p (w' := w) ?_ (SameW.refl w) hc
      simp only [execOp, ho]
      exact run_v hr
    have hx0 : ∀ {V : Value}, (Instr.sliceAt t (a.eval x) (lo.map a.eval) (hi.map a.eval) (mx.map a.eval)).run P w = .ok V w → (execOp a.eval o).run P w = .ok (.value V) w := fun {V} hr => by
      simp only [execOp, ho]
      exact run_v hr
    generalize lo.map a.eval = LO at k1 hx hx0
    generalize hi.map a.eval = HI at k2 hx hx0
    generalize mx.map a.eval = MX at k3 hx hx0
    split
    · rename_i s
      obtain ⟨hs, hV⟩ := cv_str hv
      split
      · rename_i hu
        split
        · rename_i l hh hb
          cases MX with
          | some _ => exact k3.elim
          | none =>
          obtain ⟨q1, q2, q3⟩ := sliceBounds_ok (P := P) (w := w) (b := false) k1 k2 hb
          refine hx (V := .string ((toBA s).extract l hh)) ?_ ?_
          · rw [← toBA_size] at q1
            simp [hV, Instr.sliceAt, Instr.slice, rU hu, q1]
          · rw [toBA_extract]
            exact cv_str_mk fun y hy => hs y (List.mem_of_mem_take (List.mem_of_mem_drop hy))
        · trivial
      · trivial
    · rename_i hns
      split
      · rename_i len sz hl
        rcases elSz_some hl with ⟨len', el, hle, hu, hs, rfl⟩ | ⟨el, hle, _⟩
        · cases hle
          split
          · rename_i b off
            split
            · rename_i l hh hb
              cases MX with
              | some _ => exact k3.elim
              | none =>
              obtain ⟨q, hq, hV⟩ := cv_ptr hv
              obtain ⟨q1, q2, q3⟩ := sliceBounds_ok (P := P) (w := w) (b := false) k1 k2 hb
              refine hx ?_ (cv_sl_mk (off := offW len l off (off + l * tsz P el)) hq)
              rw [← ifOff]
              simp only [Instr.sliceAt, rU hu, hV, Instr.sureAddr, q1, rS hs, Sem.run_bind, Result.andThen_ok, Sem.run_pure]
              split <;> rfl
            · trivial
          · trivial
        · cases hle
      · rename_i sz hl
        rcases elSz_some hl with ⟨len', el, hle, hu, hs, rfl⟩ | ⟨el, _, hu, hs, rfl⟩
        · cases hle
        split
        · have hV := cv_nils hv
          split
          · rename_i r hb
            obtain ⟨l, hh⟩ := r
            cases MX with
            | some _ => exact k3.elim
            | none =>
            obtain ⟨q1, q2, q3⟩ := sliceBounds_ok (P := P) (w := w) (b := true) k1 k2 hb
            refine hx (by rw [hV]; exact run_sl hu hs q1) ?_
            have : hh = 0 ∧ l = 0 := by omega
            obtain ⟨rfl, rfl⟩ := this
            rw [cv]; rfl
          · rename_i r h0 hb
            obtain ⟨l, hh⟩ := r
            obtain ⟨q1, q2, q3⟩ := sliceBounds3_ok (P := P) (w := w) (b := true) (cap := 0) k1 k2 k3 hb (Nat.le_refl _)
            refine hx (by rw [hV]; exact run_sl hu hs q1) ?_
            have : hh = 0 ∧ l = 0 := by omega
            obtain ⟨rfl, rfl⟩ := this
            rw [cv]; rfl
          · trivial
        · rename_i b
          obtain ⟨A, c, hA, hV⟩ := cv_slE hv
          split
          · rename_i r hb
            obtain ⟨l, hh⟩ := r
            cases MX with
            | some _ => exact k3.elim
            | none =>
            obtain ⟨q1, q2, q3⟩ := sliceBounds_ok (P := P) (w := w) (b := true) k1 k2 (bounds_most hb (Nat.zero_le c))
            obtain ⟨_, q4, q5⟩ := sliceBounds_ok (P := P) (w := w) (b := true) k1 k2 hb
            have : hh = 0 ∧ l = 0 := by omega
            obtain ⟨rfl, rfl⟩ := this
            refine hx (by rw [hV]; exact run_sl hu hs q1) ?_
            rw [Nat.zero_mul, Nat.sub_zero]
            have : (if c = 0 then some A else Option.map (fun x => x.add 0) (some A)) = some A := by
              split
              · rfl
              · simp [Addr.add]
            rw [this, cv, hA]; rfl
          · trivial
        · rename_i b off len cap
          obtain ⟨q, hq, hV⟩ := cv_sl hv
          split
          · split
            · rename_i l hh hb
              cases MX with
              | some _ => exact k3.elim
              | none =>
              obtain ⟨q1, q2, q3⟩ := sliceBounds_ok (P := P) (w := w) (b := true) k1 k2 hb
              refine hx (by rw [hV]; exact run_sl hu hs q1) ?_
              rw [ifOff]
              exact cv_sl_mk hq
            · trivial
          · rename_i mm
            split
            · rename_i h0 l hh hm hb
              obtain ⟨q1, q2, q3⟩ := sliceBounds3_ok (P := P) (w := w) (b := true) (cap := cap) k1 k2 k3 hb (Nat.le_of_ble_eq_true hm)
              refine hx (by rw [hV]; exact run_sl hu hs q1) ?_
              rw [ifOff]
              exact cv_sl_mk hq
            · trivial
        · rename_i b k z len
          obtain ⟨q, hq, hz, hc, hV⟩ := cv_slU hv
          split
          · trivial
          · rename_i hzz
            have hzz := Nat.eq_of_beq_eq_true hzz
            split
            · split
              · rename_i l hh hb
                cases MX with
                | some _ => exact k3.elim
                | none =>
                obtain ⟨_, q2, q3⟩ := sliceBounds_ok (P := P) (w := w) (b := true) k1 k2 hb
                obtain ⟨q1, _, _⟩ := sliceBounds_ok (P := P) (w := w) (b := true) k1 k2 (bounds_most hb (show len ≤ q.c - k by omega))
                split
                · rename_i hlt
                  have hlt := blt_lt hlt
                  refine hx (by rw [hV]; exact run_sl hu hs q1) ?_
                  rw [if_neg (by omega)]
                  have := cv_slU_mk (b := b) (k := k + l) (z := z) (len := hh - l) hq hz (by omega)
                  rw [show q.c - k - l = q.c - (k + l) from by omega]
                  simp only [Option.map_some, add_none, ← hzz]
                  rw [show q.d + k * z + l * z = q.d + (k + l) * z from by rw [Nat.add_mul]; omega]
                  exact this
                · rename_i hnl
                  have hl : l = len := by
                    rcases Nat.lt_or_ge l len with h | h
                    · have : Nat.blt l len = true := by rw [Nat.blt_eq]; exact h
                      rw [this] at hnl; cases hnl
                    · omega
                  subst hl
                  split
                  · rename_i h0
                    have h0 := Nat.eq_of_beq_eq_true h0
                    subst h0
                    refine hx (by rw [hV]; exact run_sl hu hs q1) ?_
                    rw [Nat.zero_mul]
                    have : (if q.c - k = 0 then some (⟨q.B, q.d + k * z, none⟩ : Addr) else Option.map (fun x => Addr.add x 0) (some ⟨q.B, q.d + k * z, none⟩)) = some ⟨q.B, q.d + k * z, none⟩ := by
                      split
                      · rfl
                      · simp [Addr.add]
                    rw [this]
                    rw [show hh - 0 = 0 from by omega, Nat.sub_zero]
                    exact cv_slU_mk hq hz (by omega)
                  · intro fr
                    have hr := run_sl (P := P) (w := w) (A := some ⟨q.B, q.d + k * z, none⟩) hu hs q1
                    obtain ⟨A, hA⟩ : ∃ A, (if q.c - k = l then some (⟨q.B, q.d + k * z, none⟩ : Addr) else Option.map (fun x => Addr.add x (l * tsz P el)) (some ⟨q.B, q.d + k * z, none⟩)) = some A := by
                      split
                      · exact ⟨_, rfl⟩
                      · exact ⟨_, rfl⟩
                    rw [hA] at hr
                    rw [show hh - l = 0 from by omega] at hr
                    refine ⟨ρ.putE n (A, q.c - k - l), w, .slice (some A) 0 (q.c - k - l), .inl ?_, ?_, Ext.empty p.sim fr _ (SameW.refl w)⟩
                    · exact hx0 (by rw [hV]; exact hr)
                    · rw [cv, Rn.putE_at]
              · trivial
            · rename_i mm
              split
              · rename_i h0 l hh hm hb
                have hm := Nat.le_of_ble_eq_true hm
                obtain ⟨q1, q2, q3⟩ := sliceBounds3_ok (P := P) (w := w) (b := true) (cap := q.c - k) k1 k2 k3 hb (by omega)
                refine hx (by rw [hV]; exact run_sl hu hs q1) ?_
                rw [ifOff, ← hzz]
                exact cv_sl_mk hq
              · trivial
        · trivial
      · trivial
  · trivial

theorem oSlice_ok (p : Pre P D h ρ w m a) {t : TypeId} {x : Operand} {lo hi mx : Option Operand} (ho : o.op = .slice t x lo hi mx) : OkR P D n h ρ w o a (oSlice t x lo hi mx P m h n) :=
  okR_w1 p fun v hv => by
    cases e1 : omap m lo with
    | none => trivial
    | some l => cases e2 : omap m hi with
      | none => trivial
      | some hh => cases e3 : omap m mx with
        | none => trivial
        | some q => exact sliceA_ok p ho hv e1 e2 e3
end
end Go.Ex

/-! Elements of slices; bytes and strings. -/
namespace Go.Ex

theorem bytesUp_ok {ρ : Rn} : ∀ {cs : List AV} {s : List Nat} {L : List Value}, bytesUp cs = some s → cvs ρ cs = some L → bytesIn s ∧ L = (s.map Int.ofNat).map (Value.int .u8)
  | [], s, L, e, hc => by rw [bytesUp] at e; cases e; rw [cvs] at hc; cases hc; exact ⟨fun x hx => by simp at hx, rfl⟩
  | v :: r, s, L, e, hc => by
    obtain ⟨V, Vs, h1, h2, rfl⟩ := cvs_cons hc
    cases v <;> try (cases e; done)
    case nat k b =>
      cases k <;> try (cases e; done)
      rw [bytesUp] at e
      cases hb : Nat.blt b 256 with
      | false => rw [hb] at e; cases e
      | true =>
        rw [hb] at e
        cases hr : bytesUp r with
        | none => rw [hr] at e; cases e
        | some u =>
          rw [hr] at e; cases e
          obtain ⟨h3, rfl⟩ := bytesUp_ok hr h2
          rw [cv_nat h1]
          refine ⟨fun x hx => ?_, rfl⟩
          rcases List.mem_cons.1 hx with rfl | hx
          · exact blt_lt hb
          · exact h3 x hx

theorem foldl_push : ∀ (s acc : List Nat), (s.map Int.ofNat).foldl (fun (r : ByteArray) n => r.push (UInt8.ofNat n.toNat)) (toBA acc) = toBA (acc ++ s)
  | [], acc => by simp
  | x :: s, acc => by
    have : (toBA acc).push (UInt8.ofNat x) = toBA (acc ++ [x]) := by
      unfold toBA ByteArray.push
      simp
    rw [List.map_cons, List.foldl_cons]
    show (s.map Int.ofNat).foldl _ ((toBA acc).push (UInt8.ofNat x)) = _
    rw [this, foldl_push s (acc ++ [x])]
    simp

theorem cvs_bytes {ρ : Rn} : ∀ (s : List Nat), cvs ρ (s.map (.nat .u8)) = some ((s.map Int.ofNat).map (Value.int .u8))
  | [] => cvs_nil ρ
  | x :: s => cvs_mk (cv_nat' ρ .u8 x) (cvs_bytes s)

theorem toBA_cells {s : List Nat} (hs : bytesIn s) : (toBA s).data.map (fun b => Value.int .u8 b.toNat) = ((s.map Int.ofNat).map (Value.int .u8)).toArray := by
  unfold toBA
  simp only [List.map_toArray, List.map_map]
  congr 1
  apply List.map_congr_left
  intro x hx
  have := hs x hx
  simp
  omega

section
variable {P : Program} {D : Nat → Option Blk} {n : Nat} {h : H} {ρ : Rn} {w : World} {m : M} {o : Oper} {a : Act}

/-- what stands behind a slice of elements -/
theorem slCells_ok (hs : Sim ρ (un h D) w) {sz k : Nat} {x : AV} {cs : List AV} {V : Value} (e : slCells h sz x k = some cs) (hv : cv ρ x = some V) :
    (∃ L, cvs ρ cs = some L ∧ (∃ A l c, V = .slice (some A) l c ∧ (loadCells A (k * sz)).run P w = .ok L.toArray w) ∧ L.length = k * sz) ∨
    (cs = [] ∧ (V = .slice none 0 0 ∨ ∃ A c, V = .slice (some A) 0 c)) := by
  have main : ∀ {b off len : Nat}, slAt sz x = some (b, off, len) → (match getB h b with | some (.cells _ n t) => cellsOf t n (Nat.mul k sz) off | _ => none) = some cs →
      ∃ L, cvs ρ cs = some L ∧ (∃ A l c, V = .slice (some A) l c ∧ (loadCells A (k * sz)).run P w = .ok L.toArray w) ∧ L.length = k * sz := fun {b off len} e1 e2 => by
    obtain ⟨q, cap, h1, h2⟩ := slAt_some e1 hv
    split at e2
    · rename_i el n' t hb
      obtain ⟨q', C, fz, kk⟩ := hs.cells hb
      rw [kk.hp] at h1; cases h1
      obtain ⟨L, l1, l2, l3⟩ := kk.loads (P := P) e2
      exact ⟨L, l1, ⟨_, _, _, h2, l3⟩, l2⟩
    · cases e2
  cases x <;> try (cases e; done)
  case nils => rw [slCells] at e; cases e; exact .inr ⟨rfl, .inl (cv_nils hv)⟩
  case slE b => rw [slCells] at e; cases e; obtain ⟨A, c, _, h2⟩ := cv_slE hv; exact .inr ⟨rfl, .inr ⟨A, c, h2⟩⟩
  case sl b off len cap => exact .inl (main rfl e)
  case slU b k' z len =>
    cases hz : slAt sz (.slU b k' z len) with
    | none => rw [slCells, hz] at e <;> first | (cases e; done) | (intros; contradiction)
    | some bol =>
      obtain ⟨b', off, len'⟩ := bol
      rw [slCells, hz] at e <;> first | exact .inl (main hz e) | (intros; contradiction)

theorem lenA_ok {x : AV} {k : Nat} {V : Value} (e : lenA x = some k) (hv : cv ρ x = some V) : ∃ A c, V = .slice A k c := by
  cases x <;> try (cases e; done)
  case nils => cases e; exact ⟨_, _, cv_nils hv⟩
  case slE b => cases e; obtain ⟨A, c, _, h2⟩ := cv_slE hv; exact ⟨_, _, h2⟩
  case sl b off len cap => cases e; obtain ⟨q, _, h2⟩ := cv_sl hv; exact ⟨_, _, h2⟩
  case slU b k' z len => cases e; obtain ⟨q, _, _, _, h2⟩ := cv_slU hv; exact ⟨_, _, h2⟩

/-- a block is written that says no more than before -/
theorem Ext.touch {w' : World} {b : Nat} {k : Blk} {q : Pl} (hs : Sim ρ (un h D) w) (hb : getB h b = some k) (h100 : 100 ≤ b) (hp : ρ.blk b = some q)
    (same : ∀ X, X ≠ q.B → w'.heap[X]? = w.heap[X]?) (hz : w'.heap.size = w.heap.size) (ho : w'.os = w.os) (ht : w'.tape = w.tape) (hu : w'.output = w.output)
    (ok : BlkOk ρ w' b k) : Ext D n h ρ w n h ρ w' where
  nle := Nat.le_refl _
  le := Rn.le.refl ρ
  out := fun _ _ => ⟨rfl, rfl⟩
  sim := by
    have e : un h D = fun c => if c = b then some k else un h D c := funext fun c => by
      by_cases hc : c = b
      · subst hc; rw [if_pos rfl]; exact un_some hb
      · rw [if_neg hc]
    rw [e]
    exact hs.write (un_some hb) hp same ok
  dom := fun c hc => .inl hc
  size := by omega
  keep := fun X _ hn => same X fun e => hn b q (by rw [hb]; simp) hp e.symm
  img := fun c q hc hq => .inr ⟨c, q, hc, hq, rfl⟩
  os := ho
  tape := ht
  output := hu
  ro := fun g hg hn => by
    have hne : g ≠ b := by omega
    obtain ⟨c, hc⟩ := Option.ne_none_iff_exists'.1 hn
    exact ⟨hn, same g fun e => hne (hs.inj g b c k _ q (un_some hc) (un_some hb) (hs.glob g hg) hp e)⟩

theorem run_mark_stringish {A : Addr} {C : Array Value} {el : TypeId} {fz : Nat × Nat} (hw : w.heap[A.block]? = some (.cells C el fz)) (hz : fz.1 = fz.2 ∨ C.size ≤ fz.1) :
    ∃ w' fz', (markStringish A).run P w = .ok () w' ∧ w'.heap[A.block]? = some (.cells C el fz') ∧ C.size ≤ fz'.1 ∧ (∀ X, X ≠ A.block → w'.heap[X]? = w.heap[X]?) ∧ w'.heap.size = w.heap.size ∧
      w'.os = w.os ∧ w'.tape = w.tape ∧ w'.output = w.output := by
  have hsh : w.shape? A.block = some (el, C.size) := by simp [World.shape?, hw]
  obtain ⟨lo, hi⟩ := fz
  refine ⟨w.freeze ⟨A.block, C.size, none⟩ 1, if lo == hi then (C.size, C.size + 1) else (min lo C.size, max hi (C.size + 1)), ?_, ?_, ?_, ?_, ?_, ?_, ?_, ?_⟩
  · simp [markStringish, hsh]
  · simp [World.freeze, Array.getElem?_modify, hw]
  · split
    · simp
    · rename_i hne
      have : C.size ≤ lo := by
        rcases hz with hz | hz
        · simp only at hz; subst hz; simp at hne
        · exact hz
      simp; omega
  · intro X hX
    simp [World.freeze, Array.getElem?_modify, Ne.symm hX]
  · simp [World.freeze]
  · simp [World.freeze]
  · simp [World.freeze]
  · simp [World.freeze]

theorem cut_cap (need old : Nat) (el : TypeId) (t : Nat) : need ≤ (Question.appendCap need old el).cut t := by
  simp [Question.cut]
end
end Go.Ex
