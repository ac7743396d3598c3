/- The executor, text Xd. -/
import Derived.Test.YteehfknepkpbnaaGreatDoorXc
/-! Numbers of blocks only rise. -/
namespace Go.Ex

def MonoX (k : St → XR) : Prop := ∀ s e r, k s = .ok e r → s.n ≤ r.n
def MonoK (K : KT) : Prop := ∀ f args h n v h' n', K f args h n = .ok v h' n' → n ≤ n'

theorem mkSt_eq (dst : Option Nat) (v : AV) (tm : M) (h : H) (n : Nat) (df : List Dfr) (k : St → XR) : mkSt dst v tm h n df k = k ⟨putT tm dst v, h, n, df⟩ := by cases dst <;> rfl
theorem finOk_eq (dst : Option Nat) (tm : M) (h : H) (n : Nat) (df : List Dfr) (k : St → XR) (v : AV) (ws : List (Nat × Option Blk)) :
    finOk dst tm h n df k v ws = k ⟨putT tm dst v, applyW h ws, n, df⟩ := by
  cases ws with
  | nil => exact mkSt_eq ..
  | cons w ws => exact mkSt_eq ..
theorem finNew_eq (dst : Option Nat) (tm : M) (h : H) (n : Nat) (df : List Dfr) (k : St → XR) (v : AV) (ws : List (Nat × Option Blk)) :
    finNew dst tm h n df k v ws = k ⟨putT tm dst v, applyW h ws, n + 1, df⟩ := by
  unfold finNew
  rw [strictN_eq, mkSt_eq]

/-- what an operation under no guard does -/
def RopIs (E : Env) (K : KT) (o : Oper) (s : St) (k : St → XR) (e : Ex) (r : St) : Prop :=
  (∃ v ws, aop o.op E.P s.tm s.h s.n = .ok v ws ∧ k ⟨putT s.tm o.dst v, applyW s.h ws, s.n, s.df⟩ = .ok e r) ∨
  (∃ v ws, aop o.op E.P s.tm s.h s.n = .new v ws ∧ k ⟨putT s.tm o.dst v, applyW s.h ws, s.n + 1, s.df⟩ = .ok e r) ∨
  (∃ c f args v h' n', o.op = .call c ∧ callee E s.tm s.h c = some (f, args) ∧ K f args s.h s.n = .ok v h' n' ∧ k ⟨putT s.tm o.dst v, h', n', s.df⟩ = .ok e r) ∨
  (∃ c f args, o.op = .defer c ∧ calleeV s.tm c = some (f, args) ∧ k ⟨putT s.tm o.dst (.tup []), s.h, s.n, ⟨f, [], args⟩ :: s.df⟩ = .ok e r)

theorem rOp_is {E : Env} {K : KT} {o : Oper} {s : St} {k : St → XR} {e : Ex} {r : St} {x : AOp} (hx : aop o.op = x) (h : rOp x E K o.dst s k = .ok e r) : RopIs E K o s k e r := by
  obtain ⟨tm, hh, n, df⟩ := s
  have h1 : finO o.dst tm hh n df k (x E.P tm hh n) = .ok e r := h
  cases hr : x E.P tm hh n with
  | no => rw [hr] at h1; cases h1
  | ok v ws =>
    rw [hr] at h1
    have h2 : finOk o.dst tm hh n df k v ws = .ok e r := h1
    rw [finOk_eq] at h2
    exact .inl ⟨v, ws, by rw [hx]; exact hr, h2⟩
  | new v ws =>
    rw [hr] at h1
    have h2 : finNew o.dst tm hh n df k v ws = .ok e r := h1
    rw [finNew_eq] at h2
    exact .inr (.inl ⟨v, ws, by rw [hx]; exact hr, h2⟩)

theorem rMove_is {E : Env} {K : KT} {o : Oper} {s : St} {k : St → XR} {e : Ex} {r : St} {x : Operand} (hx : aop o.op = oMove x) (h : rMove x E K o.dst s k = .ok e r) : RopIs E K o s k e r := by
  obtain ⟨tm, hh, n, df⟩ := s
  have h1 : (Option.rec (.no 5) (fun v => mkSt o.dst v tm hh n df k) (ev x tm) : XR) = .ok e r := h
  cases hr : ev x tm with
  | none => rw [hr] at h1; cases h1
  | some v =>
    rw [hr] at h1
    have h2 : mkSt o.dst v tm hh n df k = .ok e r := h1
    rw [mkSt_eq] at h2
    exact .inl ⟨v, [], by rw [hx]; show ofO (ev x tm) = _; rw [hr]; rfl, h2⟩

theorem rop_is {E : Env} {K : KT} {o : Oper} {s : St} {k : St → XR} {e : Ex} {r : St} (h : rop o.op E K o.dst s k = .ok e r) : RopIs E K o s k e r := by
  cases ho : o.op with
  | move x => rw [ho] at h; exact rMove_is (by rw [ho]; rfl) h
  | assign x => rw [ho] at h; exact rMove_is (by rw [ho]; rfl) h
  | call c =>
    rw [ho] at h
    have h1 : rCall c E K o.dst s k = .ok e r := h
    unfold rCall at h1
    cases hb : isBuiltin c.callee with
    | true => rw [hb] at h1; exact rOp_is (by rw [ho]; rfl) h1
    | false =>
      rw [hb] at h1
      obtain ⟨tm, hh, n, df⟩ := s
      have h2 : (Option.rec (.no 3) (fun fa => Prod.rec (fun f args => finC o.dst tm df k (K f args hh n)) fa) (callee E tm hh c) : XR) = .ok e r := h1
      cases hc : callee E tm hh c with
      | none => rw [hc] at h2; cases h2
      | some fa =>
        obtain ⟨f, args⟩ := fa
        rw [hc] at h2
        have h3 : finC o.dst tm df k (K f args hh n) = .ok e r := h2
        cases hK : K f args hh n with
        | no w => rw [hK] at h3; cases h3
        | ok v h' n' =>
          rw [hK] at h3
          have h4 : mkSt o.dst v tm h' n' df k = .ok e r := h3
          rw [mkSt_eq] at h4
          exact .inr (.inr (.inl ⟨c, f, args, v, h', n', ho, hc, hK, h4⟩))
  | defer c =>
    rw [ho] at h
    obtain ⟨tm, hh, n, df⟩ := s
    have h2 : (Option.rec (.no 4) (fun fa => Prod.rec (fun f args => mkSt o.dst (.tup []) tm hh n (⟨f, [], args⟩ :: df) k) fa) (calleeV tm c) : XR) = .ok e r := h
    cases hc : calleeV tm c with
    | none => rw [hc] at h2; cases h2
    | some fa =>
      obtain ⟨f, args⟩ := fa
      rw [hc] at h2
      have h3 : mkSt o.dst (.tup []) tm hh n (⟨f, [], args⟩ :: df) k = .ok e r := h2
      rw [mkSt_eq] at h3
      exact .inr (.inr (.inr ⟨c, f, args, ho, hc, h3⟩))
  | _ =>
    rw [ho] at h
    first
      | exact rOp_is (by rw [ho]; rfl) h
      | exact rOp_is (x := oNo) (by rw [ho]; rfl) h
end Go.Ex

/-! A region in the order of the text. -/
namespace Go.Ex

/-- deferred calls -/
def DfOk (ρ : Rn) : List Dfr → List Deferred → Prop
  | [], [] => True
  | d :: ds, D :: Ds => (∃ caps L, D.target = .fn (.func d.f) caps ∧ cvs ρ d.args = some L ∧ D.args ++ caps = L.toArray) ∧ DfOk ρ ds Ds
  | _, _ => False

theorem DfOk.mono {ρ ρ' : Rn} (hl : ρ.le ρ') : ∀ {ds : List Dfr} {Ds : List Deferred}, DfOk ρ ds Ds → DfOk ρ' ds Ds
  | [], [], _ => trivial
  | _ :: _, _ :: _, ⟨⟨caps, L, h1, h2, h3⟩, hr⟩ => ⟨⟨caps, L, h1, cvs_mono hl _ _ h2, h3⟩, hr.mono hl⟩
  | [], _ :: _, h => h.elim
  | _ :: _, [], h => h.elim

structure StOk (P : Program) (D : Nat → Option Blk) (N nt : Nat) (ρ : Rn) (w : World) (s : St) (a : Act) : Prop where
  pre : Pre P D s.h ρ w s.tm a
  fr : Fr ρ s.h D s.n N
  df : DfOk ρ s.df a.defers
  sz : a.tmps.size = nt

/-- THE WORD OF A CALL. -/
def CallOk (P : Program) (f : Nat) (args : List AV) (h : H) (n : Nat) (v : AV) (h' : H) (n' : Nat) : Prop :=
  n ≤ n' ∧ ∀ (D : Nat → Option Blk) (ρ : Rn) (w : World) (L : List Value), Sim ρ (un h D) w → (∀ b, D b ≠ none → getB h b = none) → Fr ρ h D n n' → cvs ρ args = some L →
    ∀ (o : Oper) (a : Act) (next : Act → World → Prop) (Q : Exit → Act → World → Prop),
      (∀ V ρ' w', cv ρ' v = some V → Ext D n h ρ w n' h' ρ' w' → next (a.put o.dst V) w') → o.upon P a next Q ((callFunc f L.toArray).run P w)
def KOk (P : Program) (K : KT) : Prop := ∀ f args h n v h' n', K f args h n = .ok v h' n' → CallOk P f args h n v h' n'

section
variable {P : Program} {D : Nat → Option Blk} {N nt : Nat} {ρ ρ' : Rn} {w w' : World} {s : St} {a : Act}

/-- the state behind an operation -/
theorem StOk.next (st : StOk P D N nt ρ w s a) {n' : Nat} {h' : H} (x : Ext D s.n s.h ρ w n' h' ρ' w') (hn : n' ≤ N) {v : AV} {V : Value} (hv : cv ρ' v = some V) {dst : Option Nat} (hd : ∀ d, dst = some d → d < nt) :
    StOk P D N nt ρ' w' ⟨putT s.tm dst v, h', n', s.df⟩ (a.put dst V) where
  pre := {
    sim := x.sim
    dis := fun b hb => by
      cases hg : getB h' b with
      | none => rfl
      | some k =>
        rcases x.dom b (by rw [hg]; simp) with h | h
        · exact absurd (st.pre.dis b hb) h
        · exact absurd (st.fr.D b h.1 (by omega)) hb
    fr := (st.pre.fr.mono x.le).putO hv fun d e => by rw [st.sz]; exact hd d e }
  fr := st.fr.behind x
  df := by
    cases dst with
    | none => exact st.df.mono x.le
    | some d => exact st.df.mono x.le
  sz := by rw [put_size]; exact st.sz
end
end Go.Ex

/-! What a call comes to. -/
namespace Go.Ex
section
variable {P : Program} {D : Nat → Option Blk} {ρ : Rn} {w : World} {h : H} {m : M} {a : Act} {o : Oper}

/-- the method's function, and the receiver that it is handed -/
theorem mtP_some {t : Nat} {name : String} {f : Nat} {el : Option Nat} (e : mtP P t name = some (f, el)) : ∃ i mm d b, P.info? t = some i ∧ i.methods.find? (·.name == name) = some mm ∧ mm.path = #[] ∧ mm.func = some (f, b) ∧ P.underlying t = some d ∧
    ((el = none ∧ (b = true ∧ (∃ x, d = .pointer x) ∨ b = false ∧ ∀ x, d ≠ .pointer x)) ∨ (∃ x, el = some x ∧ b = false ∧ d = .pointer x)) := by
  unfold mtP at e
  cases hi : P.info? t with
  | none => rw [hi] at e; cases e
  | some i =>
    rw [hi] at e
    simp only at e
    cases hm : i.methods.find? (·.name == name) with
    | none => rw [hm] at e; cases e
    | some mm =>
      rw [hm] at e
      simp only at e
      split at e
      · rename_i hp hf hu
        cases e
        exact ⟨i, mm, _, true, rfl, hm, by simpa using hp, hf, hu, .inl ⟨rfl, .inl ⟨rfl, _, rfl⟩⟩⟩
      · rename_i hp hf hu
        cases e
        exact ⟨i, mm, _, false, rfl, hm, by simpa using hp, hf, hu, .inr ⟨_, rfl, rfl, rfl⟩⟩
      · cases e
      · rename_i hn hp hf hu
        cases e
        exact ⟨i, mm, _, false, rfl, hm, by simpa using hp, hf, hu, .inl ⟨rfl, .inr ⟨rfl, fun x hx => hn x hx⟩⟩⟩
      · cases e

theorem meth_none {t : Nat} {name : String} {f : Nat} {V : Value} (e : mtP P t name = some (f, none)) (k : Nat) : (method (k + 1) t V name).run P w = .ok (f, V) w := by
  obtain ⟨i, mm, d, b, hi, hm, hp, hf, hu, (⟨_, hb⟩ | ⟨x, hx, _⟩)⟩ := mtP_some e
  · rcases hb with ⟨rfl, x, rfl⟩ | ⟨rfl, hn⟩
    · simp [method, typeInfo, hi, hm, hp, hf, follow, receiverAt, rU hu, Place.get]
    · cases d <;> first
        | exact absurd rfl (hn _)
        | simp [method, typeInfo, hi, hm, hp, hf, follow, receiverAt, rU hu, Place.get]
  · cases hx

theorem run_wrapchk {ats : Array TypeId} {ty : TypeId} {A : Addr} {x y : String} : (Builtin.ssaWrapNilChk_ ats ty #[.pointer (some A), strVal x, strVal y]).run P w = .ok (.pointer (some A)) w := rfl

theorem meth_some {t : Nat} {name : String} {f el : Nat} {A : Addr} {R : Value} (e : mtP P t name = some (f, some el)) (k : Nat) (hl : (loadVar el A).run P w = .ok R w) :
    (method (k + 1) t (.pointer (some A)) name).run P w = .ok (f, R) w := by
  obtain ⟨i, mm, d, b, hi, hm, hp, hf, hu, (⟨hx, _⟩ | ⟨x, hx, rfl, rfl⟩)⟩ := mtP_some e
  · cases hx
  · cases hx
    simp [method, typeInfo, hi, hm, hp, hf, follow, receiverAt, rU hu, Place.get, run_wrapchk, asAddr, hl]
end
end Go.Ex

/-! A call's function and arguments. -/
namespace Go.Ex
section
variable {P : Program} {D : Nat → Option Blk} {ρ : Rn} {w : World} {h : H} {m : M} {a : Act} {o : Oper}

theorem callee_ok (p : Pre P D h ρ w m a) {E : Env} (hP : E.P = P) (hM : E.mt = mtP P) {c : Call} {f : Nat} {args : List AV} (e : callee E m h c = some (f, args)) :
    ∃ L, cvs ρ args = some L ∧ (∀ o : Oper, o.op = .call c → (execOp a.eval o).run P w = (callFunc f L.toArray).run P w) := by
  unfold callee at e
  split at e
  · rename_i fo hc
    split at e
    · rename_i f' x cap hf
      split at e
      · rename_i as hA
        cases e
        obtain ⟨X, C, h1, h2, h3⟩ := cv_fn (p.ev hf)
        have h4 := evs_ok p hA
        refine ⟨X ++ c.args.toList.map a.eval ++ C, cvs_append (cvs_append h1 h4) h2, fun o ho => ?_⟩
        have : X.toArray ++ c.args.map a.eval ++ C.toArray = (X ++ c.args.toList.map a.eval ++ C).toArray := by apply Array.toList_inj.1; simp
        rw [← this]
        simp only [execOp, ho, resolve, hc, h3, Deferred.ofValue, pure_bind, invoke]
      · cases e
    · cases e
  · rename_i r name hc
    have hcall : ∀ {t : Nat} {V R : Value} {f : Nat} (o : Oper), o.op = .call c → a.eval r = .iface t V → (∀ k, (method (k + 1) t V name).run P w = .ok (f, R) w) →
        (execOp a.eval o).run P w = (callFunc f (R :: c.args.toList.map a.eval).toArray).run P w := fun {t V R f} o ho hr hm => by
      have harr : (#[Value.iface t V] ++ c.args.map a.eval).extract 1 (#[Value.iface t V] ++ c.args.map a.eval).size = c.args.map a.eval := by
        apply Array.toList_inj.1; simp [List.take_of_length_le]
      have h0 : (#[Value.iface t V] ++ c.args.map a.eval)[0]? = some (Value.iface t V) := by rw [Array.getElem?_append_left (by simp)]; rfl
      have hfin : #[R] ++ c.args.map a.eval = (R :: c.args.toList.map a.eval).toArray := by apply Array.toList_inj.1; simp
      have hd : P.types.size + Made.depth = (P.types.size + 99) + 1 := rfl
      have hp : (program : Sem Program).run P w = .ok P w := rfl
      simp only [execOp, ho, resolve, hc, pure_bind, hr]
      show (invoke (.fn (.method name) #[]) (#[Value.iface t V] ++ c.args.map a.eval)).run P w = _
      unfold invoke
      simp only [h0, harr, callMethod, Sem.run_bind, hp, Result.andThen_ok, hd, hm, hfin]
    split at e
    · rename_i t v hv
      obtain ⟨V, h1, h2⟩ := cv_ifc (p.ev hv)
      rw [hM] at e
      split at e
      · rename_i f' hm
        split at e
        · rename_i as hA
          cases e
          exact ⟨_, cvs_mk h1 (evs_ok p hA), fun o ho => hcall o ho h2 fun k => meth_none hm k⟩
        · cases e
      · rename_i f' el hm
        split at e
        · rename_i v' hl
          split at e
          · rename_i as hA
            cases e
            rw [hP] at hl
            obtain ⟨A, R, g1, g2, g3⟩ := loadVar_ok p.sim hl
            rw [g1] at h1; cases h1
            exact ⟨_, cvs_mk g2 (evs_ok p hA), fun o ho => hcall o ho h2 fun k => meth_some hm k g3⟩
          · cases e
        · cases e
      · cases e
    · cases e
  · cases e
end
end Go.Ex

/-! A region in the order of the text. -/
namespace Go.Ex
section
variable {P : Program} {D : Nat → Option Blk} {N nt : Nat} {ρ : Rn} {w : World} {h : H} {m : M} {a : Act} {ops : Array Oper}

theorem cv_undef (ρ : Rn) : cv ρ (.tup []) = some undef := by rw [cv, cvs]; rfl

theorem guardA_ok (hf : FrameOk ρ m a) {o : Oper} {b : Bool} (e : guardA ops m o = some b) : Region.wanted o (yielded ops a.tmps) = b := by
  unfold guardA at e
  unfold Region.wanted
  cases hg : o.guard with
  | none => rw [hg] at e; cases e; rfl
  | some jw =>
    obtain ⟨j, want⟩ := jw
    rw [hg] at e
    simp only at e ⊢
    unfold yielded
    cases hd : (ops[j]?).bind (·.dst) with
    | none => rw [hd] at e; cases e
    | some d =>
      rw [hd] at e
      simp only at e
      cases hv : m.get d with
      | none => rw [hv] at e; cases e
      | some v =>
        obtain ⟨V, h1, h2⟩ := hf d v hv
        rw [hv] at e
        simp only [Option.bind_some, h2]
        cases v <;> try (cases e; done)
        case bool c =>
          have := cv_bool h1
          subst this
          cases c <;> cases want <;> cases e <;> rfl
        case tup l =>
          cases l with
          | cons _ _ => cases e
          | nil =>
            cases e
            rw [cv_undef] at h1; cases h1
            cases want <;> rfl

theorem calleeV_ok (p : Pre P D h ρ w m a) {c : Call} {f : Nat} {args : List AV} (e : calleeV m c = some (f, args)) :
    ∃ L caps A, cvs ρ args = some L ∧ A ++ caps = L.toArray ∧ ∀ o : Oper, o.op = .defer c → (execOp a.eval o).run P w = .ok (.defer ⟨.fn (.func f) caps, A⟩) w := by
  unfold calleeV at e
  split at e
  · rename_i fo hc
    split at e
    · rename_i f' x cap hf
      split at e
      · rename_i as hA
        cases e
        obtain ⟨X, C, h1, h2, h3⟩ := cv_fn (p.ev hf)
        have h4 := evs_ok p hA
        refine ⟨X ++ c.args.toList.map a.eval ++ C, C.toArray, X.toArray ++ c.args.map a.eval, cvs_append (cvs_append h1 h4) h2, ?_, fun o ho => ?_⟩
        · apply Array.toList_inj.1; simp
        · simp only [execOp, ho, resolve, hc, h3, Deferred.ofValue]
          rfl
      · cases e
    · cases e
  · cases e

/-- the operation's step, of what the executor does -/
theorem rop_ok {K : KT} (hK : KOk P K) {E : Env} (hP : E.P = P) (hM : E.mt = mtP P) {o : Oper} {s : St} {k : St → XR} {e : Ex} {r : St} (hr : rop o.op E K o.dst s k = .ok e r) (hd : ∀ d, o.dst = some d → d < nt) :
    ∃ s', s.n ≤ s'.n ∧ k s' = .ok e r ∧ ∀ {D ρ w a N}, StOk P D N nt ρ w s a → s'.n ≤ N → ∀ {next : Act → World → Prop} {Q : Exit → Act → World → Prop},
      (∀ a' w' ρ', StOk P D N nt ρ' w' s' a' → Ext D s.n s.h ρ w s'.n s'.h ρ' w' → next a' w') → o.wp P a w next Q := by
  rcases rop_is hr with ⟨v, ws, h1, h2⟩ | ⟨v, ws, h1, h2⟩ | ⟨c, f, args, v, h', n', ho, h1, h2, h3⟩ | ⟨c, f, args, ho, h1, h2⟩
  · refine ⟨⟨putT s.tm o.dst v, applyW s.h ws, s.n, s.df⟩, Nat.le_refl _, h2, fun {D ρ w a N} st hN {next Q} hn => ?_⟩
    rw [hP] at h1
    have := aop_ok (n := s.n) st.pre o
    rw [h1] at this
    obtain ⟨w', V, hrun, hv, x⟩ := this
    have hnx := hn _ _ _ (st.next x hN hv hd) x
    unfold Oper.wp
    rcases hrun with hrun | ⟨hrun, rfl⟩ <;> (rw [hrun]; exact hnx)
  · refine ⟨⟨putT s.tm o.dst v, applyW s.h ws, s.n + 1, s.df⟩, Nat.le_succ _, h2, fun {D ρ w a N} st hN {next Q} hn => ?_⟩
    rw [hP] at h1
    have := aop_ok (n := s.n) st.pre o
    rw [h1] at this
    obtain ⟨ρ', w', V, hrun, hv, x⟩ := this (st.fr.ahead hN)
    have hnx := hn _ _ _ (st.next x hN hv hd) x
    unfold Oper.wp
    rcases hrun with hrun | ⟨hrun, rfl⟩ <;> (rw [hrun]; exact hnx)
  · obtain ⟨g1, g2⟩ := hK _ _ _ _ _ _ _ h2
    refine ⟨⟨putT s.tm o.dst v, h', n', s.df⟩, g1, h3, fun {D ρ w a N} st hN {next Q} hn => ?_⟩
    obtain ⟨L, l1, l2⟩ := callee_ok st.pre hP hM h1
    unfold Oper.wp
    rw [l2 o ho]
    exact g2 D ρ w L st.pre.sim st.pre.dis (st.fr.ahead hN) l1 o a next Q fun V ρ' w' hv x => hn _ _ _ (st.next x hN hv hd) x
  · refine ⟨⟨putT s.tm o.dst (.tup []), s.h, s.n, ⟨f, [], args⟩ :: s.df⟩, Nat.le_refl _, h2, fun {D ρ w a N} st hN {next Q} hn => ?_⟩
    obtain ⟨L, caps, A, l1, l2, l3⟩ := calleeV_ok st.pre h1
    unfold Oper.wp
    rw [l3 o ho]
    have x := Ext.refl (n := s.n) st.pre.sim
    have st' := st.next x hN (cv_undef ρ) hd
    refine hn _ _ ρ ⟨⟨st'.pre.sim, st'.pre.dis, ?_⟩, st'.fr, ?_, ?_⟩ x
    · intro t v hv
      obtain ⟨V, q1, q2⟩ := st'.pre.fr t v hv
      refine ⟨V, q1, ?_⟩
      rw [← q2]
      cases o.dst <;> rfl
    · have q := st'.df
      cases hdst : o.dst with
      | none => rw [hdst] at q; exact ⟨⟨caps, L, rfl, l1, l2⟩, q⟩
      | some d => rw [hdst] at q; exact ⟨⟨caps, L, rfl, l1, l2⟩, q⟩
    · rw [← st'.sz]
      cases o.dst <;> rfl

def dstLt (nt : Nat) (o : Oper) : Bool := match o.dst with
  | none => true
  | some d => Nat.blt d nt
theorem dstLt_spec {o : Oper} (e : dstLt nt o = true) : ∀ d, o.dst = some d → d < nt := fun d hd => by
  unfold dstLt at e; rw [hd] at e; exact blt_lt e

theorem stepO_ok {K : KT} (hK : KOk P K) {E : Env} (hP : E.P = P) (hM : E.mt = mtP P) {o : Oper} {s : St} {k : St → XR} {e : Ex} {r : St} (hr : stepO ops o E K s k = .ok e r) (hd : ∀ d, o.dst = some d → d < nt) :
    ∃ s', s.n ≤ s'.n ∧ k s' = .ok e r ∧ ∀ {D ρ w a N}, StOk P D N nt ρ w s a → s'.n ≤ N → ∀ {next : Act → World → Prop} {Q : Exit → Act → World → Prop},
      (∀ a' w' ρ', StOk P D N nt ρ' w' s' a' → Ext D s.n s.h ρ w s'.n s'.h ρ' w' → next a' w') →
        if Region.wanted o (yielded ops a.tmps) then o.wp P a w next Q ∨ (o.asks P a w ∧ LetsOut Q) else next (a.put o.dst undef) w := by
  obtain ⟨dst, op, type, pos, after, guard⟩ := o
  cases guard with
  | none =>
    have hr' : rop op E K dst s k = .ok e r := hr
    obtain ⟨s', h1, h2, h3⟩ := rop_ok (o := ⟨dst, op, type, pos, after, none⟩) hK hP hM hr' hd
    refine ⟨s', h1, h2, fun {D ρ w a N} st hN {next Q} hn => ?_⟩
    have : Region.wanted (⟨dst, op, type, pos, after, none⟩ : Oper) (yielded ops a.tmps) = true := rfl
    rw [if_pos this]
    exact .inl (h3 st hN hn)
  | some g =>
    have hr' : guarded ops ⟨dst, op, type, pos, after, some g⟩ E K s k = .ok e r := hr
    unfold guarded at hr'
    split at hr'
    · cases hr'
    · rename_i hg
      obtain ⟨tm, hh, n, df⟩ := s
      have hr2 : mkSt dst (.tup []) tm hh n df k = .ok e r := hr'
      rw [mkSt_eq] at hr2
      refine ⟨⟨putT tm dst (.tup []), hh, n, df⟩, Nat.le_refl _, hr2, fun {D ρ w a N} st hN {next Q} hn => ?_⟩
      rw [guardA_ok st.pre.fr hg, if_neg (by simp)]
      have x := Ext.refl (n := n) st.pre.sim
      exact hn _ _ _ (st.next x hN (cv_undef ρ) hd) x
    · rename_i hg
      obtain ⟨s', h1, h2, h3⟩ := rop_ok hK hP hM hr' hd
      refine ⟨s', h1, h2, fun {D ρ w a N} st hN {next Q} hn => ?_⟩
      rw [guardA_ok st.pre.fr hg, if_pos rfl]
      exact .inl (h3 st hN hn)

theorem xops_cons (E : Env) (K : KT) (o : Oper) (l : List Oper) (s : St) : xops E K ops (o :: l) s = stepO ops o E K s (xops E K ops l) := rfl

/-- A REGION IN THE ORDER OF THE TEXT. -/
theorem xops_ok {K : KT} (hK : KOk P K) {E : Env} (hP : E.P = P) (hM : E.mt = mtP P) : ∀ (l : List Oper) {s : St} {e : Ex} {r : St}, xops E K ops l s = .ok e r → (∀ o ∈ l, dstLt nt o = true) →
    e = .normal ∧ s.n ≤ r.n ∧ ∀ {D ρ w a N}, StOk P D N nt ρ w s a → r.n ≤ N → ∀ {Q : Exit → Act → World → Prop},
      (∀ a' w' ρ', StOk P D N nt ρ' w' r a' → Ext D s.n s.h ρ w r.n r.h ρ' w' → Q .normal a' w') → wpList P ops Q l a w
  | [], s, e, r, hr, _ => by
    cases hr
    exact ⟨rfl, Nat.le_refl _, fun {D ρ w a N} st hN {Q} hQ => hQ _ _ _ st (Ext.refl st.pre.sim)⟩
  | o :: l, s, e, r, hr, hl => by
    rw [xops_cons] at hr
    obtain ⟨s', h1, h2, h3⟩ := stepO_ok hK hP hM hr (dstLt_spec (hl o (by simp)))
    obtain ⟨g1, g2, g3⟩ := xops_ok hK hP hM l h2 fun o ho => hl o (by simp [ho])
    refine ⟨g1, Nat.le_trans h1 g2, fun {D ρ w a N} st hN {Q} hQ => ?_⟩
    unfold wpList
    exact h3 st (Nat.le_trans g2 hN) fun a' w' ρ' st' x => g3 st' hN fun a'' w'' ρ'' st'' x' => hQ _ _ _ st'' (x.trans x')
end
end Go.Ex

/-! A drawn region: what the executor's run of it says, step by step. -/
namespace Go.Ex

/-- what an effect does -/
def EffIs (E : Env) (K : KT) (o : Oper) (m : M) (h : H) (n : Nat) (v : AV) (h' : H) (n' : Nat) : Prop :=
  (∃ ws, aop o.op E.P m h n = .ok v ws ∧ h' = applyW h ws ∧ n' = n) ∨
  (∃ ws, aop o.op E.P m h n = .new v ws ∧ h' = applyW h ws ∧ n' = n + 1) ∨
  (∃ c f args, o.op = .call c ∧ callee E m h c = some (f, args) ∧ K f args h n = .ok v h' n')

/-- One step: behind it; the value; the block that it has laid. -/
inductive StepRel (E : Env) (K : KT) (ops : Array Oper) (a : An) (d : DS) : DS → AV → Option Blk → Prop
  | skip : guardA ops (lookM a.lk d.s.tm) a.o = some false → isEff a.c = false → StepRel E K ops a d ⟨stSet a.o.dst (.tup []) d.s.tm d.s.h d.s.n d.s.df, d.h0, d.al, d.hist⟩ (.tup []) none
  | skipE : guardA ops (lookM a.lk d.s.tm) a.o = some false → isEff a.c = true → StepRel E K ops a d ⟨stSet a.o.dst (.tup []) d.s.tm d.s.h d.s.n d.s.df, d.s.h, [], (a.ix, d.h0, d.al) :: d.hist⟩ (.tup []) none
  | free (v : AV) : guardA ops (lookM a.lk d.s.tm) a.o = some true → isEff a.c = false → aop a.o.op E.P (lookM a.lk d.s.tm) .leaf d.s.n = .ok v [] →
      StepRel E K ops a d ⟨stSet a.o.dst v d.s.tm d.s.h d.s.n d.s.df, d.h0, d.al, d.hist⟩ v none
  | freeE (v : AV) : guardA ops (lookM a.lk d.s.tm) a.o = some true → isEff a.c = false → aop a.o.op E.P (lookM a.lk d.s.tm) .leaf d.s.n = .new v [] →
      StepRel E K ops a d ⟨stSet a.o.dst v d.s.tm d.s.h (d.s.n + 1) d.s.df, d.h0, d.al, d.hist⟩ v none
  | alloc (v : AV) (k : Blk) : guardA ops (lookM a.lk d.s.tm) a.o = some true → isEff a.c = false → aop a.o.op E.P (lookM a.lk d.s.tm) .leaf d.s.n = .new v [(d.s.n, some k)] →
      StepRel E K ops a d ⟨stSet a.o.dst v d.s.tm (PT.set (some k) (path d.s.n) d.s.h) (d.s.n + 1) d.s.df, d.h0, (a.ix, [(d.s.n, some k)]) :: d.al, d.hist⟩ v (some k)
  | read (v : AV) : guardA ops (lookM a.lk d.s.tm) a.o = some true → isEff a.c = false → aop a.o.op E.P (lookM a.lk d.s.tm) (withAl a.anc d.h0 d.al) 0 = .ok v [] →
      pastOk E a.o.op (lookM a.lk d.s.tm) v a.anc d.al d.hist = true → StepRel E K ops a d ⟨stSet a.o.dst v d.s.tm d.s.h d.s.n d.s.df, d.h0, d.al, d.hist⟩ v none
  | eff (v : AV) (h' : H) (n' : Nat) : guardA ops (lookM a.lk d.s.tm) a.o = some true → isEff a.c = true → EffIs E K a.o (lookM a.lk d.s.tm) d.s.h d.s.n v h' n' →
      StepRel E K ops a d ⟨stSet a.o.dst v d.s.tm h' n' d.s.df, h', [], (a.ix, d.h0, d.al) :: d.hist⟩ v none

section
variable {E : Env} {K : KT} {ops : Array Oper} {a : An} {d d' : DS}

theorem xeffO_rel (hg : guardA ops (lookM a.lk d.s.tm) a.o = some true) (hc : isEff a.c = true) (h : xeffO E a d (lookM a.lk d.s.tm) = .ok d') : ∃ v k, StepRel E K ops a d d' v k := by
  unfold xeffO at h
  split at h
  · cases h
  · rename_i v ws he
    cases h
    exact ⟨v, none, .eff v _ _ hg hc (.inl ⟨ws, he, rfl, rfl⟩)⟩
  · rename_i v ws he
    cases h
    exact ⟨v, none, .eff v _ _ hg hc (.inr (.inl ⟨ws, he, rfl, rfl⟩))⟩

theorem xan_rel (h : xan E K ops a d = .ok d') : ∃ v k, StepRel E K ops a d d' v k := by
  unfold xan at h
  simp only at h
  split at h
  · cases h
  · rename_i hg
    unfold xskip at h
    split at h
    · rename_i hc
      cases h
      exact ⟨_, _, .skipE hg hc⟩
    · rename_i hc
      cases h
      exact ⟨_, _, .skip hg hc⟩
  · rename_i hg
    split at h
    · rename_i hc
      have hc' : isEff a.c = false := by rw [hc]; rfl
      unfold xfree at h
      split at h
      · cases h
      · rename_i v he
        cases h
        exact ⟨_, _, .free v hg hc' he⟩
      · cases h
      · rename_i v he
        cases h
        exact ⟨_, _, .freeE v hg hc' he⟩
      · rename_i v b k he
        split at h
        · rename_i hb
          have hb' : b = d.s.n := Nat.eq_of_beq_eq_true hb
          subst hb'
          cases h
          exact ⟨_, _, .alloc v k hg hc' he⟩
        · cases h
      · cases h
    · rename_i hc
      have hc' : isEff a.c = false := by rw [hc]; rfl
      unfold xread at h
      split at h
      · rename_i v he
        split at h
        · rename_i hp
          cases h
          exact ⟨_, _, .read v hg hc' he hp⟩
        · cases h
      · cases h
    · rename_i hc
      have hc' : isEff a.c = true := by rw [hc]; rfl
      unfold xeff at h
      split at h
      · rename_i c ho
        split at h
        · exact xeffO_rel hg hc' h
        · split at h
          · cases h
          · rename_i f args hcal
            split at h
            · cases h
            · rename_i v h' n' hK
              cases h
              exact ⟨v, none, .eff v _ _ hg hc' (.inr (.inr ⟨c, f, args, ho, hcal, hK⟩))⟩
      · exact xeffO_rel hg hc' h
    · cases h

/-- The run as a row of states. -/
structure Trace (E : Env) (K : KT) (ops : Array Oper) (l : List An) (dA : Nat → DS) (vA : Nat → AV) (kA : Nat → Option Blk) : Prop where
  step : ∀ p (hp : p < l.length), StepRel E K ops l[p] (dA p) (dA (p + 1)) (vA p) (kA p)

theorem xans_trace : ∀ (l : List An) (d : DS) {e : Ex} {r : St}, xans E K ops l d = .ok e r → ∃ dA vA kA, Trace E K ops l dA vA kA ∧ dA 0 = d ∧ (dA l.length).s = r ∧ e = .normal
  | [], d, e, r, h => by
    cases h
    exact ⟨fun _ => d, fun _ => .nilp, fun _ => none, ⟨fun p hp => by simp at hp⟩, rfl, rfl, rfl⟩
  | a :: l, d, e, r, h => by
    unfold xans at h
    split at h
    · cases h
    · rename_i d' hd
      obtain ⟨v, k, hs⟩ := xan_rel hd
      obtain ⟨dA, vA, kA, ht, h0, hr, he⟩ := xans_trace l d' h
      refine ⟨fun p => match p with | 0 => d | p + 1 => dA p, fun p => match p with | 0 => v | p + 1 => vA p, fun p => match p with | 0 => k | p + 1 => kA p, ⟨fun p hp => ?_⟩, rfl, hr, he⟩
      cases p with
      | zero => simp only [List.getElem_cons_zero]; rw [h0]; exact hs
      | succ p => exact ht.step p (by simpa using hp)
end
end Go.Ex

/-! A drawn region: the plan's closed facts. -/
namespace Go.Ex

theorem has_eq (m i : Nat) : has m i = m.testBit i := by
  unfold has
  rw [Nat.testBit_eq_decide_div_mod_eq]
  show Nat.beq (m / 2 ^ i % 2) 1 = _
  by_cases h : m / 2 ^ i % 2 = 1
  · rw [h]; rfl
  · have h0 : m / 2 ^ i % 2 = 0 := by omega
    rw [h0]; rfl
theorem has_or (a b i : Nat) : has (Nat.lor a b) i = (has a i || has b i) := by
  simp only [has_eq]; exact Nat.testBit_or a b i
theorem has_pow {i j : Nat} (h : has (Nat.pow 2 i) j = true) : i = j := by
  rw [has_eq] at h
  have h' : (2 ^ i).testBit j = true := h
  rw [Nat.testBit_two_pow] at h'
  simpa using h'
theorem has_zero (i : Nat) : has 0 i = false := by rw [has_eq]; exact Nat.zero_testBit i

theorem ancOf_has {done : List Nat} : ∀ {es : List Edge} {j : Nat}, has (ancOf done es) j = true → ∃ e ∈ es, Region.binds .any e = true ∧ (e.on = j ∨ has (done.getD e.on 0) j = true)
  | [], j, h => by
    have : has 0 j = true := h
    rw [has_zero] at this; cases this
  | e :: es, j, h => by
    unfold ancOf at h
    split at h
    · rename_i hb
      rw [has_or, has_or, Bool.or_eq_true, Bool.or_eq_true] at h
      rcases h with (h | h) | h
      · exact ⟨e, by simp, hb, .inl (has_pow h)⟩
      · exact ⟨e, by simp, hb, .inr h⟩
      · obtain ⟨e', h1, h2⟩ := ancOf_has h
        exact ⟨e', by simp [h1], h2⟩
    · obtain ⟨e', h1, h2⟩ := ancOf_has h
      exact ⟨e', by simp [h1], h2⟩

theorem ancs_prefix : ∀ (os : List Oper) (done : List Nat), ∃ r, ancs done os = done ++ r
  | [], done => ⟨[], by rw [ancs]; simp⟩
  | o :: os, done => by
    obtain ⟨r, hr⟩ := ancs_prefix os (done ++ [ancOf done o.after.toList])
    exact ⟨_ , by rw [ancs, hr, List.append_assoc]⟩

theorem getD_append_left {l r : List Nat} {i : Nat} (h : i < l.length) : (l ++ r).getD i 0 = l.getD i 0 := by
  simp [List.getD_eq_getElem?_getD, List.getElem?_append_left h]

theorem ancs_has (os : List Oper) : ∀ (done : List Nat) {k j : Nat} {o : Oper}, os[k]? = some o → (∀ e ∈ o.after, Region.binds .any e = true → e.on < done.length + k) →
    has ((ancs done os).getD (done.length + k) 0) j = true → ∃ e ∈ o.after, Region.binds .any e = true ∧ (e.on = j ∨ has ((ancs done os).getD e.on 0) j = true) := by
  induction os with
  | nil => intro done k j o ho; simp at ho
  | cons o' os ih =>
    intro done k j o ho he h
    rw [ancs] at h ⊢
    cases k with
    | zero =>
      obtain rfl : o' = o := by simpa using ho
      obtain ⟨r, hr⟩ := ancs_prefix os (done ++ [ancOf done o'.after.toList])
      rw [hr] at h ⊢
      have e0 : ((done ++ [ancOf done o'.after.toList]) ++ r).getD (done.length + 0) 0 = ancOf done o'.after.toList := by
        simp [List.getD_eq_getElem?_getD]
      rw [e0] at h
      obtain ⟨e, h1, h2, h3⟩ := ancOf_has h
      have h1' : e ∈ o'.after := by simpa using h1
      refine ⟨e, h1', h2, ?_⟩
      have hlt := he e h1' h2
      rw [List.append_assoc, getD_append_left (by omega)]
      exact h3
    | succ k =>
      have hl : (done ++ [ancOf done o'.after.toList]).length = done.length + 1 := by simp
      have hidx : done.length + (k + 1) = (done ++ [ancOf done o'.after.toList]).length + k := by rw [hl]; omega
      rw [hidx] at h
      exact ih (done ++ [ancOf done o'.after.toList]) (k := k) (by simpa using ho) (fun e h1 h2 => by rw [← hidx]; exact he e h1 h2) h

theorem edgesOk_spec (os : List Oper) : ∀ (i : Nat), edgesOk os i = true → ∀ k o, os[k]? = some o → ∀ e ∈ o.after, Region.binds .any e = true → e.on < i + k := by
  induction os with
  | nil => intro i _ k o ho; simp at ho
  | cons o' os ih =>
    intro i h k o ho e he hb
    unfold edgesOk at h
    rw [Bool.and_eq_true] at h
    cases k with
    | zero =>
      obtain rfl : o' = o := by simpa using ho
      have := List.all_eq_true.1 h.1 e (by simpa using he)
      rw [hb] at this
      simpa using blt_lt (by simpa using this)
    | succ k =>
      have := ih (Nat.succ i) h.2 k o (by simpa using ho) e he hb
      omega

theorem allOk_pair : ∀ {l : List An}, allOk l = true → ∀ p q (hp : p < l.length) (hq : q < l.length), p < q → pairOk l[p] l[q] = true
  | a :: l, h, p, q, hp, hq, hpq => by
    unfold allOk at h
    simp only [Bool.and_eq_true] at h
    obtain ⟨⟨⟨_, h1⟩, _⟩, h2⟩ := h
    cases q with
    | zero => omega
    | succ q =>
      cases p with
      | zero =>
        exact List.all_eq_true.1 h1 _ (List.getElem_mem _)
      | succ p => exact allOk_pair h2 p q (by simpa using hp) (by simpa using hq) (by omega)
theorem allOk_bad : ∀ {l : List An}, allOk l = true → ∀ p (hp : p < l.length), isBad l[p].c = false
  | a :: l, h, p, hp => by
    unfold allOk at h
    simp only [Bool.and_eq_true] at h
    obtain ⟨⟨⟨h0, _⟩, _⟩, h2⟩ := h
    cases p with
    | zero => simpa using h0
    | succ p => exact allOk_bad h2 p (by simpa using hp)
theorem nextOk_spec {a : An} : ∀ {l : List An}, nextOk a l = true → ∀ q (hq : q < l.length), isEff l[q].c = true → ∃ q', ∃ hq' : q' < l.length, q' ≤ q ∧ isEff l[q'].c = true ∧ has l[q'].anc a.ix = true
  | b :: l, h, q, hq, he => by
    unfold nextOk at h
    split at h
    · rename_i hb
      exact ⟨0, by simp, by omega, hb, h⟩
    · rename_i hb
      cases q with
      | zero => have he' : isEff b.c = true := he
                rw [hb] at he'; cases he'
      | succ q =>
        obtain ⟨q', h1, h2, h3, h4⟩ := nextOk_spec h q (by simpa using hq) he
        exact ⟨q' + 1, by simpa using h1, by omega, h3, h4⟩
theorem allOk_next : ∀ {l : List An}, allOk l = true → ∀ p q (hp : p < l.length) (hq : q < l.length), p < q → isEff l[p].c = false → isEff l[q].c = true →
    ∃ q', ∃ hq' : q' < l.length, p < q' ∧ q' ≤ q ∧ isEff l[q'].c = true ∧ has l[q'].anc l[p].ix = true
  | a :: l, h, p, q, hp, hq, hpq, h1, h2 => by
    unfold allOk at h
    simp only [Bool.and_eq_true] at h
    obtain ⟨⟨_, h3⟩, h4⟩ := h
    cases q with
    | zero => omega
    | succ q =>
      cases p with
      | zero =>
        have h1' : isEff a.c = false := h1
        rw [h1', Bool.false_or] at h3
        obtain ⟨q', g1, g2, g3, g4⟩ := nextOk_spec h3 q (by simpa using hq) h2
        exact ⟨q' + 1, by simpa using g1, by omega, by omega, g3, g4⟩
      | succ p =>
        obtain ⟨q', g1, g2, g3, g4, g5⟩ := allOk_next h4 p q (by simpa using hp) (by simpa using hq) (by omega) h1 h2
        exact ⟨q' + 1, by simpa using g1, by omega, by omega, g4, g5⟩

theorem annots_spec {P : Program} {ops : Array Oper} {as : List Nat} : ∀ {is : List Nat} {a : An}, a ∈ annots P ops as is → ops[a.ix]? = some a.o ∧ a.anc = as.getD a.ix 0 ∧ a.lk = a.o.looksAt ops
  | [], a, h => by cases h
  | i :: is, a, h => by
    unfold annots at h
    split at h
    · exact annots_spec h
    · rename_i o ho
      rcases List.mem_cons.1 h with rfl | h
      · exact ⟨ho, rfl, rfl⟩
      · exact annots_spec h

/-- WHAT A PLAN SAYS. -/
structure PlanOk (P : Program) (ops : Array Oper) (l : List An) : Prop where
  ok : allOk l = true
  op : ∀ p (hp : p < l.length), ops[l[p].ix]? = some l[p].o
  lk : ∀ p (hp : p < l.length), l[p].lk = l[p].o.looksAt ops
  all : ∀ i, i < ops.size → ∃ p, ∃ hp : p < l.length, l[p].ix = i
  edge : ∀ i o, ops[i]? = some o → ∀ e ∈ o.after, Region.binds .any e = true → e.on < i
  anc : ∀ (L : Nat → Prop), (∀ i o, ops[i]? = some o → L i → ∀ e ∈ o.after, Region.binds .any e = true → L e.on) → ∀ p (hp : p < l.length) j, L l[p].ix → has l[p].anc j = true → L j
  /-- all that is bound to be ahead of an operation whose edges are met -/
  ancR : ∀ (L : Nat → Prop), (∀ i o, ops[i]? = some o → L i → ∀ e ∈ o.after, Region.binds .any e = true → L e.on) → ∀ p (hp : p < l.length) j, (∀ e ∈ l[p].o.after, Region.binds .any e = true → L e.on) → has l[p].anc j = true → L j

theorem plan_ok {P : Program} {ops : Array Oper} {l : List An} (h : plan P ops = some l) : PlanOk P ops l := by
  unfold plan at h
  simp only at h
  split at h
  · rename_i hc
    cases h
    simp only [Bool.and_eq_true] at hc
    obtain ⟨h1, h2, h3⟩ := hc
    have hedge : ∀ i o, ops[i]? = some o → ∀ e ∈ o.after, Region.binds .any e = true → e.on < i := fun i o ho e he hb => by
      have := edgesOk_spec _ 0 h2 i o (by simpa using ho) e he hb
      omega
    have hspec := fun p hp => annots_spec (List.getElem_mem (l := annots P ops (ancs [] ops.toList) (lineUp (ancs [] ops.toList) ops.toList.length [] (effsOf P ops.toList 0))) (n := p) hp)
    have step : ∀ (L : Nat → Prop), (∀ i o, ops[i]? = some o → L i → ∀ e ∈ o.after, Region.binds .any e = true → L e.on) → ∀ i o, ops[i]? = some o → (∀ e ∈ o.after, Region.binds .any e = true → L e.on) → ∀ j, has ((ancs [] ops.toList).getD i 0) j = true → L j := by
      intro L hL i
      induction i using Nat.strongRecOn with
      | _ i ih =>
        intro o ho he j hj
        have := ancs_has ops.toList [] (k := i) (o := o) (by simpa using ho) (fun e h1 h2 => by simpa using hedge i o ho e h1 h2) (by simpa using hj)
        obtain ⟨e, g1, g2, g3⟩ := this
        rcases g3 with g3 | g3
        · rw [← g3]; exact he e g1 g2
        · have hlt := hedge i o ho e g1 g2
          have hsz : i < ops.size := (Array.getElem?_eq_some_iff.1 ho).1
          have hoe : ops[e.on]? = some ops[e.on] := Array.getElem?_eq_getElem (by omega)
          exact ih e.on hlt _ hoe (hL _ _ hoe (he e g1 g2)) j g3
    refine ⟨h1, fun p hp => (hspec p hp).1, fun p hp => (hspec p hp).2.2, fun i hi => ?_, hedge, fun L hL p hp j hl hj => ?_, fun L hL p hp j hl hj => ?_⟩
    · have := List.all_eq_true.1 h3 i (by simpa using hi)
      obtain ⟨a, ha, hb⟩ := List.any_eq_true.1 this
      obtain ⟨p, hp, rfl⟩ := List.mem_iff_getElem.1 ha
      exact ⟨p, hp, Nat.eq_of_beq_eq_true hb⟩
    · rw [(hspec p hp).2.1] at hj
      exact step L hL _ _ (hspec p hp).1 (hL _ _ (hspec p hp).1 hl) j hj
    · rw [(hspec p hp).2.1] at hj
      exact step L hL _ _ (hspec p hp).1 hl j hj
  · cases h

section
variable {P : Program} {ops : Array Oper} {l : List An}

theorem PlanOk.pair (h : PlanOk P ops l) {p q : Nat} (hp : p < l.length) (hq : q < l.length) (hpq : p < q) :
    (∀ d, l[p].o.dst = some d → (d ∈ l[q].lk → has l[q].anc l[p].ix = true) ∧ l[q].o.dst ≠ some d) ∧
    (∀ d, l[q].o.dst = some d → d ∈ l[p].lk → has l[q].anc l[p].ix = true) ∧
    (isEff l[p].c = true → isEff l[q].c = true → has l[q].anc l[p].ix = true) ∧ l[p].ix ≠ l[q].ix := by
  have := allOk_pair h.ok p q hp hq hpq
  unfold pairOk at this
  simp only [Bool.and_eq_true] at this
  obtain ⟨⟨⟨h1, h2⟩, h3⟩, h4⟩ := this
  refine ⟨fun d hd => ?_, fun d hd hm => ?_, fun a b => ?_, ?_⟩
  · rw [hd] at h1
    simp only [Bool.and_eq_true] at h1
    refine ⟨fun hm => ?_, fun e => ?_⟩
    · have : l[q].lk.contains d = true := by simpa using hm
      rw [this] at h1
      simpa using h1.1
    · rw [e] at h1
      simp at h1
  · rw [hd] at h2
    have : l[p].lk.contains d = true := by simpa using hm
    simp only [this] at h2
    simpa using h2
  · rw [a, b] at h3
    simpa using h3
  · simpa using h4

theorem PlanOk.inj (h : PlanOk P ops l) {p q : Nat} (hp : p < l.length) (hq : q < l.length) (e : l[p].ix = l[q].ix) : p = q := by
  rcases Nat.lt_trichotomy p q with h1 | h1 | h1
  · exact absurd e (h.pair hp hq h1).2.2.2
  · exact h1
  · exact absurd e.symm (h.pair hq hp h1).2.2.2
theorem PlanOk.dstInj (h : PlanOk P ops l) {p q d : Nat} (hp : p < l.length) (hq : q < l.length) (e : l[p].o.dst = some d) (e' : l[q].o.dst = some d) : p = q := by
  rcases Nat.lt_trichotomy p q with h1 | h1 | h1
  · exact absurd e' ((h.pair hp hq h1).1 d e).2
  · exact h1
  · exact absurd e ((h.pair hq hp h1).1 d e').2
end
end Go.Ex

/-! What has become of the world, where blocks are laid in another order than the executor's. -/
namespace Go.Ex

/-- a heap given by a function, and blocks beside it -/
def unF (G D : Nat → Option Blk) : Nat → Option Blk := fun b => match G b with
  | some k => some k
  | none => D b
theorem unF_some {G D : Nat → Option Blk} {b : Nat} {k : Blk} (e : G b = some k) : unF G D b = some k := by unfold unF; rw [e]
theorem unF_none {G D : Nat → Option Blk} {b : Nat} (e : G b = none) : unF G D b = D b := by unfold unF; rw [e]

/-- 'Ext', the heaps as functions. -/
structure ExtF (D : Nat → Option Blk) (n n' : Nat) (G0 : Nat → Option Blk) (ρ0 : Rn) (w0 : World) (G : Nat → Option Blk) (ρ : Rn) (w : World) : Prop where
  le : ρ0.le ρ
  out : ∀ b, ¬ (n ≤ b ∧ b < n') → ρ.blk b = ρ0.blk b ∧ ρ.emp b = ρ0.emp b
  sim : Sim ρ (unF G D) w
  dom : ∀ b, G b ≠ none → G0 b ≠ none ∨ (n ≤ b ∧ b < n')
  size : w0.heap.size ≤ w.heap.size
  keep : ∀ X, X < w0.heap.size → (∀ b p, G0 b ≠ none → ρ0.blk b = some p → p.B ≠ X) → w.heap[X]? = w0.heap[X]?
  img : ∀ b p, G b ≠ none → ρ.blk b = some p → w0.heap.size ≤ p.B ∨ ∃ b0 p0, G0 b0 ≠ none ∧ ρ0.blk b0 = some p0 ∧ p0.B = p.B
  os : w.os = w0.os
  tape : w.tape = w0.tape
  output : w.output = w0.output
  ro : ∀ g, g < 100 → G0 g ≠ none → G g ≠ none ∧ w.heap[g]? = w0.heap[g]?

theorem ExtF.start {D : Nat → Option Blk} {n n' : Nat} {h : H} {ρ : Rn} {w : World} (hs : Sim ρ (un h D) w) : ExtF D n n' (getB h) ρ w (getB h) ρ w where
  le := Rn.le.refl ρ
  out := fun _ _ => ⟨rfl, rfl⟩
  sim := hs
  dom := fun _ hb => .inl hb
  size := Nat.le_refl _
  keep := fun _ _ _ => rfl
  img := fun b p hb hp => .inr ⟨b, p, hb, hp, rfl⟩
  os := rfl
  tape := rfl
  output := rfl
  ro := fun _ _ hg => ⟨hg, rfl⟩

theorem ExtF.to {D : Nat → Option Blk} {n n' : Nat} {h h' : H} {ρ0 ρ : Rn} {w0 w : World} {G : Nat → Option Blk} (x : ExtF D n n' (getB h) ρ0 w0 G ρ w) (hn : n ≤ n') (e : ∀ b, G b = getB h' b) :
    Ext D n h ρ0 w0 n' h' ρ w := by
  obtain rfl : G = getB h' := funext e
  exact ⟨hn, x.le, x.out, x.sim, x.dom, x.size, x.keep, x.img, x.os, x.tape, x.output, x.ro⟩

/-- a step that sees a part of the heap -/
theorem ExtF.step {D D0 : Nat → Option Blk} {n n' k k' : Nat} {h h' : H} {ρ0 ρ ρ' : Rn} {w0 w w' : World} {G0 G : Nat → Option Blk} (x : ExtF D0 n n' G0 ρ0 w0 G ρ w)
    (st : Ext D k h ρ w k' h' ρ' w') (big : 100 ≤ k) (hk : n ≤ k) (hk' : k' ≤ n') (hsub : ∀ b c, getB h b = some c → G b = some c)
    (hD : ∀ b, getB h b ≠ none → D b = none) (hD' : ∀ b, getB h b = none → D b = unF G D0 b) (dis : ∀ b, G b ≠ none → D0 b = none)
    (fr : ∀ b, k ≤ b → b < k' → G b = none ∧ D0 b = none) {G' : Nat → Option Blk}
    (h1 : ∀ b, getB h b ≠ none ∨ (k ≤ b ∧ b < k') → G' b = getB h' b) (h2 : ∀ b, getB h b = none → ¬ (k ≤ b ∧ b < k') → G' b = G b) : ExtF D0 n n' G0 ρ0 w0 G' ρ' w' where
  le := x.le.trans st.le
  out := fun b hb => by
    have a := x.out b hb
    have c := st.out b (by omega)
    exact ⟨c.1.trans a.1, c.2.trans a.2⟩
  sim := by
    have he : un h' D = unF G' D0 := by
      funext b
      by_cases hb : getB h b ≠ none
      · have e1 := h1 b (.inl hb)
        obtain ⟨c, hc⟩ := Option.ne_none_iff_exists'.1 hb
        have hd0 := dis b (by rw [hsub b c hc]; simp)
        unfold un unF
        rw [e1]
        cases hg : getB h' b with
        | some c => rfl
        | none => simp only; rw [hD b hb, hd0]
      · have hb' : getB h b = none := by simpa using hb
        by_cases hr : k ≤ b ∧ b < k'
        · have e1 := h1 b (.inr hr)
          obtain ⟨f1, f2⟩ := fr b hr.1 hr.2
          unfold un unF
          rw [e1]
          cases hg : getB h' b with
          | some c => rfl
          | none => simp only; rw [hD' b hb']; unfold unF; rw [f1]
        · have e2 := h2 b hb' hr
          have hg : getB h' b = none := by
            cases hg : getB h' b with
            | none => rfl
            | some c =>
              rcases st.dom b (by rw [hg]; simp) with h | h
              · exact absurd hb' h
              · exact absurd h hr
          unfold un
          rw [hg]
          simp only
          rw [hD' b hb']
          unfold unF
          rw [e2]
    rw [← he]
    exact st.sim
  dom := fun b hb => by
    by_cases hg : getB h b = none
    · by_cases hr : k ≤ b ∧ b < k'
      · exact .inr ⟨by omega, by omega⟩
      · rw [h2 b hg hr] at hb; exact x.dom b hb
    · obtain ⟨c, hc⟩ := Option.ne_none_iff_exists'.1 hg
      exact x.dom b (by rw [hsub b c hc]; simp)
  size := Nat.le_trans x.size st.size
  keep := fun X hX hn => by
    rw [st.keep X (Nat.lt_of_lt_of_le hX x.size) ?_, x.keep X hX hn]
    intro b p hb hp e
    obtain ⟨c, hc⟩ := Option.ne_none_iff_exists'.1 hb
    rcases x.img b p (by rw [hsub b c hc]; simp) hp with h | ⟨b0, p0, g1, g2, g3⟩
    · omega
    · exact hn b0 p0 g1 g2 (g3.trans e)
  img := fun b p hb hp => by
    have old : G b ≠ none → ρ.blk b = some p → w0.heap.size ≤ p.B ∨ ∃ b0 p0, G0 b0 ≠ none ∧ ρ0.blk b0 = some p0 ∧ p0.B = p.B := fun a c => x.img b p a c
    by_cases hg : getB h b = none
    · by_cases hr : k ≤ b ∧ b < k'
      · rw [h1 b (.inr hr)] at hb
        rcases st.img b p hb hp with h | ⟨b0, p0, g1, g2, g3⟩
        · exact .inl (Nat.le_trans x.size h)
        · obtain ⟨c, hc⟩ := Option.ne_none_iff_exists'.1 g1
          rcases x.img b0 p0 (by rw [hsub b0 c hc]; simp) g2 with h | ⟨b1, p1, q1, q2, q3⟩
          · exact .inl (by omega)
          · exact .inr ⟨b1, p1, q1, q2, q3.trans g3⟩
      · rw [h2 b hg hr] at hb
        exact old hb (by rw [← (st.out b hr).1]; exact hp)
    · rw [h1 b (.inl hg)] at hb
      rcases st.img b p hb hp with h | ⟨b0, p0, g1, g2, g3⟩
      · exact .inl (Nat.le_trans x.size h)
      · obtain ⟨c, hc⟩ := Option.ne_none_iff_exists'.1 g1
        rcases x.img b0 p0 (by rw [hsub b0 c hc]; simp) g2 with h | ⟨b1, p1, q1, q2, q3⟩
        · exact .inl (by omega)
        · exact .inr ⟨b1, p1, q1, q2, q3.trans g3⟩
  os := st.os.trans x.os
  tape := st.tape.trans x.tape
  output := st.output.trans x.output
  ro := fun g hg hn => by
    obtain ⟨a1, a2⟩ := x.ro g hg hn
    obtain ⟨c, hc⟩ := Option.ne_none_iff_exists'.1 a1
    by_cases hh : getB h g = none
    · refine ⟨by rw [h2 g hh (by omega)]; exact a1, (st.keep g ?_ fun b p hb hp e => ?_).trans a2⟩
      · have := x.sim.lt (unF_some hc) (x.sim.glob g hg)
        exact this
      · obtain ⟨z, hz⟩ := Option.ne_none_iff_exists'.1 hb
        have := x.sim.inj b g z c p _ (unF_some (hsub b z hz)) (unF_some hc) hp (x.sim.glob g hg) e
        subst this
        exact hb hh
    · obtain ⟨b1, b2⟩ := st.ro g hg hh
      exact ⟨by rw [h1 g (.inl hh)]; exact b1, b2.trans a2⟩

/-- the rest of the blocks, beside a part of the heap -/
noncomputable def restD (h : H) (F : Nat → Option Blk) : Nat → Option Blk := fun b => match getB h b with
  | some _ => none
  | none => F b
theorem restD_dom {h : H} {F : Nat → Option Blk} {b : Nat} (e : getB h b ≠ none) : restD h F b = none := by
  unfold restD
  cases hg : getB h b with
  | none => exact absurd hg e
  | some k => rfl
theorem restD_out {h : H} {F : Nat → Option Blk} {b : Nat} (e : getB h b = none) : restD h F b = F b := by unfold restD; rw [e]
theorem restD_dis {h : H} {F : Nat → Option Blk} (b : Nat) (e : restD h F b ≠ none) : getB h b = none := by
  cases hg : getB h b with
  | none => rfl
  | some k => exact absurd (restD_dom (by rw [hg]; simp)) e
theorem un_restD {h : H} {F : Nat → Option Blk} (hsub : ∀ b c, getB h b = some c → F b = some c) : un h (restD h F) = F := by
  funext b
  unfold un
  cases hg : getB h b with
  | some k => exact (hsub b k hg).symm
  | none => exact restD_out hg

/-! The heap behind writes. -/
theorem withAl_some {anc : Nat} {h : H} {b : Nat} {k : Blk} : ∀ {A : Al}, (∀ iw ∈ A, ∃ c j, iw.2 = [(c, some j)]) → getB (withAl anc h A) b = some k →
    (∃ iw ∈ A, has anc iw.1 = true ∧ iw.2 = [(b, some k)]) ∨ getB h b = some k
  | [], _, e => .inr e
  | (i, ws) :: A, hA, e => by
    have ih := fun e => withAl_some (anc := anc) (h := h) (b := b) (k := k) (A := A) (fun iw hi => hA iw (by simp [hi])) e
    unfold withAl at e
    split at e
    · rename_i ha
      obtain ⟨c, j, hc⟩ := hA (i, ws) (by simp)
      simp only at hc
      subst hc
      have e' : getB (PT.set (some j) (path c) (withAl anc h A)) b = some k := e
      have := un_set (h := withAl anc h A) (D := fun _ => none) (b := c) (k := j) b
      unfold un at this
      rw [e'] at this
      simp only at this
      split at this
      · rename_i hbc
        subst hbc
        cases this
        exact .inl ⟨(i, [(b, some k)]), by simp, ha, rfl⟩
      · have e2 : getB (withAl anc h A) b = some k := by
          cases hg : getB (withAl anc h A) b with
          | none => rw [hg] at this; cases this
          | some z => rw [hg] at this; exact this.symm
        rcases ih e2 with ⟨iw, q1, q2, q3⟩ | q
        · exact .inl ⟨iw, by simp [q1], q2, q3⟩
        · exact .inr q
    · rcases ih e with ⟨iw, q1, q2, q3⟩ | q
      · exact .inl ⟨iw, by simp [q1], q2, q3⟩
      · exact .inr q

end Go.Ex

/-! A drawn region: the executor's own run. -/
namespace Go.Ex

mutual
theorem AV.beq_eq : ∀ (a b : AV), AV.beq a b = true → a = b
  | .bool a, b, h => by cases b <;> first | (rw [AV.beq] at h; rw [eq_of_beq h]) | (simp [AV.beq] at h)
  | .nat k a, b, h => by
    cases b <;> first | (rw [AV.beq, Bool.and_eq_true] at h; rw [kbeq_eq h.1, Nat.eq_of_beq_eq_true h.2]) | (simp [AV.beq] at h)
  | .neg k a, b, h => by
    cases b <;> first | (rw [AV.beq, Bool.and_eq_true] at h; rw [kbeq_eq h.1, Nat.eq_of_beq_eq_true h.2]) | (simp [AV.beq] at h)
  | .flt k a, b, h => by
    cases b <;> try (cases k <;> simp [AV.beq] at h; done)
    rename_i k' b
    cases k <;> cases k' <;> first | (simp [AV.beq] at h; done) | (rw [AV.beq] at h; rw [Nat.eq_of_beq_eq_true h])
  | .str a, b, h => by cases b <;> first | (rw [AV.beq] at h; rw [leqb_iff.1 h]) | (simp [AV.beq] at h)
  | .nilp, b, h => by cases b <;> first | rfl | (simp [AV.beq] at h)
  | .ptr a c, b, h => by
    cases b <;> first | (rw [AV.beq, Bool.and_eq_true] at h; rw [Nat.eq_of_beq_eq_true h.1, Nat.eq_of_beq_eq_true h.2]) | (simp [AV.beq] at h)
  | .nils, b, h => by cases b <;> first | rfl | (simp [AV.beq] at h)
  | .sl a1 a2 a3 a4, b, h => by
    cases b <;> first | (rw [AV.beq] at h; simp only [Bool.and_eq_true] at h; obtain ⟨⟨⟨g1, g2⟩, g3⟩, g4⟩ := h; rw [Nat.eq_of_beq_eq_true g1, Nat.eq_of_beq_eq_true g2, Nat.eq_of_beq_eq_true g3, Nat.eq_of_beq_eq_true g4]) | (simp [AV.beq] at h)
  | .slU a1 a2 a3 a4, b, h => by
    cases b <;> first | (rw [AV.beq] at h; simp only [Bool.and_eq_true] at h; obtain ⟨⟨⟨g1, g2⟩, g3⟩, g4⟩ := h; rw [Nat.eq_of_beq_eq_true g1, Nat.eq_of_beq_eq_true g2, Nat.eq_of_beq_eq_true g3, Nat.eq_of_beq_eq_true g4]) | (simp [AV.beq] at h)
  | .slE a, b, h => by cases b <;> first | (rw [AV.beq] at h; rw [Nat.eq_of_beq_eq_true h]) | (simp [AV.beq] at h)
  | .nilm, b, h => by cases b <;> first | rfl | (simp [AV.beq] at h)
  | .map a, b, h => by cases b <;> first | (rw [AV.beq] at h; rw [Nat.eq_of_beq_eq_true h]) | (simp [AV.beq] at h)
  | .nilf, b, h => by cases b <;> first | rfl | (simp [AV.beq] at h)
  | .fn _ _ _, b, h => by cases b <;> simp [AV.beq] at h
  | .nili, b, h => by cases b <;> first | rfl | (simp [AV.beq] at h)
  | .ifc t a, b, h => by
    cases b <;> first | (rw [AV.beq, Bool.and_eq_true] at h; rw [Nat.eq_of_beq_eq_true h.1, AV.beq_eq _ _ h.2]) | (simp [AV.beq] at h)
  | .agg a, b, h => by cases b <;> first | (rw [AV.beq] at h; rw [AV.beqs_eq _ _ h]) | (simp [AV.beq] at h)
  | .tup a, b, h => by cases b <;> first | (rw [AV.beq] at h; rw [AV.beqs_eq _ _ h]) | (simp [AV.beq] at h)
theorem AV.beqs_eq : ∀ (a b : List AV), AV.beqs a b = true → a = b
  | [], b, h => by cases b <;> first | rfl | (simp [AV.beqs] at h)
  | x :: a, b, h => by
    cases b with
    | nil => simp [AV.beqs] at h
    | cons y b =>
      rw [AV.beqs, Bool.and_eq_true] at h
      rw [AV.beq_eq _ _ h.1, AV.beqs_eq _ _ h.2]
end

theorem restr_get {m : M} {t : Nat} {v : AV} : ∀ {ts : List Nat}, L.get t (restr m ts) = some v → t ∈ ts ∧ m.get t = some v
  | [], h => by cases h
  | u :: ts, h => by
    unfold restr at h
    split at h
    · rename_i x hx
      rw [L.get_cons] at h
      cases hb : Nat.beq t u with
      | true =>
        rw [hb] at h
        have := Nat.eq_of_beq_eq_true hb
        subst this
        cases h
        exact ⟨by simp, hx⟩
      | false =>
        rw [hb] at h
        obtain ⟨h1, h2⟩ := restr_get h
        exact ⟨by simp [h1], h2⟩
    · obtain ⟨h1, h2⟩ := restr_get h
      exact ⟨by simp [h1], h2⟩
theorem bit_zero (t : Nat) : bit 0 t = false := by
  unfold bit
  show Nat.beq (0 / 2 ^ t % 2) 1 = false
  rw [Nat.zero_div]
  rfl
theorem lookM_get {lk : List Nat} {m : M} {t : Nat} {v : AV} (h : (lookM lk m).get t = some v) : t ∈ lk ∧ m.get t = some v := by
  unfold lookM at h
  rw [M.get_mk, bit_zero] at h
  exact restr_get h

section
variable {P : Program} {E : Env} {K : KT} {ops : Array Oper} {a : An} {d d' : DS} {v : AV} {k : Option Blk}

theorem effIs_ok (hK : KOk P K) (hP : E.P = P) (hM : E.mt = mtP P) {o : Oper} {m : M} {h h' : H} {n n' : Nat} (e : EffIs E K o m h n v h' n') :
    n ≤ n' ∧ ∀ {D ρ w act}, Pre P D h ρ w m act → Fr ρ h D n n' → ∀ {next : Act → World → Prop} {Q : Exit → Act → World → Prop},
      (∀ V ρ' w', cv ρ' v = some V → Ext D n h ρ w n' h' ρ' w' → next (act.put o.dst V) w') → o.wp P act w next Q := by
  rcases e with ⟨ws, h1, rfl, rfl⟩ | ⟨ws, h1, rfl, rfl⟩ | ⟨c, f, args, ho, h1, h2⟩
  · refine ⟨Nat.le_refl _, fun {D ρ w act} p fr {next Q} hn => ?_⟩
    rw [hP] at h1
    have := aop_ok (n := n') p o
    rw [h1] at this
    obtain ⟨w', V, hrun, hv, x⟩ := this
    have hnx := hn _ _ _ hv x
    unfold Oper.wp
    rcases hrun with hrun | ⟨hrun, rfl⟩ <;> (rw [hrun]; exact hnx)
  · refine ⟨Nat.le_succ _, fun {D ρ w act} p fr {next Q} hn => ?_⟩
    rw [hP] at h1
    have := aop_ok (n := n) p o
    rw [h1] at this
    obtain ⟨ρ', w', V, hrun, hv, x⟩ := this fr
    have hnx := hn _ _ _ hv x
    unfold Oper.wp
    rcases hrun with hrun | ⟨hrun, rfl⟩ <;> (rw [hrun]; exact hnx)
  · obtain ⟨g1, g2⟩ := hK _ _ _ _ _ _ _ h2
    refine ⟨g1, fun {D ρ w act} p fr {next Q} hn => ?_⟩
    obtain ⟨L, l1, l2⟩ := callee_ok p hP hM h1
    unfold Oper.wp
    rw [l2 o ho]
    exact g2 D ρ w L p.sim p.dis fr l1 o act next Q hn

theorem StepRel.tm (h : StepRel E K ops a d d' v k) : d'.s.tm = putT d.s.tm a.o.dst v := by cases h <;> rfl
theorem StepRel.df (h : StepRel E K ops a d d' v k) : d'.s.df = d.s.df := by cases h <;> rfl
theorem StepRel.nle (hK : KOk P K) (hP : E.P = P) (hM : E.mt = mtP P) (h : StepRel E K ops a d d' v k) : d.s.n ≤ d'.s.n := by
  cases h <;> first
    | exact Nat.le_refl _
    | exact Nat.le_succ _
    | (rename_i e; exact (effIs_ok hK hP hM e).1)
theorem StepRel.atEff (h : StepRel E K ops a d d' v k) (he : isEff a.c = true) : d'.h0 = d'.s.h ∧ d'.al = [] ∧ d'.hist = (a.ix, d.h0, d.al) :: d.hist ∧ k = none := by
  cases h <;> first
    | exact ⟨rfl, rfl, rfl, rfl⟩
    | simp_all
theorem StepRel.atNon (h : StepRel E K ops a d d' v k) (he : isEff a.c = false) : d'.h0 = d.h0 ∧ d'.hist = d.hist ∧ (k = none → d'.al = d.al ∧ d'.s.h = d.s.h) ∧
    (∀ b, k = some b → d'.s.n = d.s.n + 1 ∧ d'.al = (a.ix, [(d.s.n, some b)]) :: d.al ∧ d'.s.h = PT.set (some b) (path d.s.n) d.s.h) := by
  cases h <;> first
    | exact ⟨rfl, rfl, fun _ => ⟨rfl, rfl⟩, fun b hb => by cases hb⟩
    | (refine ⟨rfl, rfl, (fun hb => by cases hb), fun b hb => ?_⟩; cases hb; exact ⟨rfl, rfl, rfl⟩)
    | simp_all
end

/-- a reading's road back to an earlier heap: 'us': the effects in between; the last: the blocks laid in between -/
inductive Seg (base : H) : List Nat → H → Al → Hist → Al → Prop
  | here {al hs} : Seg base [] base al hs al
  | back {e us h0 al h l hs A} : Seg base us h l hs A → Seg base (e :: us) h0 al ((e, h, l) :: hs) (al ++ A)

theorem Seg.cons {base : H} {us : List Nat} {h0 : H} {al : Al} {hs : Hist} {A : Al} (x : Nat × List (Nat × Option Blk)) (h : Seg base us h0 al hs A) : Seg base us h0 (x :: al) hs (x :: A) := by
  cases h with
  | here => exact .here
  | back h => exact .back h

theorem seg_read {E : Env} {o : Op} {m : M} {v : AV} {anc : Nat} {base : H} {us : List Nat} {h : H} {l : Al} {hs : Hist} {A : Al} (sg : Seg base us h l hs A) :
    ∀ pre : Al, (∀ e ∈ us, has anc e = false) → aop o E.P m (withAl anc h (pre ++ l)) 0 = .ok v [] → pastOk E o m v anc (pre ++ l) hs = true → aop o E.P m (withAl anc base (pre ++ A)) 0 = .ok v [] := by
  induction sg with
  | here => intro pre _ h _; exact h
  | back sg ih =>
    rename_i e us h0 al h l hs A
    intro pre hus _ hp
    unfold pastOk at hp
    rw [hus e (by simp)] at hp
    simp only [Bool.and_eq_true] at hp
    obtain ⟨h1, h2⟩ := hp
    unfold readAt at h1
    split at h1
    · rename_i u hu
      rw [AV.beq_eq _ _ h1] at hu
      have := ih (pre ++ al) (fun e he => hus e (by simp [he])) hu h2
      rw [List.append_assoc] at this
      exact this
    · cases h1
end Go.Ex
