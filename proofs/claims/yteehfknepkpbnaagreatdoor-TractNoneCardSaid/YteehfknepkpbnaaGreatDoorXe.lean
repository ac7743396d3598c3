/- The executor, text Xe. -/
import Derived.Test.YteehfknepkpbnaaGreatDoorXd
import Derived.LoopN
import Derived.Scope
import Derived.Defers
import Derived.Below
/-! A drawn region: what holds in the executor's own run, position by position. -/
namespace Go.Ex

structure Cx (P : Program) (E : Env) (K : KT) (ops : Array Oper) (l : List An) (dA : Nat → DS) (vA : Nat → AV) (kA : Nat → Option Blk) (s : St) (D0 : Nat → Option Blk) (N nt : Nat) : Prop where
  hK : KOk P K
  hP : E.P = P
  hM : E.mt = mtP P
  pl : PlanOk P ops l
  tr : Trace E K ops l dA vA kA
  d0 : dA 0 = ⟨s, s.h, [], []⟩
  dst : ∀ p (hp : p < l.length) d, l[p].o.dst = some d → d < nt
  fin : (dA l.length).s.n ≤ N
  big : 100 ≤ s.n
  fD : ∀ b, s.n ≤ b → b < N → D0 b = none
  fh : ∀ b, s.n ≤ b → b < N → getB s.h b = none
  dis : ∀ b, D0 b ≠ none → getB s.h b = none

section
variable {P : Program} {E : Env} {K : KT} {ops : Array Oper} {l : List An} {dA : Nat → DS} {vA : Nat → AV} {kA : Nat → Option Blk} {s : St} {D0 : Nat → Option Blk} {N nt : Nat}
variable (cx : Cx P E K ops l dA vA kA s D0 N nt)
include cx

theorem Cx.mono1 {p : Nat} (hp : p < l.length) : (dA p).s.n ≤ (dA (p + 1)).s.n := (cx.tr.step p hp).nle cx.hK cx.hP cx.hM
theorem Cx.mono {p : Nat} : ∀ {q : Nat}, p ≤ q → q ≤ l.length → (dA p).s.n ≤ (dA q).s.n
  | 0, h, _ => by have : p = 0 := by omega
                  subst this; exact Nat.le_refl _
  | q + 1, h, hq => by
    rcases Nat.lt_or_ge p (q + 1) with h1 | h1
    · exact Nat.le_trans (Cx.mono (q := q) (by omega) (by omega)) (cx.mono1 (by omega))
    · have : p = q + 1 := by omega
      subst this; exact Nat.le_refl _
theorem Cx.first {p : Nat} (hp : p ≤ l.length) : s.n ≤ (dA p).s.n := by
  have := cx.mono (Nat.zero_le p) hp
  rw [cx.d0] at this
  exact this
theorem Cx.last {p : Nat} (hp : p ≤ l.length) : (dA p).s.n ≤ N := Nat.le_trans (cx.mono hp (Nat.le_refl _)) cx.fin

theorem Cx.df {p : Nat} (hp : p ≤ l.length) : (dA p).s.df = s.df := by
  induction p with
  | zero => rw [cx.d0]
  | succ p ih => rw [(cx.tr.step p (by omega)).df, ih (by omega)]

/-- what a variable holds -/
theorem Cx.tm {t : Nat} {v : AV} : ∀ {p : Nat}, p ≤ l.length → (dA p).s.tm.get t = some v →
    (∃ q, ∃ hq : q < l.length, q < p ∧ l[q].o.dst = some t ∧ vA q = v) ∨ ((∀ q (hq : q < l.length), q < p → l[q].o.dst ≠ some t) ∧ s.tm.get t = some v)
  | 0, _, h => by
    rw [cx.d0] at h
    exact .inr ⟨fun q _ hq => by omega, h⟩
  | p + 1, hp, h => by
    rw [(cx.tr.step p (by omega)).tm] at h
    by_cases hd : l[p].o.dst = some t
    · rw [hd] at h
      have h' : ((dA p).s.tm.set t (vA p)).get t = some v := h
      rw [M.get_set] at h'
      exact .inl ⟨p, by omega, by omega, hd, by cases h'; rfl⟩
    · have h' : (dA p).s.tm.get t = some v := by
        rw [← h]
        cases hdd : l[p].o.dst with
        | none => rfl
        | some u =>
          show _ = ((dA p).s.tm.set u (vA p)).get t
          rw [M.get_set_ne _ _ (fun e => hd (by rw [hdd, e]))]
      rcases Cx.tm (by omega) h' with ⟨q, hq, h1, h2, h3⟩ | ⟨h1, h2⟩
      · exact .inl ⟨q, hq, by omega, h2, h3⟩
      · refine .inr ⟨fun q hq hlt => ?_, h2⟩
        rcases Nat.lt_or_ge q p with h3 | h3
        · exact h1 q hq h3
        · have : q = p := by omega
          subst this; exact hd

/-- a stretch without an effect -/
theorem Cx.heapAt {c : Nat} : ∀ {p : Nat}, c ≤ p → p ≤ l.length → (∀ q (hq : q < l.length), c ≤ q → q < p → isEff l[q].c = false) →
    (dA p).h0 = (dA c).h0 ∧
    (∀ b k, getB (dA p).s.h b = some k → (∃ q, q < l.length ∧ c ≤ q ∧ q < p ∧ (dA q).s.n = b ∧ kA q = some k) ∨ getB (dA c).s.h b = some k) ∧
    (∀ q k, c ≤ q → q < p → kA q = some k → getB (dA p).s.h (dA q).s.n = some k) ∧
    (∀ b k, getB (dA c).s.h b = some k → (b < (dA c).s.n ∨ (dA p).s.n ≤ b) → getB (dA p).s.h b = some k)
  | p, h, hp, hn => by
    rcases Nat.lt_or_ge c p with h1 | h1
    · obtain ⟨p, rfl⟩ : ∃ q, p = q + 1 := ⟨p - 1, by omega⟩
      have hpl : p < l.length := by omega
      obtain ⟨i1, i2, i3, i4⟩ := Cx.heapAt (c := c) (p := p) (by omega) (by omega) fun q hq a b => hn q hq a (by omega)
      obtain ⟨g1, g2, g3, g4⟩ := (cx.tr.step p hpl).atNon (hn p hpl (by omega) (by omega))
      have hm1 := cx.mono1 hpl
      cases hk : kA p with
      | none =>
        obtain ⟨_, g6⟩ := g3 hk
        refine ⟨g1.trans i1, ?_, ?_, ?_⟩
        · intro b k hb
          rw [g6] at hb
          rcases i2 b k hb with ⟨q, q0, q1, q2, q3⟩ | hb
          · exact .inl ⟨q, q0, q1, by omega, q3⟩
          · exact .inr hb
        · intro q k hq1 hq2 hqk
          rw [g6]
          refine i3 q k hq1 ?_ hqk
          rcases Nat.lt_or_ge q p with h2 | h2
          · exact h2
          · have : q = p := by omega
            subst this
            rw [hk] at hqk; cases hqk
        · intro b k hb hr
          rw [g6]
          exact i4 b k hb (by omega)
      | some z =>
        obtain ⟨g5, _, g6⟩ := g4 z hk
        refine ⟨g1.trans i1, ?_, ?_, ?_⟩
        · intro b k hb
          rw [g6] at hb
          by_cases hbn : b = (dA p).s.n
          · subst hbn
            rw [getB_set] at hb
            cases hb
            exact .inl ⟨p, hpl, by omega, by omega, rfl, hk⟩
          · rw [getB_set_ne _ _ hbn] at hb
            rcases i2 b k hb with ⟨q, q0, q1, q2, q3⟩ | hb
            · exact .inl ⟨q, q0, q1, by omega, q3⟩
            · exact .inr hb
        · intro q k hq1 hq2 hqk
          rw [g6]
          rcases Nat.lt_or_ge q p with h2 | h2
          · have hlt : (dA q).s.n < (dA p).s.n := by
              have e1 := ((cx.tr.step q (by omega)).atNon (hn q (by omega) hq1 (by omega))).2.2.2 k hqk
              have e2 := cx.mono (p := q + 1) (q := p) (by omega) (by omega)
              omega
            rw [getB_set_ne _ _ (by omega)]
            exact i3 q k hq1 h2 hqk
          · have : q = p := by omega
            subst this
            rw [getB_set, ← hqk, hk]
        · intro b k hb hr
          rw [g6]
          have hcp := cx.mono (p := c) (q := p) (by omega) (by omega)
          rw [getB_set_ne _ _ (by omega)]
          exact i4 b k hb (by omega)
    · have : c = p := by omega
      subst this
      exact ⟨rfl, fun b k hb => .inr hb, fun q k a b => by omega, fun b k hb _ => hb⟩

/-- a reading's road back -/
theorem Cx.seg {c : Nat} (hbase : (dA c).al = []) : ∀ {p : Nat}, c ≤ p → p ≤ l.length →
    ∃ us A, Seg (dA c).h0 us (dA p).h0 (dA p).al (dA p).hist A ∧ (∀ e ∈ us, ∃ q, ∃ hq : q < l.length, c ≤ q ∧ q < p ∧ isEff l[q].c = true ∧ l[q].ix = e) ∧
      (∀ iw ∈ A, ∃ q, ∃ hq : q < l.length, ∃ k, c ≤ q ∧ q < p ∧ l[q].ix = iw.1 ∧ kA q = some k ∧ iw.2 = [((dA q).s.n, some k)])
  | p, h, hp => by
    rcases Nat.lt_or_ge c p with h1 | h1
    · obtain ⟨p, rfl⟩ : ∃ q, p = q + 1 := ⟨p - 1, by omega⟩
      have hpl : p < l.length := by omega
      obtain ⟨us, A, i1, i2, i3⟩ := Cx.seg hbase (p := p) (by omega) (by omega)
      have i2' : ∀ e ∈ us, ∃ q, ∃ hq : q < l.length, c ≤ q ∧ q < p + 1 ∧ isEff l[q].c = true ∧ l[q].ix = e := fun e he => by
        obtain ⟨q, hq, a, b, r⟩ := i2 e he
        exact ⟨q, hq, a, by omega, r⟩
      have i3' : ∀ iw ∈ A, ∃ q, ∃ hq : q < l.length, ∃ k, c ≤ q ∧ q < p + 1 ∧ l[q].ix = iw.1 ∧ kA q = some k ∧ iw.2 = [((dA q).s.n, some k)] := fun iw hi => by
        obtain ⟨q, hq, k, a, b, r⟩ := i3 iw hi
        exact ⟨q, hq, k, a, by omega, r⟩
      cases he : isEff l[p].c with
      | true =>
        obtain ⟨g1, g2, g3, g4⟩ := (cx.tr.step p hpl).atEff he
        refine ⟨l[p].ix :: us, [] ++ A, ?_, ?_, ?_⟩
        · rw [g2, g3]; exact .back i1
        · intro e hm
          rcases List.mem_cons.1 hm with rfl | hm
          · exact ⟨p, hpl, by omega, by omega, he, rfl⟩
          · exact i2' e hm
        · exact i3'
      | false =>
        obtain ⟨g1, g2, g3, g4⟩ := (cx.tr.step p hpl).atNon he
        cases hk : kA p with
        | none =>
          refine ⟨us, A, ?_, i2', i3'⟩
          rw [g1, g2, (g3 hk).1]; exact i1
        | some z =>
          refine ⟨us, (l[p].ix, [((dA p).s.n, some z)]) :: A, ?_, i2', ?_⟩
          · rw [g1, g2, (g4 z hk).2.1]; exact i1.cons _
          · intro iw hm
            rcases List.mem_cons.1 hm with rfl | hm
            · exact ⟨p, hpl, z, by omega, by omega, rfl, hk, rfl⟩
            · exact i3' iw hm
    · have : c = p := by omega
      subst this
      exact ⟨[], [], by rw [hbase]; exact .here, fun e h => by simp at h, fun e h => by simp at h⟩
end
end Go.Ex

/-! A drawn region: the state in any order. -/
namespace Go.Ex

def lis (lst : Array Bool) (i : Nat) : Prop := lst.getD i false = true

structure Inv (P : Program) (ops : Array Oper) (l : List An) (dA : Nat → DS) (vA : Nat → AV) (kA : Nat → Option Blk) (s : St) (D0 : Nat → Option Blk) (N nt : Nat)
    (ρ0 : Rn) (w0 : World) (lst : Array Bool) (c : Nat) (G : Nat → Option Blk) (ρ : Rn) (a : Act) (w : World) : Prop where
  size : lst.size = ops.size
  closed : ∀ i o, ops[i]? = some o → lis lst i → ∀ e ∈ o.after, Region.binds .any e = true → lis lst e.on
  cle : c ≤ l.length
  base : (dA c).al = [] ∧ (dA c).h0 = (dA c).s.h
  eff : ∀ p (hp : p < l.length), isEff l[p].c = true → (lis lst l[p].ix ↔ p < c)
  pre : ∀ p (hp : p < l.length), p < c → lis lst l[p].ix
  x : ExtF D0 s.n (dA l.length).s.n (getB s.h) ρ0 w0 G ρ w
  g1 : ∀ p (hp : p < l.length), c ≤ p → lis lst l[p].ix → ∀ k, kA p = some k → G (dA p).s.n = some k
  g2 : ∀ b, (∀ p (hp : p < l.length), c ≤ p → lis lst l[p].ix → kA p ≠ none → (dA p).s.n ≠ b) → G b = getB (dA c).s.h b
  f1 : ∀ b, (dA c).s.n ≤ b → b < N → getB (dA c).s.h b = none
  free : ∀ p (hp : p < l.length), ¬ lis lst l[p].ix → ∀ b, (dA p).s.n ≤ b → b < (dA (p + 1)).s.n → ρ.blk b = none ∧ ρ.emp b = none ∧ G b = none
  t1 : ∀ p (hp : p < l.length), lis lst l[p].ix → ∀ t, l[p].o.dst = some t → ∃ V, cv ρ (vA p) = some V ∧ a.tmps[t]? = some V
  t2 : ∀ t, (∀ p (hp : p < l.length), lis lst l[p].ix → l[p].o.dst ≠ some t) → ∀ v, s.tm.get t = some v → ∃ V, cv ρ v = some V ∧ a.tmps[t]? = some V
  df : DfOk ρ s.df a.defers
  sz : a.tmps.size = nt

theorem lis_set {lst : Array Bool} {i j : Nat} (hi : i < lst.size) : lis (lst.setIfInBounds i true) j ↔ (j = i ∨ lis lst j) := by
  unfold lis
  by_cases h : i = j
  · subst h
    simp [hi]
  · rw [getD_set_ne false h]
    constructor
    · exact .inr
    · rintro (h' | h')
      · exact absurd h'.symm h
      · exact h'

section
variable {P : Program} {E : Env} {K : KT} {ops : Array Oper} {l : List An} {dA : Nat → DS} {vA : Nat → AV} {kA : Nat → Option Blk} {s : St} {D0 : Nat → Option Blk} {N nt : Nat}
variable (cx : Cx P E K ops l dA vA kA s D0 N nt)
section
include cx
/-- numbers of blocks laid by two steps are two -/
theorem Cx.apart {p q : Nat} (hp : p < l.length) (hq : q < l.length) {k k' : Blk} (h : kA p = some k) (h' : kA q = some k') (e : (dA p).s.n = (dA q).s.n) : p = q := by
  have ne : ∀ {p q : Nat} (hp : p < l.length) (hq : q < l.length) {k : Blk}, kA p = some k → p < q → (dA p).s.n < (dA q).s.n := fun {p q} hp hq {k} hk hlt => by
    have he : isEff l[p].c = false := by
      cases he : isEff l[p].c with
      | false => rfl
      | true => rw [((cx.tr.step p hp).atEff he).2.2.2] at hk; cases hk
    have e1 := ((cx.tr.step p hp).atNon he).2.2.2 k hk
    have e2 := cx.mono (p := p + 1) (q := q) (by omega) (by omega)
    omega
  rcases Nat.lt_trichotomy p q with h1 | h1 | h1
  · have := ne hp hq h h1; omega
  · exact h1
  · have := ne hq hp h' h1; omega

end
variable {ρ0 : Rn} {w0 : World} {lst : Array Bool} {c : Nat} {G : Nat → Option Blk} {ρ : Rn} {a : Act} {w : World}
variable (iv : Inv P ops l dA vA kA s D0 N nt ρ0 w0 lst c G ρ a w)
include cx iv

theorem Inv.dis (b : Nat) (hb : G b ≠ none) : D0 b = none := by
  rcases iv.x.dom b hb with h | h
  · cases hd : D0 b with
    | none => rfl
    | some k => exact absurd (cx.dis b (by rw [hd]; simp)) h
  · exact cx.fD b h.1 (Nat.lt_of_lt_of_le h.2 cx.fin)

variable {p : Nat} (hp : p < l.length) (hr : ∀ e ∈ l[p].o.after, Region.binds .any e = true → lis lst e.on) (hu : ¬ lis lst l[p].ix)
include hr hu

omit hu in
theorem Inv.ahead {j : Nat} (h : has l[p].anc j = true) : lis lst j := cx.pl.ancR (lis lst) iv.closed p hp j hr h

omit hr in
theorem Inv.behind : c ≤ p := by
  have _ := cx
  rcases Nat.lt_or_ge p c with h | h
  · exact absurd (iv.pre p hp h) hu
  · exact h

/-- what the operation looks at is there -/
theorem Inv.frame : FrameOk ρ (lookM l[p].lk (dA p).s.tm) a := fun t v h => by
  obtain ⟨ht, hv⟩ := lookM_get h
  rcases cx.tm (Nat.le_of_lt hp) hv with ⟨q, hq, h1, h2, h3⟩ | ⟨h1, h2⟩
  · have := ((cx.pl.pair hq hp h1).1 t h2).1 ht
    have hl := iv.ahead cx hp hr this
    obtain ⟨V, g1, g2⟩ := iv.t1 q hq hl t h2
    exact ⟨V, by rw [← h3]; exact g1, g2⟩
  · refine iv.t2 t (fun q hq hl hd => ?_) v h2
    rcases Nat.lt_trichotomy q p with h3 | h3 | h3
    · exact h1 q hq h3 hd
    · subst h3; exact hu hl
    · have := (cx.pl.pair hp hq h3).2.1 t hd ht
      exact hu (cx.pl.anc (lis lst) iv.closed q hq _ hl this)

/-- ahead of an effect all has been carried out that stands ahead of it -/
theorem Inv.allAhead (he : isEff l[p].c = true) : ∀ q (hq : q < l.length), q < p → lis lst l[q].ix := fun q hq hlt => by
  have effs : ∀ q (hq : q < l.length), q < p → isEff l[q].c = true → lis lst l[q].ix := fun q hq hlt hqe =>
    iv.ahead cx hp hr ((cx.pl.pair hq hp hlt).2.2.1 hqe he)
  cases hqe : isEff l[q].c with
  | true => exact effs q hq hlt hqe
  | false =>
    obtain ⟨q', hq', g1, g2, g3, g4⟩ := allOk_next cx.pl.ok q p hq hp hlt hqe he
    rcases Nat.lt_or_ge q' p with h | h
    · exact cx.pl.anc (lis lst) iv.closed q' hq' _ (effs q' hq' h g3) g4
    · have : q' = p := by omega
      subst this
      exact iv.ahead cx hp hr g4

theorem Inv.noEff (he : isEff l[p].c = true) : ∀ q (hq : q < l.length), c ≤ q → q < p → isEff l[q].c = false := fun q hq h1 h2 => by
  cases hqe : isEff l[q].c with
  | false => rfl
  | true =>
    have := (iv.eff q hq hqe).1 (iv.allAhead cx hp hr hu he q hq h2)
    omega

/-- what all steps have in common -/
theorem Inv.frames {ρ' : Rn} {V : Value} (hle : ρ.le ρ') (hV : cv ρ' (vA p) = some V) (hs : l[p].ix < lst.size) :
    (∀ i o, ops[i]? = some o → lis (lst.setIfInBounds l[p].ix true) i → ∀ e ∈ o.after, Region.binds .any e = true → lis (lst.setIfInBounds l[p].ix true) e.on) ∧
    (∀ q (hq : q < l.length), lis (lst.setIfInBounds l[p].ix true) l[q].ix → ∀ t, l[q].o.dst = some t → ∃ V', cv ρ' (vA q) = some V' ∧ (a.put l[p].o.dst V).tmps[t]? = some V') ∧
    (∀ t, (∀ q (hq : q < l.length), lis (lst.setIfInBounds l[p].ix true) l[q].ix → l[q].o.dst ≠ some t) → ∀ v, s.tm.get t = some v → ∃ V', cv ρ' v = some V' ∧ (a.put l[p].o.dst V).tmps[t]? = some V') ∧
    DfOk ρ' s.df (a.put l[p].o.dst V).defers ∧ (a.put l[p].o.dst V).tmps.size = nt := by
  have other : ∀ t, l[p].o.dst ≠ some t → (a.put l[p].o.dst V).tmps[t]? = a.tmps[t]? := fun t ht => by
    cases hd : l[p].o.dst with
    | none => rfl
    | some d =>
      show (a.tmps.setIfInBounds d V)[t]? = _
      rw [Array.getElem?_setIfInBounds_ne (fun e => ht (by rw [hd, e]))]
  refine ⟨fun i o ho hl e he hb => ?_, fun q hq hl t ht => ?_, fun t ht v hv => ?_, ?_, by rw [put_size]; exact iv.sz⟩
  · rw [lis_set hs] at hl ⊢
    rcases hl with rfl | hl
    · rw [cx.pl.op p hp] at ho
      cases ho
      exact .inr (hr e he hb)
    · exact .inr (iv.closed i o ho hl e he hb)
  · rw [lis_set hs] at hl
    by_cases hpq : q = p
    · subst hpq
      refine ⟨V, hV, ?_⟩
      rw [ht]
      show (a.tmps.setIfInBounds t V)[t]? = some V
      rw [Array.getElem?_setIfInBounds_self, if_pos (by rw [iv.sz]; exact cx.dst q hq t ht)]
    · rcases hl with hl | hl
      · exact absurd (cx.pl.inj hq hp hl) hpq
      · obtain ⟨V', h1, h2⟩ := iv.t1 q hq hl t ht
        refine ⟨V', cv_mono hle _ _ h1, ?_⟩
        rw [other t fun e => hpq (cx.pl.dstInj hq hp ht e)]
        exact h2
  · obtain ⟨V', h1, h2⟩ := iv.t2 t (fun q hq hl => ht q hq ((lis_set hs).2 (.inr hl))) v hv
    refine ⟨V', cv_mono hle _ _ h1, ?_⟩
    rw [other t (ht p hp ((lis_set hs).2 (.inl rfl)))]
    exact h2
  · cases l[p].o.dst with
    | none => exact iv.df.mono hle
    | some d => exact iv.df.mono hle
end
end Go.Ex

/-! A drawn region: behind a step. -/
namespace Go.Ex
section
variable {P : Program} {E : Env} {K : KT} {ops : Array Oper} {l : List An} {dA : Nat → DS} {vA : Nat → AV} {kA : Nat → Option Blk} {s : St} {D0 : Nat → Option Blk} {N nt : Nat}
variable (cx : Cx P E K ops l dA vA kA s D0 N nt)
variable {ρ0 : Rn} {w0 : World} {lst : Array Bool} {c : Nat} {G : Nat → Option Blk} {ρ : Rn} {a : Act} {w : World}
variable (iv : Inv P ops l dA vA kA s D0 N nt ρ0 w0 lst c G ρ a w)
include cx iv

theorem Inv.lt {p : Nat} (hp : p < l.length) : l[p].ix < lst.size := by
  rw [iv.size]
  exact (Array.getElem?_eq_some_iff.1 (cx.pl.op p hp)).1

omit iv in
theorem Cx.kN {q : Nat} (hq : q < l.length) {k : Blk} (h : kA q = some k) : (dA (q + 1)).s.n = (dA q).s.n + 1 := by
  cases he : isEff l[q].c with
  | true => rw [((cx.tr.step q hq).atEff he).2.2.2] at h; cases h
  | false => exact (((cx.tr.step q hq).atNon he).2.2.2 k h).1

/-- what the heap behind the last effect holds is there -/
theorem Inv.subBase {b : Nat} {k : Blk} (h : getB (dA c).s.h b = some k) : G b = some k := by
  rw [iv.g2 b fun q hq h1 _ h3 h4 => ?_]
  · exact h
  · obtain ⟨z, hz⟩ := Option.ne_none_iff_exists'.1 h3
    have e1 := cx.mono h1 (Nat.le_of_lt hq)
    have e2 := cx.kN hq hz
    have e3 := cx.last (p := q + 1) hq
    have := iv.f1 b (by omega) (by omega)
    rw [this] at h; cases h

theorem Inv.sub {p : Nat} (hp : p < l.length) (hcp : c ≤ p) (hn : ∀ q (hq : q < l.length), c ≤ q → q < p → isEff l[q].c = false) (hl : ∀ q (hq : q < l.length), q < p → lis lst l[q].ix)
    {b : Nat} {k : Blk} (h : getB (dA p).s.h b = some k) : G b = some k := by
  obtain ⟨_, h2, _, _⟩ := cx.heapAt hcp (Nat.le_of_lt hp) hn
  rcases h2 b k h with ⟨q, hq, q1, q2, q3, q4⟩ | h
  · rw [← q3]; exact iv.g1 q hq q1 (hl q hq q2) k q4
  · exact iv.subBase cx h

theorem Inv.fresh {p : Nat} (hp : p ≤ l.length) (hcp : c ≤ p) (hn : ∀ q (hq : q < l.length), c ≤ q → q < p → isEff l[q].c = false) {b : Nat} (h1 : (dA p).s.n ≤ b) (h2 : b < N) : getB (dA p).s.h b = none := by
  obtain ⟨_, g2, _, _⟩ := cx.heapAt hcp hp hn
  cases hg : getB (dA p).s.h b with
  | none => rfl
  | some k =>
    rcases g2 b k hg with ⟨q, hq, q1, q2, q3, q4⟩ | h
    · have e2 := cx.kN hq q4
      have e3 := cx.mono (p := q + 1) (q := p) (by omega) hp
      omega
    · have e3 := cx.mono hcp hp
      rw [iv.f1 b (by omega) h2] at h; cases h

variable {p : Nat} (hp : p < l.length) (hr : ∀ e ∈ l[p].o.after, Region.binds .any e = true → lis lst e.on) (hu : ¬ lis lst l[p].ix)
include hr hu

/-- BEHIND A STEP THAT IS NO EFFECT. -/
theorem Inv.nextN (he : isEff l[p].c = false) {G' : Nat → Option Blk} {ρ' : Rn} {w' : World} {V : Value} (x : ExtF D0 s.n (dA l.length).s.n (getB s.h) ρ0 w0 G' ρ' w') (hle : ρ.le ρ') (hV : cv ρ' (vA p) = some V)
    (hout : ∀ b, ¬ ((dA p).s.n ≤ b ∧ b < (dA (p + 1)).s.n) → ρ'.blk b = ρ.blk b ∧ ρ'.emp b = ρ.emp b)
    (hG : ∀ k, kA p = some k → G' (dA p).s.n = some k) (hG' : ∀ b, (kA p ≠ none → b ≠ (dA p).s.n) → G' b = G b) :
    Inv P ops l dA vA kA s D0 N nt ρ0 w0 (lst.setIfInBounds l[p].ix true) c G' ρ' (a.put l[p].o.dst V) w' := by
  have hs := iv.lt cx hp
  obtain ⟨f1, f2, f3, f4, f5⟩ := iv.frames cx hp hr hu hle hV hs
  have hcp := iv.behind cx hp hu
  have old : ∀ q (hq : q < l.length), q ≠ p → lis (lst.setIfInBounds l[p].ix true) l[q].ix → lis lst l[q].ix := fun q hq hne h => by
    rw [lis_set hs] at h
    rcases h with h | h
    · exact absurd (cx.pl.inj hq hp h) hne
    · exact h
  exact {
    size := by rw [Array.size_setIfInBounds]; exact iv.size
    closed := f1
    cle := iv.cle
    base := iv.base
    eff := fun q hq hqe => by
      rw [← iv.eff q hq hqe, lis_set hs]
      constructor
      · rintro (h | h)
        · have := cx.pl.inj hq hp h
          subst this
          rw [he] at hqe; cases hqe
        · exact h
      · exact .inr
    pre := fun q hq h => (lis_set hs).2 (.inr (iv.pre q hq h))
    x := x
    g1 := fun q hq h1 h2 k hk => by
      by_cases hqp : q = p
      · subst hqp; exact hG k hk
      · rw [hG' _ fun h3 e => ?_]
        · exact iv.g1 q hq h1 (old q hq hqp h2) k hk
        · obtain ⟨z, hz⟩ := Option.ne_none_iff_exists'.1 h3
          exact hqp (cx.apart hq hp hk hz e)
    g2 := fun b hb => by
      rw [hG' b fun h3 e => hb p hp hcp ((lis_set hs).2 (.inl rfl)) h3 e.symm]
      exact iv.g2 b fun q hq h1 h2 h3 => hb q hq h1 ((lis_set hs).2 (.inr h2)) h3
    f1 := iv.f1
    free := fun q hq hl b h1 h2 => by
      have hqp : q ≠ p := fun e => hl (by subst e; exact (lis_set hs).2 (.inl rfl))
      have hl' : ¬ lis lst l[q].ix := fun h => hl ((lis_set hs).2 (.inr h))
      obtain ⟨g1, g2, g3⟩ := iv.free q hq hl' b h1 h2
      have hr : ¬ ((dA p).s.n ≤ b ∧ b < (dA (p + 1)).s.n) := by
        rcases Nat.lt_or_ge q p with h | h
        · have := cx.mono (p := q + 1) (q := p) (by omega) (by omega); omega
        · have := cx.mono (p := p + 1) (q := q) (by omega) (by omega); omega
      obtain ⟨o1, o2⟩ := hout b hr
      refine ⟨o1.trans g1, o2.trans g2, ?_⟩
      rw [hG' b fun h3 e => ?_]
      · exact g3
      · obtain ⟨z, hz⟩ := Option.ne_none_iff_exists'.1 h3
        have := cx.kN hp hz
        omega
    t1 := f2
    t2 := f3
    df := f4
    sz := f5 }

/-- BEHIND AN EFFECT. -/
theorem Inv.nextE (he : isEff l[p].c = true) {G' : Nat → Option Blk} {ρ' : Rn} {w' : World} {V : Value} (x : ExtF D0 s.n (dA l.length).s.n (getB s.h) ρ0 w0 G' ρ' w') (hle : ρ.le ρ') (hV : cv ρ' (vA p) = some V)
    (hout : ∀ b, ¬ ((dA p).s.n ≤ b ∧ b < (dA (p + 1)).s.n) → ρ'.blk b = ρ.blk b ∧ ρ'.emp b = ρ.emp b)
    (hdom : ∀ b, getB (dA (p + 1)).s.h b ≠ none → getB (dA p).s.h b ≠ none ∨ ((dA p).s.n ≤ b ∧ b < (dA (p + 1)).s.n))
    (h1 : ∀ b, getB (dA p).s.h b ≠ none ∨ ((dA p).s.n ≤ b ∧ b < (dA (p + 1)).s.n) → G' b = getB (dA (p + 1)).s.h b)
    (h2 : ∀ b, getB (dA p).s.h b = none → ¬ ((dA p).s.n ≤ b ∧ b < (dA (p + 1)).s.n) → G' b = G b) :
    Inv P ops l dA vA kA s D0 N nt ρ0 w0 (lst.setIfInBounds l[p].ix true) (p + 1) G' ρ' (a.put l[p].o.dst V) w' := by
  have hs := iv.lt cx hp
  obtain ⟨f1, f2, f3, f4, f5⟩ := iv.frames cx hp hr hu hle hV hs
  have hcp := iv.behind cx hp hu
  have hpre := iv.allAhead cx hp hr hu he
  have hnoe := iv.noEff cx hp hr hu he
  have hfr : ∀ b, (dA p).s.n ≤ b → b < N → getB (dA p).s.h b = none := fun b a1 a2 => iv.fresh cx (Nat.le_of_lt hp) hcp hnoe a1 a2
  obtain ⟨_, a2, a3, a4⟩ := cx.heapAt hcp (Nat.le_of_lt hp) hnoe
  obtain ⟨e1, e2, _, e4⟩ := (cx.tr.step p hp).atEff he
  have hmp := cx.mono1 hp
  have hlast := cx.last (p := p + 1) hp
  have old : ∀ q (hq : q < l.length), q ≠ p → lis (lst.setIfInBounds l[p].ix true) l[q].ix → lis lst l[q].ix := fun q hq hne h => by
    rw [lis_set hs] at h
    rcases h with h | h
    · exact absurd (cx.pl.inj hq hp h) hne
    · exact h
  exact {
    size := by rw [Array.size_setIfInBounds]; exact iv.size
    closed := f1
    cle := hp
    base := ⟨e2, e1⟩
    eff := fun q hq hqe => by
      rw [lis_set hs]
      constructor
      · rintro (h | h)
        · have := cx.pl.inj hq hp h; omega
        · have := (iv.eff q hq hqe).1 h; omega
      · intro h
        by_cases hqp : q = p
        · subst hqp; exact .inl rfl
        · exact .inr (hpre q hq (by omega))
    pre := fun q hq h => by
      rw [lis_set hs]
      by_cases hqp : q = p
      · subst hqp; exact .inl rfl
      · exact .inr (hpre q hq (by omega))
    x := x
    g1 := fun q hq b1 b2 k hk => by
      have hqp : q ≠ p := by omega
      have c1 := cx.mono (p := p + 1) (q := q) (by omega) (by omega)
      have c2 := cx.kN hq hk
      have c3 := cx.last (p := q + 1) hq
      rw [h2 _ (hfr _ (by omega) (by omega)) (by omega)]
      exact iv.g1 q hq (by omega) (old q hq hqp b2) k hk
    g2 := fun b hb => by
      by_cases hd : getB (dA p).s.h b ≠ none ∨ ((dA p).s.n ≤ b ∧ b < (dA (p + 1)).s.n)
      · exact h1 b hd
      · have hd1 : getB (dA p).s.h b = none := by
          cases hg : getB (dA p).s.h b with
          | none => rfl
          | some k => exact absurd (.inl (by rw [hg]; simp)) hd
        have hd2 : ¬ ((dA p).s.n ≤ b ∧ b < (dA (p + 1)).s.n) := fun h => hd (.inr h)
        have hn : getB (dA (p + 1)).s.h b = none := by
          cases hg : getB (dA (p + 1)).s.h b with
          | none => rfl
          | some k => exact absurd (hdom b (by rw [hg]; simp)) hd
        rw [h2 b hd1 hd2, hn, iv.g2 b fun q hq b1 b2 b3 b4 => ?_]
        · cases hg : getB (dA c).s.h b with
          | none => rfl
          | some k =>
            have := a4 b k hg (by
              rcases Nat.lt_or_ge b (dA c).s.n with q | q
              · exact .inl q
              · rcases Nat.lt_or_ge b N with q' | q'
                · rw [iv.f1 b q q'] at hg; cases hg
                · exact .inr (by omega))
            rw [hd1] at this; cases this
        · obtain ⟨z, hz⟩ := Option.ne_none_iff_exists'.1 b3
          rcases Nat.lt_trichotomy q p with q1 | q1 | q1
          · have := a3 q z b1 q1 hz
            rw [b4, hd1] at this; cases this
          · subst q1; rw [e4] at hz; cases hz
          · exact hb q hq (by omega) ((lis_set hs).2 (.inr b2)) b3 b4
    f1 := fun b b1 b2 => by
      cases hg : getB (dA (p + 1)).s.h b with
      | none => rfl
      | some k =>
        rcases hdom b (by rw [hg]; simp) with q | q
        · exact absurd (hfr b (by omega) b2) q
        · omega
    free := fun q hq hl b b1 b2 => by
      have hqp : q ≠ p := fun e => hl (by subst e; exact (lis_set hs).2 (.inl rfl))
      have hl' : ¬ lis lst l[q].ix := fun h => hl ((lis_set hs).2 (.inr h))
      have hlt : p < q := by
        rcases Nat.lt_trichotomy q p with q1 | q1 | q1
        · exact absurd (hpre q hq q1) hl'
        · exact absurd q1 hqp
        · exact q1
      obtain ⟨g1, g2, g3⟩ := iv.free q hq hl' b b1 b2
      have c1 := cx.mono (p := p + 1) (q := q) (by omega) (by omega)
      have c3 := cx.last (p := q + 1) hq
      obtain ⟨o1, o2⟩ := hout b (by omega)
      refine ⟨o1.trans g1, o2.trans g2, ?_⟩
      rw [h2 b (hfr b (by omega) (by omega)) (by omega)]
      exact g3
    t1 := f2
    t2 := f3
    df := f4
    sz := f5 }
end
end Go.Ex

/-! A drawn region: a step in any order; the whole. -/
namespace Go.Ex

theorem Ext.shift {D : Nat → Option Blk} {k j : Nat} {h h' : H} {ρ ρ' : Rn} {w w' : World} (x : Ext D k h ρ w k h' ρ' w') : Ext D j h ρ w j h' ρ' w' :=
  ⟨Nat.le_refl _, x.le, fun b _ => x.out b (by omega), x.sim, fun b hb => .inl ((x.dom b hb).resolve_right (by omega)), x.size, x.keep, x.img, x.os, x.tape, x.output, x.ro⟩

theorem un_leaf (F : Nat → Option Blk) : un .leaf F = F := funext fun b => un_none (getB_leaf b)

section
variable {P : Program} {E : Env} {K : KT} {ops : Array Oper} {l : List An} {dA : Nat → DS} {vA : Nat → AV} {kA : Nat → Option Blk} {s : St} {D0 : Nat → Option Blk} {N nt : Nat}
variable (cx : Cx P E K ops l dA vA kA s D0 N nt)
variable {ρ0 : Rn} {w0 : World} {lst : Array Bool} {c : Nat} {G : Nat → Option Blk} {ρ : Rn} {a : Act} {w : World}
variable (iv : Inv P ops l dA vA kA s D0 N nt ρ0 w0 lst c G ρ a w)
include cx iv
variable {p : Nat} (hp : p < l.length) (hr : ∀ e ∈ l[p].o.after, Region.binds .any e = true → lis lst e.on) (hu : ¬ lis lst l[p].ix)
include hr hu

theorem Inv.leafPre : Pre P (unF G D0) .leaf ρ w (lookM l[p].lk (dA p).s.tm) a where
  sim := by rw [un_leaf]; exact iv.x.sim
  dis := fun b _ => getB_leaf b
  fr := iv.frame cx hp hr hu

omit hr in
theorem Inv.nothing {b : Nat} (h1 : (dA p).s.n ≤ b) (h2 : b < (dA (p + 1)).s.n) : G b = none ∧ D0 b = none :=
  ⟨(iv.free p hp hu b h1 h2).2.2, cx.fD b (Nat.le_trans (cx.first (Nat.le_of_lt hp)) h1) (Nat.lt_of_lt_of_le h2 (cx.last (p := p + 1) hp))⟩

/-- A STEP, WHENEVER ITS TURN COMES. -/
theorem Inv.step {Kn : Act → World → Prop} {Q : Exit → Act → World → Prop}
    (hK : ∀ c' G' ρ' a' w', Inv P ops l dA vA kA s D0 N nt ρ0 w0 (lst.setIfInBounds l[p].ix true) c' G' ρ' a' w' → Kn a' w') : wpOp P ops Q l[p].ix Kn a w := by
  unfold wpOp
  rw [cx.pl.op p hp]
  simp only
  have hf := iv.frame cx hp hr hu
  have hcp := iv.behind cx hp hu
  have hmp := cx.mono1 hp
  have hfirst := cx.first (Nat.le_of_lt hp)
  have hE := cx.mono (p := p + 1) (q := l.length) hp (Nat.le_refl _)
  have hst := cx.tr.step p hp
  generalize hd : dA (p + 1) = d' at hst
  generalize hv : vA p = v at hst
  generalize hk : kA p = k at hst
  have go : ∀ {V : Value} {w' : World}, (Runs P l[p].o a w V w') → Kn (a.put l[p].o.dst V) w' → l[p].o.wp P a w Kn Q := fun {V w'} hrun hn => by
    unfold Oper.wp
    rcases hrun with hrun | ⟨hrun, rfl⟩ <;> (rw [hrun]; exact hn)
  cases hst with
  | skip hg hc =>
    rw [guardA_ok hf hg, if_neg (by simp)]
    exact hK _ _ _ _ _ (iv.nextN cx hp hr hu hc iv.x (Rn.le.refl ρ) (by rw [hv]; exact cv_undef ρ) (fun _ _ => ⟨rfl, rfl⟩) (fun k h => by rw [hk] at h; cases h) fun _ _ => rfl)
  | skipE hg hc =>
    rw [guardA_ok hf hg, if_neg (by simp)]
    have hh : (dA (p + 1)).s.h = (dA p).s.h := by rw [hd]; rfl
    have hpre := iv.allAhead cx hp hr hu hc
    have hnoe := iv.noEff cx hp hr hu hc
    have hn : (dA (p + 1)).s.n = (dA p).s.n := by rw [hd]; rfl
    refine hK _ _ _ _ _ (iv.nextE cx hp hr hu hc iv.x (Rn.le.refl ρ) (by rw [hv]; exact cv_undef ρ) (fun _ _ => ⟨rfl, rfl⟩) (fun b hb => .inl (by rw [hh] at hb; exact hb)) (fun b hb => ?_) fun _ _ _ => rfl)
    rcases hb with hb | hb
    · obtain ⟨z, hz⟩ := Option.ne_none_iff_exists'.1 hb
      rw [hh, hz]
      exact iv.sub cx hp hcp hnoe hpre hz
    · omega
  | free v hg hc he =>
    rw [guardA_ok hf hg, if_pos rfl]
    rw [cx.hP] at he
    have := aop_ok (n := (dA p).s.n) (iv.leafPre cx hp hr hu) l[p].o
    rw [he] at this
    obtain ⟨w', V, hrun, hV, x⟩ := this
    have x' := iv.x.step x (Nat.le_trans cx.big hfirst) hfirst (by omega) (fun b c h => by rw [getB_leaf] at h; cases h) (fun b h => absurd (getB_leaf b) h) (fun b _ => rfl) (iv.dis cx) (fun b h1 h2 => by omega)
      (G' := G) (fun b h => by rcases h with h | h; exact absurd (getB_leaf b) h; omega) fun b _ _ => rfl
    exact .inl (go hrun (hK _ _ _ _ _ (iv.nextN cx hp hr hu hc x' (Rn.le.refl ρ) (by rw [hv]; exact hV) (fun _ _ => ⟨rfl, rfl⟩) (fun k h => by rw [hk] at h; cases h) fun _ _ => rfl)))
  | freeE v hg hc he =>
    rw [guardA_ok hf hg, if_pos rfl]
    rw [cx.hP] at he
    have hn : (dA (p + 1)).s.n = (dA p).s.n + 1 := by rw [hd]; rfl
    have := aop_ok (n := (dA p).s.n) (iv.leafPre cx hp hr hu) l[p].o
    rw [he] at this
    obtain ⟨ρ', w', V, hrun, hV, x⟩ := this ⟨Nat.le_trans cx.big hfirst, fun b h1 h2 => (iv.free p hp hu b h1 (by omega)).1, fun b h1 h2 => (iv.free p hp hu b h1 (by omega)).2.1, fun b _ _ => getB_leaf b, fun b h1 h2 => by
      obtain ⟨q1, q2⟩ := iv.nothing cx hp hu h1 (by omega)
      rw [unF_none q1, q2]⟩
    have x' := iv.x.step x (Nat.le_trans cx.big hfirst) hfirst (by omega) (fun b c h => by rw [getB_leaf] at h; cases h) (fun b h => absurd (getB_leaf b) h) (fun b _ => rfl) (iv.dis cx) (fun b h1 h2 => iv.nothing cx hp hu h1 (by omega))
      (G' := G) (fun b h => by
        rcases h with h | h
        · exact absurd (getB_leaf b) h
        · rw [(iv.nothing cx hp hu h.1 (by omega)).1]; exact (getB_leaf b).symm) fun b _ _ => rfl
    exact .inl (go hrun (hK _ _ _ _ _ (iv.nextN cx hp hr hu hc x' x.le (by rw [hv]; exact hV) (fun b h => x.out b (by omega)) (fun k h => by rw [hk] at h; cases h) fun _ _ => rfl)))
  | alloc v k hg hc he =>
    rw [guardA_ok hf hg, if_pos rfl]
    rw [cx.hP] at he
    have hn : (dA (p + 1)).s.n = (dA p).s.n + 1 := by rw [hd]; rfl
    have := aop_ok (n := (dA p).s.n) (iv.leafPre cx hp hr hu) l[p].o
    rw [he] at this
    obtain ⟨ρ', w', V, hrun, hV, x⟩ := this ⟨Nat.le_trans cx.big hfirst, fun b h1 h2 => (iv.free p hp hu b h1 (by omega)).1, fun b h1 h2 => (iv.free p hp hu b h1 (by omega)).2.1, fun b _ _ => getB_leaf b, fun b h1 h2 => by
      obtain ⟨q1, q2⟩ := iv.nothing cx hp hu h1 (by omega)
      rw [unF_none q1, q2]⟩
    have hat : ∀ b, getB (applyW .leaf [((dA p).s.n, some k)]) b = if b = (dA p).s.n then some k else none := fun b => by
      show getB (PT.set (some k) (path (dA p).s.n) .leaf) b = _
      by_cases h : b = (dA p).s.n
      · subst h; rw [getB_set, if_pos rfl]
      · rw [getB_set_ne _ _ h, if_neg h]; exact getB_leaf b
    have x' := iv.x.step x (Nat.le_trans cx.big hfirst) hfirst (by omega) (fun b c h => by rw [getB_leaf] at h; cases h) (fun b h => absurd (getB_leaf b) h) (fun b _ => rfl) (iv.dis cx) (fun b h1 h2 => iv.nothing cx hp hu h1 (by omega))
      (G' := fun b => if b = (dA p).s.n then some k else G b) (fun b h => by
        rcases h with h | h
        · exact absurd (getB_leaf b) h
        · have : b = (dA p).s.n := by omega
          rw [hat]; simp only [this, if_true]) fun b _ h => if_neg (by omega)
    exact .inl (go hrun (hK _ _ _ _ _ (iv.nextN cx hp hr hu hc x' x.le (by rw [hv]; exact hV) (fun b h => x.out b (by omega)) (fun k' h => by rw [hk] at h; cases h; exact if_pos rfl) fun b h => if_neg (h (by rw [hk]; simp)))))
  | read v hg hc he hpo =>
    rw [guardA_ok hf hg, if_pos rfl]
    obtain ⟨us, A, s1, s2, s3⟩ := cx.seg iv.base.1 hcp (Nat.le_of_lt hp)
    have hus : ∀ e ∈ us, has l[p].anc e = false := fun e he => by
      obtain ⟨q, hq, q1, q2, q3, rfl⟩ := s2 e he
      cases hh : has l[p].anc l[q].ix with
      | false => rfl
      | true =>
        have := (iv.eff q hq q3).1 (iv.ahead cx hp hr hh)
        omega
    have hrd := seg_read s1 [] hus he hpo
    rw [List.nil_append, cx.hP] at hrd
    have hsub : ∀ b k, getB (withAl l[p].anc (dA c).h0 A) b = some k → G b = some k := fun b k hb => by
      rcases withAl_some (fun iw hi => by obtain ⟨q, hq, k, _, _, _, _, e⟩ := s3 iw hi; exact ⟨_, _, e⟩) hb with ⟨iw, i1, i2, i3⟩ | hb
      · obtain ⟨q, hq, k', q1, q2, q3, q4, q5⟩ := s3 iw i1
        rw [q5] at i3
        cases i3
        exact iv.g1 q hq q1 (iv.ahead cx hp hr (by rw [q3]; exact i2)) k q4
      · rw [iv.base.2] at hb
        exact iv.subBase cx hb
    have hsubF : ∀ b k, getB (withAl l[p].anc (dA c).h0 A) b = some k → unF G D0 b = some k := fun b k hb => unF_some (hsub b k hb)
    have pre : Pre P (restD (withAl l[p].anc (dA c).h0 A) (unF G D0)) (withAl l[p].anc (dA c).h0 A) ρ w (lookM l[p].lk (dA p).s.tm) a := ⟨by rw [un_restD hsubF]; exact iv.x.sim, restD_dis, hf⟩
    have := aop_ok (n := 0) pre l[p].o
    rw [hrd] at this
    obtain ⟨w', V, hrun, hV, x⟩ := this
    have x' := iv.x.step (x.shift (j := (dA p).s.n)) (Nat.le_trans cx.big hfirst) hfirst (by omega) hsub (fun b h => restD_dom h) (fun b h => restD_out h) (iv.dis cx) (fun b h1 h2 => by omega)
      (G' := G) (fun b h => by
        rcases h with h | h
        · obtain ⟨z, hz⟩ := Option.ne_none_iff_exists'.1 h
          exact (hsub b z hz).trans hz.symm
        · omega) fun b _ _ => rfl
    exact .inl (go hrun (hK _ _ _ _ _ (iv.nextN cx hp hr hu hc x' (Rn.le.refl ρ) (by rw [hv]; exact hV) (fun _ _ => ⟨rfl, rfl⟩) (fun k h => by rw [hk] at h; cases h) fun _ _ => rfl)))
  | eff v h' n' hg hc he =>
    rw [guardA_ok hf hg, if_pos rfl]
    obtain ⟨g1, g2⟩ := effIs_ok cx.hK cx.hP cx.hM he
    have hpre := iv.allAhead cx hp hr hu hc
    have hnoe := iv.noEff cx hp hr hu hc
    have hn : (dA (p + 1)).s.n = n' := by rw [hd]; rfl
    have hh : (dA (p + 1)).s.h = h' := by rw [hd]; rfl
    have hlast := cx.last (p := p + 1) hp
    have hsub : ∀ b k, getB (dA p).s.h b = some k → G b = some k := fun b k hb => iv.sub cx hp hcp hnoe hpre hb
    have hsubF : ∀ b k, getB (dA p).s.h b = some k → unF G D0 b = some k := fun b k hb => unF_some (hsub b k hb)
    have pre : Pre P (restD (dA p).s.h (unF G D0)) (dA p).s.h ρ w (lookM l[p].lk (dA p).s.tm) a := ⟨by rw [un_restD hsubF]; exact iv.x.sim, restD_dis, hf⟩
    have hfr : ∀ b, (dA p).s.n ≤ b → b < n' → getB (dA p).s.h b = none := fun b a1 a2 => iv.fresh cx (Nat.le_of_lt hp) hcp hnoe a1 (by omega)
    refine .inl (g2 pre ⟨Nat.le_trans cx.big hfirst, fun b h1 h2 => (iv.free p hp hu b h1 (by omega)).1, fun b h1 h2 => (iv.free p hp hu b h1 (by omega)).2.1, hfr, fun b h1 h2 => by
      obtain ⟨q1, q2⟩ := iv.nothing cx hp hu h1 (by omega)
      rw [restD_out (hfr b h1 h2), unF_none q1, q2]⟩ fun V ρ' w' hV x => ?_)
    have x' := iv.x.step x (Nat.le_trans cx.big hfirst) hfirst (by omega) hsub (fun b h => restD_dom h) (fun b h => restD_out h) (iv.dis cx) (fun b h1 h2 => iv.nothing cx hp hu h1 (by omega))
      (G' := fun b => match getB (dA p).s.h b with | some _ => getB h' b | none => if (dA p).s.n ≤ b ∧ b < n' then getB h' b else G b) (fun b h => by
        rcases h with h | h
        · obtain ⟨z, hz⟩ := Option.ne_none_iff_exists'.1 h
          simp only [hz]
        · simp only [hfr b h.1 h.2, h, and_self, if_true]) (fun b h1 h2 => by simp only [h1]; exact if_neg h2)
    refine hK _ _ _ _ _ (iv.nextE cx hp hr hu hc x' x.le (by rw [hv]; exact hV) (fun b h => x.out b (by omega)) (fun b hb => by rw [hh] at hb; rw [hn]; exact x.dom b hb) (fun b h => ?_) fun b h1 h2 => ?_)
    · rw [hh]
      rcases h with h | h
      · obtain ⟨z, hz⟩ := Option.ne_none_iff_exists'.1 h
        simp only [hz]
      · rw [hn] at h
        simp only [hfr b h.1 h.2, h, and_self, if_true]
    · simp only [h1]
      rw [hn] at h2
      exact if_neg h2
end
end Go.Ex

/-! A drawn region: the whole. -/
namespace Go.Ex

theorem countP_lt {f g : Nat → Bool} : ∀ {l : List Nat} {i : Nat}, (∀ x, g x = true → f x = true) → i ∈ l → f i = true → g i = false → l.countP g < l.countP f
  | x :: l, i, h, hi, hf, hg => by
    have le : l.countP g ≤ l.countP f := List.countP_mono_left fun x _ hx => h x hx
    rw [List.countP_cons, List.countP_cons]
    rcases List.mem_cons.1 hi with rfl | hi
    · rw [hf, hg]
      simp only [Bool.false_eq_true, if_false, if_true]
      omega
    · have := countP_lt h hi hf hg
      by_cases hx : g x = true
      · rw [hx, h x hx]; omega
      · rw [if_neg hx]; split <;> omega

section
variable {P : Program} {E : Env} {K : KT} {ops : Array Oper} {l : List An} {dA : Nat → DS} {vA : Nat → AV} {kA : Nat → Option Blk} {s : St} {D0 : Nat → Option Blk} {N nt : Nat}
variable (cx : Cx P E K ops l dA vA kA s D0 N nt)
variable {ρ0 : Rn} {w0 : World}
include cx

theorem Inv.whole {lst : Array Bool} {c : Nat} {G : Nat → Option Blk} {ρ : Rn} {a : Act} {w : World} (iv : Inv P ops l dA vA kA s D0 N nt ρ0 w0 lst c G ρ a w) (all : ∀ i, i < ops.size → lis lst i)
    (fr0 : Fr ρ0 s.h D0 s.n N) : StOk P D0 N nt ρ w (dA l.length).s a ∧ Ext D0 s.n s.h ρ0 w0 (dA l.length).s.n (dA l.length).s.h ρ w := by
  have al : ∀ p (hp : p < l.length), lis lst l[p].ix := fun p hp => all _ (Array.getElem?_eq_some_iff.1 (cx.pl.op p hp)).1
  have hn : ∀ q (hq : q < l.length), c ≤ q → q < l.length → isEff l[q].c = false := fun q hq h1 _ => by
    cases he : isEff l[q].c with
    | false => rfl
    | true => have := (iv.eff q hq he).1 (al q hq); omega
  obtain ⟨_, h2, h3, h4⟩ := cx.heapAt iv.cle (Nat.le_refl _) hn
  have hG : ∀ b, G b = getB (dA l.length).s.h b := fun b => by
    cases hg : getB (dA l.length).s.h b with
    | some k =>
      rcases h2 b k hg with ⟨q, hq, q1, q2, q3, q4⟩ | h
      · rw [← q3]; exact iv.g1 q hq q1 (al q hq) k q4
      · exact iv.subBase cx h
    | none =>
      rw [iv.g2 b fun q hq q1 q2 q3 q4 => ?_]
      · cases hb : getB (dA c).s.h b with
        | none => rfl
        | some k =>
          have := h4 b k hb (by
            rcases Nat.lt_or_ge b (dA c).s.n with q | q
            · exact .inl q
            · rcases Nat.lt_or_ge b N with q' | q'
              · rw [iv.f1 b q q'] at hb; cases hb
              · exact .inr (Nat.le_trans cx.fin q'))
          rw [hg] at this; cases this
      · obtain ⟨z, hz⟩ := Option.ne_none_iff_exists'.1 q3
        have := h3 q z q1 hq hz
        rw [q4, hg] at this; cases this
  have hfirst := cx.first (Nat.le_refl l.length)
  have x := iv.x.to hfirst hG
  refine ⟨⟨⟨x.sim, fun b hb => ?_, fun t v h => ?_⟩, fr0.behind x, ?_, iv.sz⟩, x⟩
  · cases hg : getB (dA l.length).s.h b with
    | none => rfl
    | some k => exact absurd (iv.dis cx b (by rw [hG b, hg]; simp)) hb
  · rcases cx.tm (Nat.le_refl _) h with ⟨q, hq, _, q2, q3⟩ | ⟨q1, q2⟩
    · rw [← q3]; exact iv.t1 q hq (al q hq) t q2
    · exact iv.t2 t (fun q hq _ => q1 q hq hq) v q2
  · rw [cx.df (Nat.le_refl _)]; exact iv.df

theorem Inv.any {Q : Exit → Act → World → Prop} (fr0 : Fr ρ0 s.h D0 s.n N)
    (hQ : ∀ a w ρ, StOk P D0 N nt ρ w (dA l.length).s a → Ext D0 s.n s.h ρ0 w0 (dA l.length).s.n (dA l.length).s.h ρ w → Q .normal a w) :
    ∀ (fuel : Nat) {lst : Array Bool} {c : Nat} {G : Nat → Option Blk} {ρ : Rn} {a : Act} {w : World}, Inv P ops l dA vA kA s D0 N nt ρ0 w0 lst c G ρ a w →
      (List.range ops.size).countP (fun i => !lst.getD i false) ≤ fuel → wpAny P .any ops Q fuel lst a w := by
  intro fuel
  have last : ∀ {lst : Array Bool} {c : Nat} {G : Nat → Option Blk} {ρ : Rn} {a : Act} {w : World}, Inv P ops l dA vA kA s D0 N nt ρ0 w0 lst c G ρ a w → (∀ i, i < ops.size → lis lst i) → Q .normal a w := fun iv h => by
    obtain ⟨g1, g2⟩ := Inv.whole cx iv h fr0
    exact hQ _ _ _ g1 g2
  have notl : ∀ {lst : Array Bool} {j : Nat}, lst.getD j true = false → ¬ lis lst j := fun {lst j} h h' => by
    unfold lis at h'
    rcases Nat.lt_or_ge j lst.size with h1 | h1
    · simp [h1] at h h'; rw [h] at h'; cases h'
    · simp [Array.getElem?_eq_none h1] at h'
  have nol : ∀ {lst : Array Bool} {j : Nat}, j < lst.size → ¬ lis lst j → lst.getD j true = false := fun {lst j} h1 h => by
    unfold lis at h
    simp [h1] at h ⊢
    exact h
  induction fuel with
  | zero =>
    intro lst c G ρ a w iv hc
    have h0 : (List.range ops.size).countP (fun i => !lst.getD i false) = 0 := by omega
    have all : ∀ i, i < ops.size → lis lst i := fun i hi => by
      have := List.countP_eq_zero.1 h0 i (by simpa using hi)
      unfold lis
      cases h : lst.getD i false with
      | true => rfl
      | false => rw [h] at this; simp at this
    refine ⟨?_, last iv all⟩
    cases hr : Region.ready .any ops lst with
    | nil => rfl
    | cons j r =>
      have hj : j ∈ Region.ready .any ops lst := by rw [hr]; simp
      obtain ⟨h1, o, ho, _⟩ := mem_ready.1 hj
      exact absurd (all j (Array.getElem?_eq_some_iff.1 ho).1) (notl h1)
  | succ fuel ih =>
    intro lst c G ρ a w iv hc
    refine ⟨fun hr => last iv fun i => ?_, fun i hi => ?_⟩
    · induction i using Nat.strongRecOn with
      | _ i ihi =>
        intro hi
        by_cases hl : lis lst i
        · exact hl
        · have ho : ops[i]? = some ops[i] := Array.getElem?_eq_getElem hi
          have : i ∈ Region.ready .any ops lst := mem_ready.2 ⟨nol (by rw [iv.size]; exact hi) hl, _, ho, fun e he hb => by
            have hlt := cx.pl.edge i _ ho e he hb
            exact ihi e.on hlt (by omega)⟩
          rw [hr] at this; cases this
    · obtain ⟨h1, o, ho, h2⟩ := mem_ready.1 hi
      have hlt := (Array.getElem?_eq_some_iff.1 ho).1
      obtain ⟨p, hp, rfl⟩ := cx.pl.all i hlt
      have hu := notl h1
      rw [cx.pl.op p hp] at ho
      cases ho
      refine iv.step cx hp h2 hu fun c' G' ρ' a' w' iv' => ih iv' ?_
      have hs := iv.lt cx hp
      have := countP_lt (f := fun i => !lst.getD i false) (g := fun i => !(lst.setIfInBounds l[p].ix true).getD i false) (l := List.range ops.size) (i := l[p].ix) (fun x hx => by
        cases h : lst.getD x false with
        | false => rfl
        | true =>
          have := (lis_set hs).2 (.inr h : x = l[p].ix ∨ lis lst x)
          unfold lis at this
          rw [this] at hx; cases hx) (by simpa using hlt) (by
        unfold lis at hu
        simpa using hu) (by
        have := (lis_set (j := l[p].ix) hs).2 (.inl rfl)
        unfold lis at this
        rw [this]; rfl)
      omega
end

theorem trace_mono {P : Program} {E : Env} {K : KT} {ops : Array Oper} {l : List An} {dA : Nat → DS} {vA : Nat → AV} {kA : Nat → Option Blk} (hK : KOk P K) (hP : E.P = P) (hM : E.mt = mtP P) (tr : Trace E K ops l dA vA kA) :
    ∀ p, p ≤ l.length → (dA 0).s.n ≤ (dA p).s.n
  | 0, _ => Nat.le_refl _
  | p + 1, h => Nat.le_trans (trace_mono hK hP hM tr p (by omega)) ((tr.step p h).nle hK hP hM)

/-- A REGION THAT DRAWS ITS ORDER. -/
theorem xdraw_ok {P : Program} {nt : Nat} {K : KT} (hK : KOk P K) {E : Env} (hP : E.P = P) (hM : E.mt = mtP P) {ops : Array Oper} {s : St} {e : Ex} {r : St} (hr : xdraw E K ops s = .ok e r) (hl : ∀ o ∈ ops.toList, dstLt nt o = true) :
    e = .normal ∧ s.n ≤ r.n ∧ ∀ {D ρ w a N}, StOk P D N nt ρ w s a → r.n ≤ N → ∀ {Q : Exit → Act → World → Prop},
      (∀ a' w' ρ', StOk P D N nt ρ' w' r a' → Ext D s.n s.h ρ w r.n r.h ρ' w' → Q .normal a' w') → wpAny P .any ops Q ops.size (Array.replicate ops.size false) a { w with drawn := w.drawn + 1 } := by
  unfold xdraw at hr
  split at hr
  · cases hr
  · rename_i l hpl
    obtain ⟨dA, vA, kA, tr, h0, hend, he⟩ := xans_trace _ _ hr
    have hm := trace_mono hK hP hM tr l.length (Nat.le_refl _)
    rw [h0, hend] at hm
    refine ⟨he, hm, fun {D ρ w a N} st hN {Q} hQ => ?_⟩
    have pl : PlanOk P ops l := plan_ok (by rw [← hP]; exact hpl)
    have cx : Cx P E K ops l dA vA kA s D N nt := {
      hK := hK
      hP := hP
      hM := hM
      pl := pl
      tr := tr
      d0 := h0
      dst := fun p hp d hd => dstLt_spec (hl _ (by
        obtain ⟨h1, h2⟩ := Array.getElem?_eq_some_iff.1 (pl.op p hp)
        rw [← h2]
        simp)) d hd
      fin := by rw [hend]; exact hN
      big := st.fr.big
      fD := st.fr.D
      fh := st.fr.h
      dis := st.pre.dis }
    have hw : SameW w { w with drawn := w.drawn + 1 } := ⟨rfl, rfl, rfl, rfl⟩
    have sim := st.pre.sim.same hw
    have nl : ∀ i, ¬ lis (Array.replicate ops.size false) i := fun i h => by
      unfold lis at h
      rcases Nat.lt_or_ge i ops.size with h1 | h1
      · simp [h1] at h
      · simp [Array.getElem?_eq_none (xs := Array.replicate ops.size false) (i := i) (by simpa using h1)] at h
    have iv : Inv P ops l dA vA kA s D N nt ρ { w with drawn := w.drawn + 1 } (Array.replicate ops.size false) 0 (getB s.h) ρ a { w with drawn := w.drawn + 1 } := {
      size := by simp
      closed := fun i o _ h => absurd h (nl i)
      cle := Nat.zero_le _
      base := by rw [h0]; exact ⟨rfl, rfl⟩
      eff := fun p hp _ => ⟨fun h => absurd h (nl _), fun h => by omega⟩
      pre := fun p hp h => by omega
      x := ExtF.start sim
      g1 := fun p hp _ h => absurd h (nl _)
      g2 := fun b _ => by rw [h0]
      f1 := fun b b1 b2 => by rw [h0] at b1 ⊢; exact st.fr.h b b1 b2
      free := fun p hp _ b b1 b2 => by
        have f1 := cx.first (Nat.le_of_lt hp)
        have f2 := cx.last (p := p + 1) hp
        exact ⟨st.fr.blk b (by omega) (by omega), st.fr.emp b (by omega) (by omega), st.fr.h b (by omega) (by omega)⟩
      t1 := fun p hp h => absurd h (nl _)
      t2 := fun t _ v hv => st.pre.fr t v hv
      df := st.df
      sz := st.sz }
    refine Inv.any cx st.fr (fun a' w' ρ' st' x' => ?_) ops.size iv ?_
    · rw [hend] at st' x'
      exact hQ a' w' ρ' st' ((Ext.same st.pre.sim hw).trans x')
    · exact Nat.le_trans List.countP_le_length (by simp)
end Go.Ex

/-! Code. -/
namespace Go.Ex

def exitOf : Ex → Exit
  | .normal => .normal
  | .exit i => .exit i
  | .ret => .ret

def codeOk (nt : Nat) : Code → Bool
  | .region _ ops _ => ops.toList.all (dstLt nt)
  | .seq a b => codeOk nt a && codeOk nt b
  | .cond _ a b => codeOk nt a && codeOk nt b
  | .block _ b => codeOk nt b
  | .loop b => codeOk nt b
  | .scope b => codeOk nt b
  | _ => true

theorem seqX_ok {x : XR} {k : St → XR} {e : Ex} {r : St} (h : seqX x k = .ok e r) :
    (∃ s1, x = .ok .normal s1 ∧ k s1 = .ok e r) ∨ (∃ i, x = .ok (.exit i) r ∧ e = .exit i) ∨ (x = .ok .ret r ∧ e = .ret) := by
  cases x with
  | no w => cases h
  | ok e1 s1 =>
    cases e1 with
    | normal => exact .inl ⟨s1, rfl, h⟩
    | exit i => cases h; exact .inr (.inl ⟨i, rfl, rfl⟩)
    | ret => cases h; exact .inr (.inr ⟨rfl, rfl⟩)

theorem condX_ok {o : Option AV} {x y : XR} {e : Ex} {r : St} (h : condX o x y = .ok e r) : ∃ b, o = some (.bool b) ∧ (if b then x else y) = .ok e r := by
  cases o with
  | none => cases h
  | some v =>
    have h1 : (Option.rec (.no 13) (fun t => Bool.rec y x t) (asBoolS v) : XR) = .ok e r := h
    unfold asBoolS at h1
    split at h1
    · rename_i b
      exact ⟨b, rfl, by cases b <;> exact h1⟩
    · cases h1

theorem blockX_ok {id : Nat} {x : XR} {e : Ex} {r : St} (h : blockX id x = .ok e r) :
    (x = .ok .normal r ∧ e = .normal) ∨ (x = .ok (.exit id) r ∧ e = .normal) ∨ (∃ i, i ≠ id ∧ x = .ok (.exit i) r ∧ e = .exit i) ∨ (x = .ok .ret r ∧ e = .ret) := by
  cases x with
  | no w => cases h
  | ok e1 s1 =>
    cases e1 with
    | normal => cases h; exact .inl ⟨rfl, rfl⟩
    | exit i =>
      have h1 : (Bool.rec (.ok (.exit i) s1) (.ok .normal s1) (Nat.beq i id) : XR) = .ok e r := h
      cases hb : Nat.beq i id with
      | true =>
        rw [hb] at h1
        have := Nat.eq_of_beq_eq_true hb
        subst this
        cases h1; exact .inr (.inl ⟨rfl, rfl⟩)
      | false =>
        rw [hb] at h1
        cases h1
        refine .inr (.inr (.inl ⟨i, fun e => ?_, rfl, rfl⟩))
        subst e
        rw [Nat.beq_refl] at hb; cases hb
    | ret => cases h; exact .inr (.inr (.inr ⟨rfl, rfl⟩))

theorem xregion_ok {x : XR} {e : Ex} {r : St} (h : xregion x = .ok e r) : ∃ r0, x = .ok e r0 ∧ r = ⟨r0.tm.fresh, r0.h, r0.n, r0.df⟩ := by
  cases x with
  | no w => cases h
  | ok e1 s1 =>
    obtain ⟨⟨ps, t, lc⟩, hh, n, df⟩ := s1
    cases h
    exact ⟨_, rfl, rfl⟩

section
variable {P : Program} {nt : Nat} {K : KT} {E : Env}

theorem StOk.fresh {D : Nat → Option Blk} {N : Nat} {ρ : Rn} {w : World} {s : St} {a : Act} (st : StOk P D N nt ρ w s a) : StOk P D N nt ρ w ⟨s.tm.fresh, s.h, s.n, s.df⟩ a :=
  ⟨⟨st.pre.sim, st.pre.dis, st.pre.fr.fresh⟩, st.fr, st.df, st.sz⟩

/-- what a piece of code does, of what the executor does -/
def XOk (P : Program) (nt : Nat) (W : (Exit → Act → World → Prop) → Act → World → Prop) (s : St) (e : Ex) (r : St) : Prop :=
  s.n ≤ r.n ∧ ∀ {D ρ w a N}, StOk P D N nt ρ w s a → r.n ≤ N → ∀ {Q : Exit → Act → World → Prop},
    (∀ a' w' ρ', StOk P D N nt ρ' w' r a' → Ext D s.n s.h ρ w r.n r.h ρ' w' → Q (exitOf e) a' w') → W Q a w

theorem loopX_succ (body : St → XR) (n : Nat) (s : St) : loopX body (n + 1) s = seqX (body s) (loopX body n) := rfl

theorem loopX_ok {body : St → XR} {c : Code} (hb : ∀ {s e r}, body s = .ok e r → XOk P nt (c.wp P) s e r) : ∀ (n : Nat) {s : St} {e : Ex} {r : St}, loopX body n s = .ok e r → XOk P nt (fun Q => Code.rounds P c Q n) s e r
  | 0, s, e, r, h => by cases h
  | n + 1, s, e, r, h => by
    rw [loopX_succ] at h
    rcases seqX_ok h with ⟨s1, h1, h2⟩ | ⟨i, h1, rfl⟩ | ⟨h1, rfl⟩
    · obtain ⟨a1, a2⟩ := hb h1
      obtain ⟨b1, b2⟩ := loopX_ok hb n h2
      refine ⟨Nat.le_trans a1 b1, fun {D ρ w a N} st hN {Q} hQ => ?_⟩
      show c.wp P (Exit.then (Code.rounds P c Q n) Q) a w
      exact a2 st (Nat.le_trans b1 hN) fun a' w' ρ' st' x' => b2 st' hN fun a'' w'' ρ'' st'' x'' => hQ _ _ _ st'' (x'.trans x'')
    · obtain ⟨a1, a2⟩ := hb h1
      refine ⟨a1, fun {D ρ w a N} st hN {Q} hQ => ?_⟩
      show c.wp P (Exit.then (Code.rounds P c Q n) Q) a w
      exact a2 st hN fun a' w' ρ' st' x' => hQ _ _ _ st' x'
    · obtain ⟨a1, a2⟩ := hb h1
      refine ⟨a1, fun {D ρ w a N} st hN {Q} hQ => ?_⟩
      show c.wp P (Exit.then (Code.rounds P c Q n) Q) a w
      exact a2 st hN fun a' w' ρ' st' x' => hQ _ _ _ st' x'

/-- CODE. -/
theorem xc_ok (hm : P.follows .mixedOrders = true) (hK : KOk P K) (hP : E.P = P) (hM : E.mt = mtP P) : ∀ (c : Code) {s : St} {e : Ex} {r : St}, xc E K c s = .ok e r → codeOk nt c = true → XOk P nt (c.wp P) s e r
  | .skip, s, e, r, h, _ => by
    cases h
    exact ⟨Nat.le_refl _, fun {D ρ w a N} st hN {Q} hQ => wp_skip (hQ _ _ _ st (Ext.refl st.pre.sim))⟩
  | .region id ops draw, s, e, r, h, hc => by
    have hl : ∀ o ∈ ops.toList, dstLt nt o = true := List.all_eq_true.1 hc
    cases draw with
    | false =>
      have h1 : xregion (xops E K ops ops.toList s) = .ok e r := h
      obtain ⟨r0, h2, rfl⟩ := xregion_ok h1
      obtain ⟨rfl, g2, g3⟩ := xops_ok hK hP hM ops.toList h2 hl
      exact ⟨g2, fun {D ρ w a N} st hN {Q} hQ => wp_region_list (g3 st hN fun a' w' ρ' st' x' => hQ _ _ _ st'.fresh x')⟩
    | true =>
      have h1 : xregion (xdraw E K ops s) = .ok e r := h
      obtain ⟨r0, h2, rfl⟩ := xregion_ok h1
      obtain ⟨rfl, g2, g3⟩ := xdraw_ok hK hP hM h2 hl
      exact ⟨g2, fun {D ρ w a N} st hN {Q} hQ => wp_region_any hm (g3 st hN fun a' w' ρ' st' x' => hQ _ _ _ st'.fresh x')⟩
  | .seq x y, s, e, r, h, hc => by
    rw [codeOk, Bool.and_eq_true] at hc
    have h1 : seqX (xc E K x s) (xc E K y) = .ok e r := h
    rcases seqX_ok h1 with ⟨s1, q1, h2⟩ | ⟨i, q1, rfl⟩ | ⟨q1, rfl⟩
    · obtain ⟨a1, a2⟩ := xc_ok hm hK hP hM x q1 hc.1
      obtain ⟨b1, b2⟩ := xc_ok hm hK hP hM y h2 hc.2
      exact ⟨Nat.le_trans a1 b1, fun {D ρ w a N} st hN {Q} hQ => wp_seq (a2 st (Nat.le_trans b1 hN) fun a' w' ρ' st' x' => b2 st' hN fun a'' w'' ρ'' st'' x'' => hQ _ _ _ st'' (x'.trans x''))⟩
    · obtain ⟨a1, a2⟩ := xc_ok hm hK hP hM x q1 hc.1
      exact ⟨a1, fun {D ρ w a N} st hN {Q} hQ => wp_seq (a2 st hN fun a' w' ρ' st' x' => hQ _ _ _ st' x')⟩
    · obtain ⟨a1, a2⟩ := xc_ok hm hK hP hM x q1 hc.1
      exact ⟨a1, fun {D ρ w a N} st hN {Q} hQ => wp_seq (a2 st hN fun a' w' ρ' st' x' => hQ _ _ _ st' x')⟩
  | .cond x y z, s, e, r, h, hc => by
    rw [codeOk, Bool.and_eq_true] at hc
    have h1 : condX (ev x s.tm) (xc E K y s) (xc E K z s) = .ok e r := h
    obtain ⟨b, hb, h2⟩ := condX_ok h1
    cases b with
    | true =>
      obtain ⟨a1, a2⟩ := xc_ok hm hK hP hM y h2 hc.1
      refine ⟨a1, fun {D ρ w a N} st hN {Q} hQ => wp_cond_true ?_ (a2 st hN hQ)⟩
      have := st.pre.ev hb
      rw [cv] at this
      exact (Option.some.inj this).symm
    | false =>
      obtain ⟨a1, a2⟩ := xc_ok hm hK hP hM z h2 hc.2
      refine ⟨a1, fun {D ρ w a N} st hN {Q} hQ => wp_cond_false ?_ (a2 st hN hQ)⟩
      have := st.pre.ev hb
      rw [cv] at this
      exact (Option.some.inj this).symm
  | .block id b, s, e, r, h, hc => by
    rw [codeOk] at hc
    have h1 : blockX id (xc E K b s) = .ok e r := h
    rcases blockX_ok h1 with ⟨q1, rfl⟩ | ⟨q1, rfl⟩ | ⟨i, hi, q1, rfl⟩ | ⟨q1, rfl⟩
    · obtain ⟨a1, a2⟩ := xc_ok hm hK hP hM b q1 hc
      exact ⟨a1, fun {D ρ w a N} st hN {Q} hQ => wp_block (a2 st hN fun a' w' ρ' st' x' => hQ _ _ _ st' x')⟩
    · obtain ⟨a1, a2⟩ := xc_ok hm hK hP hM b q1 hc
      refine ⟨a1, fun {D ρ w a N} st hN {Q} hQ => wp_block (a2 st hN fun a' w' ρ' st' x' => ?_)⟩
      show (if id = id then Q .normal a' w' else Q (.exit id) a' w')
      rw [if_pos rfl]
      exact hQ _ _ _ st' x'
    · obtain ⟨a1, a2⟩ := xc_ok hm hK hP hM b q1 hc
      refine ⟨a1, fun {D ρ w a N} st hN {Q} hQ => wp_block (a2 st hN fun a' w' ρ' st' x' => ?_)⟩
      show (if i = id then Q .normal a' w' else Q (.exit i) a' w')
      rw [if_neg hi]
      exact hQ _ _ _ st' x'
    · obtain ⟨a1, a2⟩ := xc_ok hm hK hP hM b q1 hc
      exact ⟨a1, fun {D ρ w a N} st hN {Q} hQ => wp_block (a2 st hN fun a' w' ρ' st' x' => hQ _ _ _ st' x')⟩
  | .loop b, s, e, r, h, hc => by
    rw [codeOk] at hc
    have h1 : loopX (xc E K b) E.lf s = .ok e r := h
    obtain ⟨a1, a2⟩ := loopX_ok (fun h => xc_ok hm hK hP hM b h hc) E.lf h1
    exact ⟨a1, fun {D ρ w a N} st hN {Q} hQ => wp_loop_rounds E.lf (a2 st hN hQ)⟩
  | .rangeFunc .., s, e, r, h, _ => by cases h
  | .exit id, s, e, r, h, _ => by
    cases h
    exact ⟨Nat.le_refl _, fun {D ρ w a N} st hN {Q} hQ => wp_exit (hQ _ _ _ st (Ext.refl st.pre.sim))⟩
  | .scope b, s, e, r, h, hc => by
    rw [codeOk] at hc
    have h1 : xc E K b s = .ok e r := h
    obtain ⟨a1, a2⟩ := xc_ok hm hK hP hM b h1 hc
    refine ⟨a1, fun {D ρ w a N} st hN {Q} hQ => wp_scope_straight (a2 st hN fun a' w' ρ' st' x' => ?_)⟩
    cases e <;> exact hQ _ _ _ st' x'
  | .label _, s, e, r, h, _ => by
    cases h
    exact ⟨Nat.le_refl _, fun {D ρ w a N} st hN {Q} hQ => wp_label (hQ _ _ _ st (Ext.refl st.pre.sim))⟩
  | .goto _, s, e, r, h, _ => by cases h
  | .ret, s, e, r, h, _ => by
    cases h
    exact ⟨Nat.le_refl _, fun {D ρ w a N} st hN {Q} hQ => wp_ret (hQ _ _ _ st (Ext.refl st.pre.sim))⟩
  | .refuse _, s, e, r, h, _ => by cases h
end
end Go.Ex

/-! Calls of functions. -/
namespace Go.Ex

theorem dstLt_mono {n m : Nat} (h : n ≤ m) {o : Oper} (e : dstLt n o = true) : dstLt m o = true := by
  unfold dstLt at *
  cases hd : o.dst with
  | none => rfl
  | some d =>
    rw [hd] at e
    have := blt_lt e
    simp only
    show Nat.ble (d + 1) m = true
    exact Nat.ble_eq_true_of_le (by omega)
theorem codeOk_mono {n m : Nat} (h : n ≤ m) : ∀ (c : Code), codeOk n c = true → codeOk m c = true
  | .region _ ops _, e => by
    rw [codeOk] at *
    exact List.all_eq_true.2 fun o ho => dstLt_mono h (List.all_eq_true.1 e o ho)
  | .seq a b, e => by
    rw [codeOk, Bool.and_eq_true] at *
    exact ⟨codeOk_mono h a e.1, codeOk_mono h b e.2⟩
  | .cond _ a b, e => by
    rw [codeOk, Bool.and_eq_true] at *
    exact ⟨codeOk_mono h a e.1, codeOk_mono h b e.2⟩
  | .block _ b, e => by rw [codeOk] at *; exact codeOk_mono h b e
  | .loop b, e => by rw [codeOk] at *; exact codeOk_mono h b e
  | .scope b, e => by rw [codeOk] at *; exact codeOk_mono h b e
  | .skip, _ => rfl
  | .rangeFunc .., _ => rfl
  | .exit _, _ => rfl
  | .label _, _ => rfl
  | .goto _, _ => rfl
  | .ret, _ => rfl
  | .refuse _, _ => rfl

/-- The program's functions: none is the one that the model counts goroutines by; no operation writes beyond the frame. -/
def fnOk (fn : Func) : Bool := match fn.body with
  | none => true
  | some b => !(fn.name == "runtime.NumGoroutine") && codeOk fn.ntmps b
def progOk (P : Program) : Prop := ∀ (f : Nat) (fn : Func), P.funcs[f]? = some fn → fnOk fn = true

/-- a deferred function that does nothing where nothing has panicked -/
def DmOk (P : Program) (dm : Nat → Nat → Bool) : Prop := ∀ f k, dm f k = true → ∀ L : List Value, L.length = k → ∀ w : World,
  (callFunc f L.toArray).run P w = .ok (.enter f L.toArray) w ∧ CallsD P f L.toArray .returning w fun e u' w' => (∃ v, e = .returned v) ∧ u' = .returning ∧ SameW w w'

def SmOk (P : Program) (sm : Summ) : Prop := ∀ f s, sm f = some s → ∀ args h n v h' n', s args h n = .ok v h' n' → CallOk P f args h n v h' n'

section
variable {P : Program} {D : Nat → Option Blk} {N nt : Nat} {ρ : Rn} {w : World} {h : H} {m : M} {a : Act} {E : Env}

/-- one result -/
def resV (tmps : Array Value) : ResultVar → Sem Value
  | .tmp t => pure (tmps.getD t undef)
  | .cell x t => do loadVar t (← asAddr (tmps.getD x undef))

theorem results_eq (fn : Func) (tmps : Array Value) : results fn tmps = (do
    let vs ← fn.results.mapM (resV tmps)
    pure (if h : vs.size = 1 then vs[0] else .tuple vs)) := by
  unfold results
  congr 1

theorem resOf_ok (p : Pre P D h ρ w m a) : ∀ {rs : List ResultVar} {vs : List AV}, resOf P m h rs = some vs →
    ∃ Vs, cvs ρ vs = some Vs ∧ (rs.mapM (resV a.tmps)).run P w = .ok Vs w
  | [], vs, e => by cases e; exact ⟨[], cvs_nil ρ, rfl⟩
  | .tmp t :: rs, vs, e => by
    unfold resOf at e
    split at e
    · cases e
    · rename_i v hv
      split at e
      · cases e
      · rename_i us hu
        cases e
        obtain ⟨V, q1, q2⟩ := p.fr t v hv
        obtain ⟨Vs, g1, g2⟩ := resOf_ok p hu
        refine ⟨V :: Vs, cvs_mk q1 g1, ?_⟩
        have e1 : resV a.tmps (.tmp t) = pure V := by simp [resV, q2]
        rw [List.mapM_cons, e1]
        simp [g2]
  | .cell x t :: rs, vs, e => by
    unfold resOf at e
    split at e
    · cases e
    · rename_i pv hpv
      split at e
      · cases e
      · rename_i v hv
        split at e
        · cases e
        · rename_i us hu
          cases e
          obtain ⟨V, q1, q2⟩ := p.fr x pv hpv
          obtain ⟨A, R, l1, l2, l3⟩ := loadVar_ok p.sim hv
          rw [l1] at q1; cases q1
          obtain ⟨Vs, g1, g2⟩ := resOf_ok p hu
          refine ⟨R :: Vs, cvs_mk l2 g1, ?_⟩
          have e1 : resV a.tmps (.cell x t) = loadVar t A := by simp [resV, q2, asAddr]
          rw [List.mapM_cons, e1]
          simp [g2, l3]

theorem tupOf_ok {vs : List AV} {Vs : List Value} (h : cvs ρ vs = some Vs) : cv ρ (tupOf vs) = some (if hs : Vs.toArray.size = 1 then Vs.toArray[0] else .tuple Vs.toArray) := by
  cases vs with
  | nil => rw [cvs_nil] at h; cases h; rfl
  | cons v r => cases r with
    | nil =>
      obtain ⟨V, Us, h1, h2, rfl⟩ := cvs_cons h
      rw [cvs_nil] at h2; cases h2
      show cv ρ v = _
      rw [h1]; rfl
    | cons u r =>
      obtain ⟨V, Us, h1, h2, rfl⟩ := cvs_cons h
      obtain ⟨U, Ws, h3, h4, rfl⟩ := cvs_cons h2
      show cv ρ (.tup (v :: u :: r)) = _
      rw [cv, h, dif_neg (by simp)]

theorem results_ok (p : Pre P D h ρ w m a) {fn : Func} {vs : List AV} (e : resOf P m h fn.results.toList = some vs) : ∃ V, cv ρ (tupOf vs) = some V ∧ (results fn a.tmps).run P w = .ok V w := by
  obtain ⟨Vs, g1, g2⟩ := resOf_ok p e
  refine ⟨_, tupOf_ok g1, ?_⟩
  rw [results_eq, Array.mapM_eq_mapM_toList]
  rw [map_eq_pure_bind, bind_assoc, Sem.run_bind, g2]
  simp

theorem leaves_ok (hD : DmOk P E.dm) {fn : Func} {R : Ending → World → Prop} : ∀ {ds : List Dfr} {Ds : List Deferred} {w : World}, DfOk ρ ds Ds → xdefers E ds = true → (∀ w', SameW w w' → ∃ v, (results fn a.tmps).run P w' = .ok v w' ∧ R (.returned v) w') →
    Leaves P fn a.tmps R Ds .returning w
  | [], [], w, _, _, h => h w (SameW.refl w)
  | d :: ds, D' :: Ds, w, ⟨⟨caps, L, t1, t2, t3⟩, hr⟩, hx, h => by
    unfold xdefers at hx
    rw [Bool.and_eq_true] at hx
    obtain ⟨c1, c2⟩ := hD _ _ hx.1 L (cvs_length t2) w
    refine ⟨by simp, .func d.f, caps, d.f, L.toArray, t1, ?_, ?_⟩
    · rw [t1]
      show (callFunc d.f (D'.args ++ caps)).run P w = _
      rw [t3]; exact c1
    · refine c2.mono fun e u' w' ⟨⟨v, he⟩, hu, hs⟩ => ?_
      subst he; subst hu
      exact leaves_ok hD hr hx.2 fun w'' hs' => h w'' ⟨hs'.heap.trans hs.heap, hs'.os.trans hs.os, hs'.tape.trans hs.tape, hs'.output.trans hs.output⟩
  | [], _ :: _, _, hd, _, _ => hd.elim
  | _ :: _, [], _, hd, _, _ => hd.elim

theorem enter_of (hp : progOk P) {f : Nat} {fn : Func} {b : Code} (hf : P.funcs[f]? = some fn) (hb : fn.body = some b) (args : Array Value) (w : World) : (callFunc f args).run P w = .ok (.enter f args) w := by
  have := hp f fn hf
  unfold fnOk at this
  rw [hb] at this
  simp only [Bool.and_eq_true] at this
  have h1 : (fn.name == "runtime.NumGoroutine") = false := by simpa using this.1
  have h2 : fn.name ≠ "runtime.NumGoroutine" := by simpa using h1
  simp [callFunc, hf, h2, hb]

theorem initT_get : ∀ (vs : List AV) (t : PT AV) (i j : Nat), PT.get (path j) (initT t i vs) = if i ≤ j ∧ j < i + vs.length then vs[j - i]? else PT.get (path j) t
  | [], t, i, j => by
    rw [if_neg (by intro h; simp at h; omega)]; rfl
  | v :: vs, t, i, j => by
    have h1 : initT t i (v :: vs) = initT (PT.set (some v) (path i) t) (i + 1) vs := rfl
    rw [h1, initT_get vs]
    by_cases h : i + 1 ≤ j ∧ j < i + 1 + vs.length
    · rw [if_pos h, if_pos (by simp; omega)]
      obtain ⟨k, rfl⟩ : ∃ k, j = i + 1 + k := ⟨j - (i + 1), by omega⟩
      rw [show i + 1 + k - (i + 1) = k by omega, show i + 1 + k - i = k + 1 by omega]
      rfl
    · rw [if_neg h]
      by_cases hij : j = i
      · subst hij
        rw [PT.get_set, if_pos (by simp), Nat.sub_self]
        rfl
      · rw [PT.get_set_ne _ _ _ _ (fun e => hij (path_inj e)), if_neg (by simp; omega)]

theorem init_frame {args : List AV} {L : List Value} (h : cvs ρ args = some L) (ps k : Nat) : FrameOk ρ ⟨ps, initT .leaf 0 args, .nil⟩ { tmps := L.toArray ++ Array.replicate k undef, defers := [] } := fun t v e => by
  rw [M.get_mk] at e
  cases hb : bit ps t with
  | false => rw [hb] at e; cases e
  | true =>
    rw [hb] at e
    have e' : PT.get (path t) (initT .leaf 0 args) = some v := e
    rw [initT_get] at e'
    split at e'
    · rename_i hlt
      obtain ⟨V, q1, q2⟩ := cvs_get h e'
      refine ⟨V, q1, ?_⟩
      have hl := cvs_length h
      show (L.toArray ++ Array.replicate k undef)[t]? = some V
      rw [Array.getElem?_append_left (by simp; omega)]
      simpa using q2
    · rw [PT.get_leaf] at e'; cases e'

/-- CALLS. -/
theorem xcall_ok (hm : P.follows .mixedOrders = true) (hp : progOk P) (hP : E.P = P) (hM : E.mt = mtP P) (hS : SmOk P E.sm) (hD : DmOk P E.dm) : ∀ F, KOk P (xcall E F)
  | 0 => fun f args h n v h' n' e => by cases e
  | F + 1 => fun f args h n v h' n' e => by
    unfold xcall at e
    split at e
    · rename_i s hs
      exact hS f s hs _ _ _ _ _ _ e
    · split at e
      · cases e
      · rename_i fn hf
        split at e
        · cases e
        · rename_i b hb
          rw [hP] at hf
          have hok := hp f fn hf
          unfold fnOk at hok
          rw [hb] at hok
          simp only [Bool.and_eq_true] at hok
          unfold xend at e
          split at e
          · cases e
          · cases e
          · rename_i ex s' hne hx
            split at e
            · rename_i hdf
              split at e
              · rename_i vs hvs
                cases e
                have key : ∀ (k : Nat), fn.ntmps ≤ k → XOk P k (b.wp P) _ ex s' := fun k hk => xc_ok hm (xcall_ok hm hp hP hM hS hD F) hP hM b hx (codeOk_mono hk b hok.2)
                refine ⟨(key fn.ntmps (Nat.le_refl _)).1, fun D ρ w L sim dis fr hL o act next Q hn => ?_⟩
                rw [enter_of hp hf hb]
                show Calls P f L.toArray w _
                refine calls_of_wp_defers hf hb ?_
                obtain ⟨_, a2⟩ := key (L.toArray ++ Array.replicate (fn.ntmps - L.toArray.size) undef).size (by simp; omega)
                refine a2 (D := D) (ρ := ρ) (N := s'.n) ⟨⟨sim, dis, init_frame hL _ _⟩, fr, trivial, rfl⟩ (Nat.le_refl _) fun a' w' ρ' st' x' => ?_
                have fin : Leaves P fn a'.tmps (fun
                    | .returned v, w'' => next (act.put o.dst v) w''
                    | .panicked chain, w'' => Q (.panic chain) act w''
                    | .outgrown, _ => LetsOut Q) a'.defers .returning w' := by
                  refine leaves_ok hD st'.df hdf fun w'' hs => ?_
                  rw [hP] at hvs
                  obtain ⟨V, v1, v2⟩ := results_ok (w := w'') (a := a') ⟨st'.pre.sim.same hs, st'.pre.dis, st'.pre.fr⟩ hvs
                  refine ⟨V, v2, hn V ρ' w'' v1 (x'.trans (Ext.same st'.pre.sim hs))⟩
                cases ex with
                | normal => exact fin
                | exit i => exact absurd rfl (hne i)
                | ret => exact fin
              · cases e
            · cases e
end
end Go.Ex

/-! A call of a function whose run the executor has carried out from the global variables alone. -/
namespace Go.Ex
open Go.RowKit

/-- the world's own numbers of blocks: the global variables alone -/
def rn0 : Rn := ⟨fun b => if b < 100 then some ⟨b, 0, 0, 0⟩ else none, fun _ => none⟩

/-- the global variables hold what the heap says -/
def GlobOk (h : H) (w : World) : Prop := ∀ b k, getB h b = some k → b < 100 ∧ BlkOk rn0 w b k

theorem GlobOk.sim {h : H} {w : World} (g : GlobOk h w) : Sim rn0 (un h fun _ => none) w where
  ok := fun b k hb => by
    cases hg : getB h b with
    | none => rw [un_none hg] at hb; cases hb
    | some c => rw [un_some hg] at hb; cases hb; exact (g b k hg).2
  inj := fun b b' k k' p p' _ _ hp hp' e => by
    unfold rn0 at hp hp'
    simp only at hp hp'
    split at hp
    · split at hp'
      · cases hp; cases hp'; exact e
      · cases hp'
    · cases hp
  glob := fun g hg => if_pos hg

theorem GlobOk.fr {h : H} {w : World} (g : GlobOk h w) (n n' : Nat) (hn : 100 ≤ n) : Fr rn0 h (fun _ => none) n n' where
  big := hn
  blk := fun b h1 _ => if_neg (by omega)
  emp := fun _ _ _ => rfl
  h := fun b h1 _ => by
    cases hg : getB h b with
    | none => rfl
    | some c => have := (g b c hg).1; omega
  D := fun _ _ _ => rfl

/-- WHAT A CALL'S WORD SAYS OF THE CALL. -/
theorem CallOk.calls {P : Program} {f : Nat} {args : List AV} {h h' : H} {n n' : Nat} {v : AV} (c : CallOk P f args h n v h' n') {D : Nat → Option Blk} {ρ : Rn} {w : World} {L : List Value}
    (sim : Sim ρ (un h D) w) (dis : ∀ b, D b ≠ none → getB h b = none) (fr : Fr ρ h D n n') (hL : cvs ρ args = some L) (he : (callFunc f L.toArray).run P w = .ok (.enter f L.toArray) w) :
    Calls P f L.toArray w fun e w' => ∃ V ρ', e = .returned V ∧ cv ρ' v = some V ∧ Ext D n h ρ w n' h' ρ' w' := by
  have := c.2 D ρ w L sim dis fr hL ⟨some 0, .move (.const undef), 0, "", #[], none⟩ ⟨#[undef], []⟩
    (fun a w' => ∃ V ρ', a.tmps[0]? = some V ∧ cv ρ' v = some V ∧ Ext D n h ρ w n' h' ρ' w') (fun _ _ _ => False) (fun V ρ' w' hv x => ⟨V, ρ', rfl, hv, x⟩)
  rw [he] at this
  refine Calls.mono this fun e w' q => ?_
  cases e with
  | returned u =>
    obtain ⟨V, ρ', h1, h2, h3⟩ := q
    have h1' : some u = some V := h1
    cases h1'
    exact ⟨_, ρ', rfl, h2, h3⟩
  | panicked chain => exact q.elim
  | outgrown =>
    obtain ⟨a, w2, q⟩ := q
    exact q.elim

theorem Ext.below {D : Nat → Option Blk} {n n' : Nat} {h h' : H} {w w' : World} {ρ' : Rn} (g : GlobOk h w) (x : Ext D n h rn0 w n' h' ρ' w') : Below w.heap.size w w' where
  os := x.os
  tape := x.tape
  output := x.output
  size := x.size
  block := fun k hk => by
    cases hg : getB h k with
    | none =>
      refine x.keep k hk fun b p hb hp e => ?_
      obtain ⟨c, hc⟩ := Option.ne_none_iff_exists'.1 hb
      have hlt := (g b c hc).1
      unfold rn0 at hp
      simp only [hlt, if_true] at hp
      cases hp
      simp only at e
      subst e
      rw [hg] at hc; cases hc
    | some c => exact (x.ro k (g k c hg).1 (by rw [hg]; simp)).2

/-- A CALL FROM THE GLOBAL VARIABLES ALONE. -/
theorem closed_call {P : Program} {E : Env} (hm : P.follows .mixedOrders = true) (hp : progOk P) (hP : E.P = P) (hM : E.mt = mtP P) (hS : SmOk P E.sm) (hD : DmOk P E.dm)
    {F f : Nat} {fn : Func} {b : Code} (hf : P.funcs[f]? = some fn) (hb : fn.body = some b) {args : List AV} {L : List Value} {v : AV} {h h' : H} {n n' : Nat} (hrun : xcall E F f args h n = .ok v h' n') (hn : 100 ≤ n)
    {w : World} (hw : GlobOk h w) (hL : cvs rn0 args = some L) :
    Calls P f L.toArray w fun e w' => ∃ V ρ', e = .returned V ∧ cv ρ' v = some V ∧ Ext (fun _ => none) n h rn0 w n' h' ρ' w' ∧ Below w.heap.size w w' :=
  (CallOk.calls (xcall_ok hm hp hP hM hS hD F _ _ _ _ _ _ _ hrun) hw.sim (fun _ h => absurd rfl h) (hw.fr _ _ hn) hL (enter_of hp hf hb _ _)).mono
    fun _e _w' ⟨V, ρ', h1, h2, h3⟩ => ⟨V, ρ', h1, h2, h3, h3.below hw⟩

/-- is it true? -/
noncomputable def crTrue (r : CR) : Bool := CR.rec (fun _ => false) (fun v _ _ => Option.rec false (fun b => b) (asBoolS v)) r

theorem isTrue_ok {r : CR} (h : crTrue r = true) : ∃ h' n', r = .ok (.bool true) h' n' := by
  cases r with
  | no w => cases h
  | ok v h1 n1 =>
    have h2 : (Option.rec false (fun b => b) (asBoolS v) : Bool) = true := h
    unfold asBoolS at h2
    split at h2
    · have h3 : _ = true := h2
      subst h3
      exact ⟨_, _, rfl⟩
    · cases h2

/-- A CLOSED BOOL FUNCTION THAT COMES OUT TRUE. -/
theorem closed_true {P : Program} {E : Env} (hm : P.follows .mixedOrders = true) (hp : progOk P) (hP : E.P = P) (hM : E.mt = mtP P) (hS : SmOk P E.sm) (hD : DmOk P E.dm)
    {F f : Nat} {fn : Func} {b : Code} (hf : P.funcs[f]? = some fn) (hb : fn.body = some b) {h : H} {n : Nat} (hrun : crTrue (xcall E F f [] h n) = true) (hn : 100 ≤ n)
    {w : World} (hw : GlobOk h w) :
    Calls P f #[] w fun e w' => e = .returned (.bool true) ∧ Below w.heap.size w w' := by
  obtain ⟨h', n', hr⟩ := isTrue_ok hrun
  refine (closed_call hm hp hP hM hS hD hf hb hr hn hw (cvs_nil rn0)).mono fun e w' ⟨V, ρ', h1, h2, _, h4⟩ => ⟨?_, h4⟩
  rw [cv] at h2
  cases h2
  exact h1
end Go.Ex
