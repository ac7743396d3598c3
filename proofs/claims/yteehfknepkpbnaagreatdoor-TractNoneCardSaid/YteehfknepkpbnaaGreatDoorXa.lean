/- The executor, text Xa. -/
import GoSem.Dispatch
import Derived.Orders
import Derived.Laws.Sem
import Derived.Laws.Cells
namespace Go.Ex

/-! Keys and a trie of eight branches. -/
inductive D8 where
  | d0 | d1 | d2 | d3 | d4 | d5 | d6 | d7
structure N8 (α : Type) where
  mk ::
  c0 : α
  c1 : α
  c2 : α
  c3 : α
  c4 : α
  c5 : α
  c6 : α
  c7 : α

inductive Path where
  | e
  | d (x : D8) (p : Path)

noncomputable def strictN {α : Type} (n : Nat) (f : Nat → α) : α := Nat.rec (motive := fun _ => α) (f 0) (fun m _ => f (Nat.succ m)) n
noncomputable def digit (d : Nat) : D8 :=
  Nat.rec .d0 (fun d _ => Nat.rec .d1 (fun d _ => Nat.rec .d2 (fun d _ => Nat.rec .d3 (fun d _ => Nat.rec .d4 (fun d _ => Nat.rec .d5 (fun d _ => Nat.rec .d6 (fun _d _ => .d7) d) d) d) d) d) d) d
noncomputable def pathF : Nat → Nat → Path := fun f => Nat.rec (motive := fun _ => Nat → Path) (fun _ => .e)
  (fun _ ih n => Nat.rec (motive := fun _ => Path) .e (fun m _ => .d (digit (Nat.mod m 8)) (ih (Nat.div m 8))) n) f
noncomputable def pathS (m : Nat) : Path := pathF (Nat.succ m) (Nat.succ m)
noncomputable def path (n : Nat) : Path := Nat.rec (motive := fun _ => Path) .e (fun m _ => pathS m) n
noncomputable def N8.sel {α : Type} (x : D8) : N8 α → α := D8.rec (fun n => N8.rec (fun c0 _c1 _c2 _c3 _c4 _c5 _c6 _c7 => c0) n) (fun n => N8.rec (fun _c0 c1 _c2 _c3 _c4 _c5 _c6 _c7 => c1) n) (fun n => N8.rec (fun _c0 _c1 c2 _c3 _c4 _c5 _c6 _c7 => c2) n) (fun n => N8.rec (fun _c0 _c1 _c2 c3 _c4 _c5 _c6 _c7 => c3) n) (fun n => N8.rec (fun _c0 _c1 _c2 _c3 c4 _c5 _c6 _c7 => c4) n) (fun n => N8.rec (fun _c0 _c1 _c2 _c3 _c4 c5 _c6 _c7 => c5) n) (fun n => N8.rec (fun _c0 _c1 _c2 _c3 _c4 _c5 c6 _c7 => c6) n) (fun n => N8.rec (fun _c0 _c1 _c2 _c3 _c4 _c5 _c6 c7 => c7) n) x
noncomputable def N8.u0 {α : Type} (a : α) : N8 α → N8 α := fun n => N8.rec (fun _c0 c1 c2 c3 c4 c5 c6 c7 => .mk a c1 c2 c3 c4 c5 c6 c7) n
noncomputable def N8.u1 {α : Type} (a : α) : N8 α → N8 α := fun n => N8.rec (fun c0 _c1 c2 c3 c4 c5 c6 c7 => .mk c0 a c2 c3 c4 c5 c6 c7) n
noncomputable def N8.u2 {α : Type} (a : α) : N8 α → N8 α := fun n => N8.rec (fun c0 c1 _c2 c3 c4 c5 c6 c7 => .mk c0 c1 a c3 c4 c5 c6 c7) n
noncomputable def N8.u3 {α : Type} (a : α) : N8 α → N8 α := fun n => N8.rec (fun c0 c1 c2 _c3 c4 c5 c6 c7 => .mk c0 c1 c2 a c4 c5 c6 c7) n
noncomputable def N8.u4 {α : Type} (a : α) : N8 α → N8 α := fun n => N8.rec (fun c0 c1 c2 c3 _c4 c5 c6 c7 => .mk c0 c1 c2 c3 a c5 c6 c7) n
noncomputable def N8.u5 {α : Type} (a : α) : N8 α → N8 α := fun n => N8.rec (fun c0 c1 c2 c3 c4 _c5 c6 c7 => .mk c0 c1 c2 c3 c4 a c6 c7) n
noncomputable def N8.u6 {α : Type} (a : α) : N8 α → N8 α := fun n => N8.rec (fun c0 c1 c2 c3 c4 c5 _c6 c7 => .mk c0 c1 c2 c3 c4 c5 a c7) n
noncomputable def N8.u7 {α : Type} (a : α) : N8 α → N8 α := fun n => N8.rec (fun c0 c1 c2 c3 c4 c5 c6 _c7 => .mk c0 c1 c2 c3 c4 c5 c6 a) n
noncomputable def N8.upd {α : Type} (x : D8) : α → N8 α → N8 α := D8.rec N8.u0 N8.u1 N8.u2 N8.u3 N8.u4 N8.u5 N8.u6 N8.u7 x

inductive PT (α : Type) where
  | leaf
  | node (v : Option α) (c : N8 (PT α))

noncomputable def N8.none {α : Type} : N8 (PT α) := .mk .leaf .leaf .leaf .leaf .leaf .leaf .leaf .leaf
noncomputable def PT.root {α : Type} : PT α → Option α := fun t => PT.rec (motive_1 := fun _ => Option α) (motive_2 := fun _ => Unit) .none (fun v _ _ => v) (fun _ _ _ _ _ _ _ _ _ _ _ _ _ _ _ _ => ()) t
noncomputable def PT.kid {α : Type} (x : D8) : PT α → PT α := fun t => PT.rec (motive_1 := fun _ => PT α) (motive_2 := fun _ => Unit) .leaf (fun _ c _ => N8.sel x c) (fun _ _ _ _ _ _ _ _ _ _ _ _ _ _ _ _ => ()) t
noncomputable def PT.get {α : Type} : Path → PT α → Option α := fun p => Path.rec (motive := fun _ => PT α → Option α) PT.root
  (fun x _ ih t => PT.rec (motive_1 := fun _ => Option α) (motive_2 := fun _ => Unit) .none (fun _ c _ => ih (N8.sel x c)) (fun _ _ _ _ _ _ _ _ _ _ _ _ _ _ _ _ => ()) t) p
noncomputable def PT.set {α : Type} (v : Option α) : Path → PT α → PT α := fun p => Path.rec (motive := fun _ => PT α → PT α)
  (fun t => PT.rec (motive_1 := fun _ => PT α) (motive_2 := fun _ => Unit) (.node v N8.none) (fun _ c _ => .node v c) (fun _ _ _ _ _ _ _ _ _ _ _ _ _ _ _ _ => ()) t)
  (fun x _ ih t => PT.rec (motive_1 := fun _ => PT α) (motive_2 := fun _ => Unit) (.node .none (N8.upd x (ih .leaf) N8.none)) (fun u c _ => .node u (N8.upd x (ih (N8.sel x c)) c)) (fun _ _ _ _ _ _ _ _ _ _ _ _ _ _ _ _ => ()) t) p

/-! Abstract values. -/
inductive AV where
  | bool (b : Bool)
  | nat (k : IntKind) (n : Nat)
  | neg (k : IntKind) (n : Nat)
  | flt (k : FloatKind) (b : Nat)
  | str (s : List Nat)
  | nilp
  | ptr (b off : Nat)
  | nils
  | sl (b off len cap : Nat)
  | slU (b k sz len : Nat)
  | slE (b : Nat)
  | nilm
  | map (b : Nat)
  | nilf
  | fn (f : Nat) (first captured : List AV)
  | nili
  | ifc (t : Nat) (v : AV)
  | agg (l : List AV)
  | tup (l : List AV)
  deriving Inhabited

inductive Blk where
  | cells (el n : Nat) (t : PT AV)
  | map (es : List (AV × AV × Nat)) (clk : Nat)
  | iter (s : List Nat) (pos : Nat)

abbrev H := PT Blk

/-- Results of one operation: a value, and what is written: blocks, anew or no more. -/
inductive OR where
  | no
  | ok (v : AV) (ws : List (Nat × Option Blk))
  | new (v : AV) (ws : List (Nat × Option Blk))

noncomputable def ofO (o : Option AV) : OR := Option.rec .no (fun v => .ok v []) o

/-! Constants. -/
mutual
noncomputable def ofC : Value → Option AV
  | .bool b => some (.bool b)
  | .int k (.ofNat n) => some (.nat k n)
  | .int k (.negSucc n) => some (.neg k n)
  | .float k b => some (.flt k b)
  | .string s => some (.str (s.data.toList.map UInt8.toNat))
  | .pointer none => some .nilp
  | .slice none 0 0 => some .nils
  | .map none => some .nilm
  | .nilFunc => some .nilf
  | .nilIface => some .nili
  | .agg cs => (ofCs cs.toList).map .agg
  | .tuple cs => (ofCs cs.toList).map .tup
  | _ => none
noncomputable def ofCs : List Value → Option (List AV)
  | [] => some []
  | v :: vs => match ofC v with
    | none => none
    | some a => match ofCs vs with
      | none => none
      | some as => some (a :: as)
end

noncomputable def ofI (k : IntKind) : Int → AV
  | .ofNat n => .nat k n
  | .negSucc n => .neg k n

noncomputable def AV.cells : AV → List AV
  | .agg l => l
  | v => [v]

noncomputable def AV.one : AV → Bool
  | .agg _ | .tup _ => false
  | _ => true

noncomputable def asBoolS (v : AV) : Option Bool := match v with
  | .bool b => some b
  | _ => none
/-- A pointer's place. -/
noncomputable def asPtr : AV → Option (Nat × Nat) := fun v => AV.rec (motive_1 := fun _ => Option (Nat × Nat)) (motive_2 := fun _ => Unit) (fun _ => none) (fun _ _ => none) (fun _ _ => none) (fun _ _ => none) (fun _ => none) none (fun b o => some (b, o)) none (fun _ _ _ _ => none) (fun _ _ _ _ => none) (fun _ => none) none (fun _ => none) none (fun _ _ _ _ _ => none) none (fun _ _ _ => none) (fun _ _ => none) (fun _ _ => none) () (fun _ _ _ _ => ()) v

noncomputable def asNat : AV → Option (IntKind × Nat) := fun v => AV.rec (motive_1 := fun _ => Option (IntKind × Nat)) (motive_2 := fun _ => Unit) (fun _ => none) (fun k n => some (k, n)) (fun _ _ => none) (fun _ _ => none) (fun _ => none) none (fun _ _ => none) none (fun _ _ _ _ => none) (fun _ _ _ _ => none) (fun _ => none) none (fun _ => none) none (fun _ _ _ _ _ => none) none (fun _ _ _ => none) (fun _ _ => none) (fun _ _ => none) () (fun _ _ _ _ => ()) v

/-! Types. -/
section
variable (P : Program)
noncomputable def tsz (t : TypeId) : Nat := ((P.info? t).map (·.size)).getD 0
noncomputable def thas (t : TypeId) : Bool := (P.info? t).isSome
noncomputable def tagg (t : TypeId) : Bool := match P.underlying t with
  | some (.struct _) | some (.array _ _) => true
  | _ => false
noncomputable def tsome (t : TypeId) : Bool := (P.underlying t).isSome
noncomputable def tzero (t : TypeId) : Option AV := ((P.info? t).bind (·.zero)).bind ofC
end

/-! Integers. -/
noncomputable def pow2 (k : IntKind) : Nat := match k with
  | .i8 | .u8 => 256
  | .i16 | .u16 => 65536
  | .i32 | .u32 => 4294967296
  | .i64 | .u64 => 18446744073709551616
noncomputable def half (k : IntKind) : Nat := match k with
  | .i8 | .u8 => 128
  | .i16 | .u16 => 32768
  | .i32 | .u32 => 2147483648
  | .i64 | .u64 => 9223372036854775808
noncomputable def sgn (k : IntKind) : Bool := match k with
  | .i8 | .i16 | .i32 | .i64 => true
  | _ => false

noncomputable def ofIw (k : IntKind) (x : Int) : AV := ofI k (k.wrap x)

/-- a number that is not below 0, wrapped -/
noncomputable def wrapU (k : IntKind) (n : Nat) : Option AV := strictN (Nat.mod n (pow2 k)) fun m => some (.nat k m)
noncomputable def wrapT (k : IntKind) (n : Nat) : Option AV := Bool.rec (some (ofIw k (.ofNat n))) (some (.nat k n)) (Nat.blt n (half k))
noncomputable def wrapN (k : IntKind) (n : Nat) : Option AV := Bool.rec (wrapU k n) (strictN n (wrapT k)) (sgn k)
noncomputable def someN (k : IntKind) (n : Nat) : Option AV := strictN n fun m => some (.nat k m)
noncomputable def someB (b : Bool) : Option AV := Bool.rec (some (.bool false)) (some (.bool true)) b

noncomputable def toI : AV → Option (IntKind × Int)
  | .nat k n => some (k, .ofNat n)
  | .neg k n => some (k, .negSucc n)
  | _ => none

noncomputable def kbeq : IntKind → IntKind → Bool
  | .i8, .i8 | .i16, .i16 | .i32, .i32 | .i64, .i64 | .u8, .u8 | .u16, .u16 | .u32, .u32 | .u64, .u64 => true
  | _, _ => false

/-- two numbers of one kind, neither below 0 -/
noncomputable def nSub (k : IntKind) (a b : Nat) : Option AV := Bool.rec (some (ofIw k (Int.sub (.ofNat a) (.ofNat b)))) (wrapN k (Nat.sub a b)) (Nat.ble b a)
noncomputable def nQuo (k : IntKind) (a b : Nat) : Option AV := Bool.rec (wrapN k (Nat.div a b)) none (Nat.beq b 0)
noncomputable def nRem (k : IntKind) (a b : Nat) : Option AV := Bool.rec (someN k (Nat.mod a b)) none (Nat.beq b 0)
noncomputable def nAnd (k : IntKind) (a b : Nat) : Option AV := wrapN k (Nat.land (Nat.mod a (pow2 k)) (Nat.mod b (pow2 k)))
noncomputable def nOr (k : IntKind) (a b : Nat) : Option AV := wrapN k (Nat.lor (Nat.mod a (pow2 k)) (Nat.mod b (pow2 k)))
noncomputable def nXor (k : IntKind) (a b : Nat) : Option AV := wrapN k (Nat.xor (Nat.mod a (pow2 k)) (Nat.mod b (pow2 k)))
noncomputable def nNo (_ : IntKind) (_ _ : Nat) : Option AV := none
noncomputable def binN : BinOp → IntKind → Nat → Nat → Option AV := fun op => BinOp.rec (motive := fun _ => IntKind → Nat → Nat → Option AV)
  (fun k a b => wrapN k (Nat.add a b)) nSub (fun k a b => wrapN k (Nat.mul a b)) nQuo nRem nAnd nOr nXor nNo nNo nNo
  (fun _ a b => someB (Nat.beq a b)) (fun _ a b => someB (not (Nat.beq a b))) (fun _ a b => someB (Nat.blt a b)) (fun _ a b => someB (Nat.ble a b))
  (fun _ a b => someB (Nat.blt b a)) (fun _ a b => someB (Nat.ble b a)) op

noncomputable def binI (op : BinOp) (k : IntKind) (x y : Int) : Option AV := match op with
  | .add => some (ofIw k (x + y))
  | .sub => some (ofIw k (x - y))
  | .mul => some (ofIw k (x * y))
  | .quo => if y = 0 then none else some (ofIw k (x.tdiv y))
  | .rem => if y = 0 then none else some (ofI k (x.tmod y))
  | .eql => some (.bool (x == y))
  | .neq => some (.bool (x != y))
  | .lss => some (.bool (decide (x < y)))
  | .leq => some (.bool (decide (x ≤ y)))
  | .gtr => some (.bool (decide (x > y)))
  | .geq => some (.bool (decide (x ≥ y)))
  | _ => none

noncomputable def ibits (k : IntKind) : Nat := match k with
  | .i8 | .u8 => 8
  | .i16 | .u16 => 16
  | .i32 | .u32 => 32
  | .i64 | .u64 => 64

noncomputable def shiftA (op : BinOp) (k : IntKind) (a y : Nat) : Option AV := match op with
  | .shl => wrapN k (Nat.mul a (Nat.pow 2 (Nat.min y (ibits k))))
  | .shr => someN k (Nat.div a (Nat.pow 2 (Nat.min y (ibits k))))
  | _ => none

noncomputable def leqb : List Nat → List Nat → Bool
  | [], [] => true
  | a :: x, b :: y => match Nat.beq a b with
    | true => leqb x y
    | false => false
  | _, _ => false
noncomputable def lltb : List Nat → List Nat → Bool
  | _, [] => false
  | [], _ :: _ => true
  | a :: x, b :: y => match Nat.blt a b with
    | true => true
    | false => match Nat.beq a b with
      | true => lltb x y
      | false => false

noncomputable def small (s : List Nat) : Bool := Nat.ble s.length 1152921504606846976

noncomputable def binS (op : BinOp) (a b : List Nat) : Option AV := match op with
  | .add => match small a && small b with
    | true => some (.str (a ++ b))
    | false => none
  | .eql => some (.bool (leqb a b))
  | .neq => some (.bool (not (leqb a b)))
  | .lss => some (.bool (lltb a b))
  | .leq => some (.bool (lltb a b || leqb a b))
  | .gtr => some (.bool (not (lltb a b || leqb a b)))
  | .geq => some (.bool (not (lltb a b)))
  | _ => none

noncomputable def isC : Operand → Bool
  | .const _ => true
  | _ => false

/-- are two values one, where one of them is nil (or both stand in one block)? 'c': one operand is a constant -/
noncomputable def sameA (P : Program) (t : TypeId) (c : Bool) (x y : AV) : Option Bool :=
  match P.underlying t, x, y with
  | some .bool, .bool a, .bool b => some (a == b)
  | some (.pointer _), .nilp, .nilp => some true
  | some (.pointer _), .nilp, .ptr _ _ => some false
  | some (.pointer _), .ptr _ _, .nilp => some false
  | some (.slice _), .nils, .nils => some true
  | some (.slice _), .nils, .sl _ _ _ _ | some (.slice _), .nils, .slU _ _ _ _ | some (.slice _), .nils, .slE _ => some false
  | some (.slice _), .sl _ _ _ _, .nils | some (.slice _), .slU _ _ _ _, .nils | some (.slice _), .slE _, .nils => some false
  | some (.map _ _), .nilm, .nilm => some true
  | some (.map _ _), .nilm, .map _ | some (.map _ _), .map _, .nilm => some false
  | some (.func _ _ _), .nilf, .nilf => some true
  | some (.func _ _ _), .nilf, .fn _ _ _ | some (.func _ _ _), .fn _ _ _, .nilf => some false
  | some (.interface _), .nili, .nili => if c then some true else none
  | some (.interface _), .nili, .ifc _ _ | some (.interface _), .ifc _ _, .nili => some false
  | _, _, _ => none

noncomputable def isShift (op : BinOp) : Bool := match op with
  | .shl | .shr => true
  | _ => false

noncomputable def binNN (op : BinOp) (k k' : IntKind) (a b : Nat) : Option AV :=
  Bool.rec (Bool.rec none (shiftA op k a b) (isShift op)) (Bool.rec (binN op k a b) (shiftA op k a b) (isShift op)) (kbeq k k')

noncomputable def binX (P : Program) (op : BinOp) (t : TypeId) (c : Bool) (x y : AV) : Option AV :=
  match x, y with
  | .str a, .str b => binS op a b
  | _, _ => match toI x, toI y with
    | some (k, a), some (k', b) => match kbeq k k' with
      | true => binI op k a b
      | false => none
    | _, _ => match op with
      | .eql => (sameA P t c x y).map .bool
      | .neq => (sameA P t c x y).map fun b => .bool (not b)
      | _ => none

noncomputable def binA (P : Program) (op : BinOp) (t : TypeId) (c : Bool) (x y : AV) : Option AV :=
  Option.rec (binX P op t c x y) (fun kx => Option.rec (binX P op t c x y) (fun ky => Prod.rec (fun k a => Prod.rec (fun k' b => binNN op k k' a b) ky) kx) (asNat y)) (asNat x)

noncomputable def unA (op : UnOp) (x : AV) : Option AV :=
  match op, x with
  | .not, .bool b => some (.bool (not b))
  | .neg, .nat k n => some (ofIw k (Int.sub 0 (.ofNat n)))
  | .neg, .neg k n => some (ofIw k (Int.sub 0 (.negSucc n)))
  | .xor, .nat k n => match sgn k with
    | false => some (.nat k (Nat.sub (Nat.pred (pow2 k)) (Nat.mod n (pow2 k))))
    | true => none
  | _, _ => none

/-! Reading. -/
noncomputable def getB (h : H) (b : Nat) : Option Blk := PT.get (path b) h

noncomputable def cellOf (t : PT AV) (n i : Nat) : Option AV := Bool.rec none (PT.get (path i) t) (Nat.blt i n)

noncomputable def cellsOf (t : PT AV) (n : Nat) : Nat → Nat → Option (List AV)
  | 0, _ => some []
  | m + 1, i => match cellOf t n i with
    | none => none
    | some v => match cellsOf t n m (Nat.succ i) with
      | none => none
      | some vs => some (v :: vs)

noncomputable def putCells (t : PT AV) : Nat → List AV → PT AV
  | _, [] => t
  | i, v :: vs => putCells (PT.set (some v) (path i) t) (Nat.succ i) vs

noncomputable def allOne : List AV → Bool
  | [] => true
  | v :: vs => match v.one with
    | true => allOne vs
    | false => false

/-- Where a slice that has elements lies: block, first cell. -/
noncomputable def slAt (sz : Nat) : AV → Option (Nat × Nat × Nat)
  | .sl b off len _ => some (b, off, len)
  | .slU b k z len => match Nat.beq z sz with
    | true => some (b, Nat.mul k z, len)
    | false => none
  | _ => none

/-- the elements of a slice, as cells -/
noncomputable def slCells (h : H) (sz : Nat) (v : AV) (m : Nat) : Option (List AV) :=
  match v with
  | .nils => some []
  | .slE _ => some []
  | v => match slAt sz v with
    | none => none
    | some (b, off, _) => match getB h b with
      | some (.cells _ n t) => cellsOf t n (Nat.mul m sz) off
      | _ => none

noncomputable def lenA : AV → Option Nat
  | .nils => some 0
  | .slE _ => some 0
  | .sl _ _ len _ => some len
  | .slU _ _ _ len => some len
  | _ => none

noncomputable def loadC (P : Program) (t : TypeId) (off n : Nat) (c : PT AV) : Option AV :=
  Bool.rec (Bool.rec none (cellOf c n off) (tsome P t)) (Option.rec none (fun vs => some (.agg vs)) (cellsOf c n (tsz P t) off)) (tagg P t)
noncomputable def loadB (P : Program) (t : TypeId) (off : Nat) (b : Blk) : Option AV := Blk.rec (fun _ n c => loadC P t off n c) (fun _ _ => none) (fun _ _ => none) b
noncomputable def loadA (P : Program) (h : H) (t : TypeId) (v : AV) : Option AV :=
  Option.rec none (fun p => Prod.rec (fun b off => Option.rec none (loadB P t off) (getB h b)) p) (asPtr v)

/-! Writing. -/
noncomputable def storeC (P : Program) (t : TypeId) (b off el n : Nat) (c : PT AV) (vs : List AV) : OR :=
  Bool.rec .no (.ok (.tup []) [(b, some (.cells el n (putCells c off vs)))]) (Nat.beq vs.length (tsz P t) && thas P t && Nat.ble (Nat.add off vs.length) n && allOne vs && Nat.ble 100 b)
noncomputable def storeB (P : Program) (t : TypeId) (v : AV) (b off : Nat) (k : Blk) : OR := Blk.rec (fun el n c => storeC P t b off el n c v.cells) (fun _ _ => .no) (fun _ _ => .no) k
noncomputable def storeA (P : Program) (h : H) (t : TypeId) (p v : AV) : OR :=
  Option.rec .no (fun p => Prod.rec (fun b off => Option.rec .no (storeB P t v b off) (getB h b)) p) (asPtr p)

/-- Parts laid over cells. -/
noncomputable def setSeg : List AV → Nat → List AV → List AV
  | cs, _, [] => cs
  | cs, i, v :: vs => setSeg (cs.set i v) (Nat.succ i) vs

noncomputable def fillA (place : Nat → Option (Nat × Nat)) : List AV → List (Nat × AV) → Option (List AV)
  | cs, [] => some cs
  | cs, (i, v) :: rest => match place i with
    | none => none
    | some (off, size) =>
      let vs := v.cells
      match Nat.beq vs.length size && Nat.ble (Nat.add off vs.length) cs.length with
      | true => fillA place (setSeg cs off vs) rest
      | false => none

noncomputable def placesOf (P : Program) : List Field → Option (List (Nat × Nat))
  | [] => some []
  | f :: fs => match thas P f.type with
    | false => none
    | true => match placesOf P fs with
      | none => none
      | some r => some ((f.offset, tsz P f.type) :: r)

noncomputable def buildA (P : Program) (t : TypeId) (parts : List (Nat × AV)) : Option AV :=
  match tzero P t with
  | none => none
  | some z => match P.underlying t with
    | some (.struct fs) => match placesOf P fs.toList with
      | none => none
      | some ps => (fillA (fun i => ps[i]?) z.cells parts).map .agg
    | some (.array _ el) => match thas P el with
      | true => (fillA (fun i => some (Nat.mul i (tsz P el), tsz P el)) z.cells parts).map .agg
      | false => none
    | _ => none

noncomputable def repL (z : List AV) : Nat → List AV
  | 0 => []
  | n + 1 => z ++ repL z n

noncomputable def buildSliceA (P : Program) (n : Nat) (t : TypeId) (len : Nat) (parts : List (Nat × AV)) : OR :=
  match P.underlying t with
  | some (.slice el) => match tzero P el, thas P el with
    | some z, true => match Nat.beq z.cells.length (tsz P el) && Nat.ble (Nat.mul len (tsz P el)) 16777216 && Nat.blt 0 (tsz P el) with
      | true => match fillA (fun i => some (Nat.mul i (tsz P el), tsz P el)) (repL z.cells len) parts with
        | none => .no
        | some cs => .new (.sl n 0 len len) [(n, some (.cells el cs.length (putCells .leaf 0 cs)))]
      | false => .no
    | _, _ => .no
  | _ => .no

noncomputable def makeSliceA (P : Program) (n : Nat) (t : TypeId) (len cap : AV) : OR :=
  match len, cap with
  | .nat _ l, .nat _ c => match P.underlying t with
    | some (.slice el) => match tzero P el, thas P el with
      | some z, true => match Nat.beq z.cells.length (tsz P el) && Nat.ble l c && Nat.ble (Nat.mul c (((P.info? el).map (·.bytes)).getD 0)) 1099511627776 && Nat.ble c 1099511627776 && Nat.blt 0 (tsz P el) with
        | true =>
          let cs := repL z.cells c
          .new (.sl n 0 l c) [(n, some (.cells el (Nat.mul c (tsz P el)) (putCells .leaf 0 cs)))]
        | false => .no
      | _, _ => .no
    | _ => .no
  | _, _ => .no

noncomputable def allocA (n : Nat) (el : TypeId) (v : AV) : OR :=
  let cs := v.cells
  .new (.ptr n 0) [(n, some (.cells el cs.length (putCells .leaf 0 cs)))]

noncomputable def fieldOff (P : Program) (s : TypeId) (f : Nat) : Option Nat := match P.underlying s with
  | some (.struct fs) => match fs[f]? with
    | some fd => match Nat.beq (tsz P fd.type) 0 with
      | true => none
      | false => match thas P fd.type with
        | true => some fd.offset
        | false => none
    | none => none
  | _ => none

noncomputable def ptrTo (b off : Nat) : Option AV := strictN off fun o => some (.ptr b o)
noncomputable def fieldAddrA (P : Program) (s : TypeId) (x : AV) (f : Nat) : Option AV :=
  Option.rec none (fun p => Prod.rec (fun b off => Option.rec none (fun d => ptrTo b (Nat.add off d)) (fieldOff P s f)) p) (asPtr x)

noncomputable def partA (P : Program) (t : TypeId) (cs : List AV) (off : Nat) : Option AV :=
  match tsome P t && thas P t with
  | false => none
  | true => match tagg P t with
    | true => some (.agg ((cs.drop off).take (tsz P t)))
    | false => cs[off]?

noncomputable def fieldA (P : Program) (s : TypeId) (x : AV) (f : Nat) : Option AV :=
  match x with
  | .agg cs => match P.underlying s with
    | some (.struct fs) => match fs[f]? with
      | some fd => partA P fd.type cs fd.offset
      | none => none
    | _ => none
  | _ => none

noncomputable def elSz (P : Program) (t : TypeId) : Option (Option Nat × Nat) := match P.underlying t with
  | some (.array n el) => match thas P el with
    | true => some (some n, tsz P el)
    | false => none
  | some (.slice el) => match thas P el with
    | true => some (none, tsz P el)
    | false => none
  | _ => none

noncomputable def indexIn (b off len i sz : Nat) : Option AV := Bool.rec none (ptrTo b (Nat.add off (Nat.mul i sz))) (Nat.blt i len)
noncomputable def indexArr (i len sz : Nat) (x : AV) : Option AV := Option.rec none (fun p => Prod.rec (fun b off => indexIn b off len i sz) p) (asPtr x)
noncomputable def indexSl (i sz : Nat) (x : AV) : Option AV := Option.rec none (fun p => Prod.rec (fun b q => Prod.rec (fun off len => indexIn b off len i sz) q) p) (slAt sz x)
noncomputable def indexAddrA (P : Program) (t : TypeId) (x i : AV) : Option AV :=
  Option.rec none (fun i => Prod.rec (fun _ i => Option.rec none (fun e => Prod.rec (fun l sz => Option.rec (indexSl i sz x) (fun len => indexArr i len sz x) l) e) (elSz P t)) i) (asNat i)

noncomputable def indexA (P : Program) (t : TypeId) (x i : AV) : Option AV :=
  match i with
  | .nat _ i => match x with
    | .str s => match P.underlying t with
      | some .string => match s[i]? with
        | some b => some (.nat .u8 b)
        | none => none
      | _ => none
    | .agg cs => match P.underlying t with
      | some (.array len el) => match Nat.blt i len with
        | true => partA P el cs (Nat.mul i (tsz P el))
        | false => none
      | _ => none
    | _ => none
  | _ => none

noncomputable def optN : Option AV → Option (Option Nat)
  | none => some none
  | some (.nat _ n) => some (some n)
  | _ => none

/-- low ≤ high ≤ most, of a length and a greatest bound -/
noncomputable def bounds (len : Nat) (most : Nat) (lo hi : Option Nat) : Option (Nat × Nat) :=
  let h := hi.getD len
  let l := lo.getD 0
  match Nat.ble l h && Nat.ble h most with
  | true => some (l, h)
  | false => none

noncomputable def sliceA (P : Program) (n : Nat) (t : TypeId) (x : AV) (lo hi mx : Option AV) : OR :=
  match optN lo, optN hi, optN mx with
  | some lo, some hi, some mx => match x with
    | .str s => match P.underlying t, mx with
      | some .string, none => match bounds s.length s.length lo hi with
        | some (l, h) => .ok (.str ((s.take h).drop l)) []
        | none => .no
      | _, _ => .no
    | x => match elSz P t with
      | some (some len, sz) => match x, mx with
        | .ptr b off, none => match bounds len len lo hi with
          | some (l, h) => .ok (.sl b (match Nat.beq len l with | true => off | false => Nat.add off (Nat.mul l sz)) (Nat.sub h l) (Nat.sub len l)) []
          | none => .no
        | _, _ => .no
      | some (none, sz) => match x with
        | .nils => match bounds 0 0 lo hi, mx, hi with
          | some _, none, _ => .ok .nils []
          | some _, some 0, some _ => .ok .nils []
          | _, _, _ => .no
        | .slE b => match bounds 0 0 lo hi, mx with
          | some _, none => .ok (.slE b) []
          | _, _ => .no
        | .sl b off len cap => match mx with
          | none => match bounds len cap lo hi with
            | some (l, h) => .ok (.sl b (match Nat.beq cap l with | true => off | false => Nat.add off (Nat.mul l sz)) (Nat.sub h l) (Nat.sub cap l)) []
            | none => .no
          | some m => match hi, bounds len m lo hi, Nat.ble m cap with
            | some _, some (l, h), true => .ok (.sl b (match Nat.beq m l with | true => off | false => Nat.add off (Nat.mul l sz)) (Nat.sub h l) (Nat.sub m l)) []
            | _, _, _ => .no
        | .slU b k z len => match Nat.beq z sz with
          | false => .no
          | true => match mx with
            | none => match bounds len len lo hi with
              | some (l, h) => match Nat.blt l len with
                | true => .ok (.slU b (Nat.add k l) z (Nat.sub h l)) []
                | false => match Nat.beq l 0 with
                  | true => .ok (.slU b k z 0) []
                  | false => .new (.slE n) []
              | none => .no
            | some m => match hi, bounds len m lo hi, Nat.ble m len with
              | some _, some (l, h), true => .ok (.sl b (match Nat.beq m l with | true => Nat.mul k z | false => Nat.add (Nat.mul k z) (Nat.mul l z)) (Nat.sub h l) (Nat.sub m l)) []
              | _, _, _ => .no
        | _ => .no
      | none => .no
  | _, _, _ => .no

/-! Bytes and strings. -/
noncomputable def bytesUp : List AV → Option (List Nat)
  | [] => some []
  | .nat .u8 b :: r => match Nat.blt b 256 with
    | true => match bytesUp r with
      | some s => some (b :: s)
      | none => none
    | false => none
  | _ => none

noncomputable def convA (P : Program) (h : H) (n : Nat) (src dst : TypeId) (x : AV) : OR :=
  match P.underlying dst with
  | some (.int k) => match tsome P src with
    | true => match x with
      | .nat _ a => ofO (wrapN k a)
      | .neg _ a => .ok (ofIw k (.negSucc a)) []
      | _ => .no
    | false => .no
  | some .string => match x with
    | .str s => match tsome P src with
      | true => .ok (.str s) []
      | false => .no
    | x => match P.underlying src with
      | some (.slice el) => match P.underlying el with
        | some (.int .u8) => match lenA x with
          | some m => match (slCells h 1 x m).bind bytesUp with
            | some s => .ok (.str s) []
            | none => .no
          | none => .no
        | _ => .no
      | _ => .no
  | some (.slice el) => match x with
    | .str s => match P.underlying el, tsome P src with
      | some (.int .u8), true => match Nat.ble s.length 1099511627776 with
        | true => .new (.slU n 0 1 s.length) [(n, some (.cells el s.length (putCells .leaf 0 (s.map (.nat .u8)))))]
        | false => .no
      | _, _ => .no
    | x => match Nat.beq src dst, P.underlying el, slAt 1 x with
      | true, some (.int .u8), some (b, _, _) => match getB h b, Nat.ble 100 b with
        | some (.cells _ _ _), true => .ok x []
        | _, _ => .no
      | _, _, _ => .no
  | _ => .no

/-! Maps. -/
noncomputable def keyNow : TypeDesc → AV → AV → Option Bool
  | .int _, .nat k a, .nat k' b => match kbeq k k' with
    | true => some (Nat.beq a b)
    | false => none
  | .string, .str a, .str b => some (leqb a b)
  | _, _, _ => none

noncomputable def findK (d : TypeDesc) (k : AV) : List (AV × AV × Nat) → Nat → Option (Option (Nat × AV))
  | [], _ => some none
  | (k', v, _) :: es, i => match keyNow d k k' with
    | some true => some (some (i, v))
    | some false => findK d k es (Nat.succ i)
    | none => none

noncomputable def keyT (P : Program) (t : TypeId) : Option (TypeDesc × TypeId) := match P.underlying t with
  | some (.map kt et) => match P.underlying kt with
    | some .string => some (.string, et)
    | some (.int k) => some (.int k, et)
    | _ => none
  | _ => none

noncomputable def entriesA (h : H) : AV → Option (List (AV × AV × Nat))
  | .nilm => some []
  | .map b => match getB h b with
    | some (.map es _) => some es
    | _ => none
  | _ => none

noncomputable def keyOk (d : TypeDesc) (k : AV) : Bool := match d, k with
  | .int _, .nat _ _ => true
  | .string, .str _ => true
  | _, _ => false

noncomputable def lookupA (P : Program) (h : H) (t : TypeId) (m k : AV) (ok : Bool) : Option AV :=
  match keyT P t with
  | none => none
  | some (d, et) => match entriesA h m, keyOk d k with
    | some es, true => match findK d k es 0 with
      | some (some (_, v)) => some (match ok with | true => .tup [v, .bool true] | false => v)
      | some none => match tzero P et with
        | some z => some (match ok with | true => .tup [z, .bool false] | false => z)
        | none => none
      | none => none
    | _, _ => none

noncomputable def setVal (v : AV) : List (AV × AV × Nat) → Nat → List (AV × AV × Nat)
  | [], _ => []
  | (k', w, s) :: es, i => match Nat.beq i 0 with
    | true => (k', v, s) :: es
    | false => (k', w, s) :: setVal v es (Nat.pred i)

noncomputable def mapSetA (P : Program) (h : H) (t : TypeId) (m k v : AV) : OR :=
  match keyT P t, m with
  | some (d, _), .map b => match getB h b, keyOk d k && Nat.ble 100 b with
    | some (.map es clk), true => match findK d k es 0 with
      | some (some (i, _)) => .ok (.tup []) [(b, some (.map (setVal v es i) clk))]
      | some none => .ok (.tup []) [(b, some (.map (es ++ [(k, v, clk)]) (Nat.succ clk)))]
      | none => .no
    | _, _ => .no
  | _, _ => .no

noncomputable def eraseL {α : Type} : List α → Nat → List α
  | [], _ => []
  | x :: xs, i => match Nat.beq i 0 with
    | true => xs
    | false => x :: eraseL xs (Nat.pred i)

noncomputable def deleteA (P : Program) (h : H) (ts : List TypeId) (args : List AV) : OR :=
  match ts, args with
  | t :: _, [m, k] => match keyT P t, m with
    | some (d, _), .map b => match getB h b, keyOk d k && Nat.ble 100 b with
      | some (.map es clk), true => match findK d k es 0 with
        | some (some (i, _)) => .ok (.tup []) [(b, some (.map (eraseL es i) clk))]
        | some none => .ok (.tup []) [(b, some (.map es clk))]
        | none => .no
      | _, _ => .no
    | _, _ => .no
  | _, _ => .no

/-! Builtins. -/
noncomputable def lenB (P : Program) (h : H) (ts : List TypeId) (args : List AV) : Option AV :=
  match ts, args with
  | t :: _, [x] => match P.underlying t, x with
    | some .string, .str s => some (.nat .i64 s.length)
    | some (.array n _), _ => some (.nat .i64 n)
    | some (.pointer a), _ => match P.underlying a with
      | some (.array n _) => some (.nat .i64 n)
      | _ => none
    | some (.slice _), x => (lenA x).map (.nat .i64)
    | some (.map _ _), .nilm => some (.nat .i64 0)
    | some (.map _ _), .map b => match getB h b with
      | some (.map es _) => some (.nat .i64 es.length)
      | _ => none
    | _, _ => none
  | _, _ => none

noncomputable def capB (P : Program) (ts : List TypeId) (args : List AV) : Option AV :=
  match ts, args with
  | t :: _, [x] => match P.underlying t, x with
    | some (.slice _), .nils => some (.nat .i64 0)
    | some (.slice _), .sl _ _ _ c => some (.nat .i64 c)
    | _, _ => none
  | _, _ => none

/-- what is appended, as cells: how many elements, and they -/
noncomputable def srcA (h : H) (sz : Nat) (x : AV) : Option (Nat × List AV) :=
  match x with
  | .str s => match Nat.beq sz 1 with
    | true => some (s.length, s.map (.nat .u8))
    | false => none
  | x => match lenA x with
    | none => none
    | some m => match slCells h sz x m with
      | some cs => some (m, cs)
      | none => none

noncomputable def capOk : AV → Bool
  | .sl _ _ len cap => Nat.ble len cap
  | _ => true

noncomputable def zok (P : Program) (el : TypeId) : Bool := match tzero P el with
  | some z => Nat.beq z.cells.length (tsz P el)
  | none => false

noncomputable def appendA (P : Program) (h : H) (n : Nat) (ts : List TypeId) (args : List AV) : OR :=
  match ts, args with
  | [t, u], [s, x] => match P.underlying t with
    | some (.slice el) => match P.underlying u with
      | some (.int _) => .no
      | none => .no
      | _ => match thas P el && Nat.blt 0 (tsz P el) with
        | false => .no
        | true => match srcA h (tsz P el) x, lenA s with
          | some (m, new), some len =>
            match Nat.beq m 0 with
            | true => match capOk s with
              | true => .ok s []
              | false => .no
            | false => match Nat.ble (Nat.mul (Nat.add len m) (((P.info? el).map (·.bytes)).getD 0)) 1099511627776 && Nat.ble (Nat.add len m) 1099511627776 && allOne new && zok P el with
              | false => .no
              | true => match s with
                | .nils => .new (.slU n 0 (tsz P el) m) [(n, some (.cells el (Nat.mul m (tsz P el)) (putCells .leaf 0 new)))]
                | .sl b off len cap => match Nat.ble (Nat.add len m) cap with
                  | true => match getB h b with
                    | some (.cells e c t) => match Nat.ble (Nat.add (Nat.add off (Nat.mul len (tsz P el))) new.length) c && Nat.ble 100 b with
                      | true => .ok (.sl b off (Nat.add len m) cap) [(b, some (.cells e c (putCells t (Nat.add off (Nat.mul len (tsz P el))) new)))]
                      | false => .no
                    | _ => .no
                  | false => match slCells h (tsz P el) s len with
                    | some old => .new (.slU n 0 (tsz P el) (Nat.add len m)) [(n, some (.cells el (Nat.mul (Nat.add len m) (tsz P el)) (putCells (putCells .leaf 0 old) (Nat.mul len (tsz P el)) new)))]
                    | none => .no
                | .slU b k z len => match getB h b, Nat.beq z (tsz P el) && Nat.ble 100 b with
                  | some (.cells e c t), true => match Nat.beq e el with
                    | false => .no
                    | true => match Nat.beq k 0 with
                      | true => match Nat.ble (Nat.mul len z) c with
                        | true => .new (.slU n 0 z (Nat.add len m)) [(b, none), (n, some (.cells e (Nat.mul (Nat.add len m) z) (putCells t (Nat.mul len z) new)))]
                        | false => .no
                      | false => match cellsOf t c (Nat.mul len z) (Nat.mul k z) with
                        | some old => .new (.slU n 0 z (Nat.add len m)) [(b, none), (n, some (.cells e (Nat.mul (Nat.add len m) z) (putCells (putCells .leaf 0 old) (Nat.mul len z) new)))]
                        | none => .no
                  | _, _ => .no
                | _ => .no
          | _, _ => .no
    | _ => .no
  | _, _ => .no

noncomputable def copyA (P : Program) (h : H) (ts : List TypeId) (args : List AV) : OR :=
  match ts, args with
  | t :: _, [d, x] => match P.underlying t with
    | some (.slice el) => match thas P el with
      | false => .no
      | true => match lenA d, (match x with | .str s => some s.length | x => lenA x) with
        | some dl, some sl =>
          let m := Nat.min sl dl
          match Nat.beq m 0 with
          | true => .ok (.nat .i64 0) []
          | false => match (match x with | .str s => (match Nat.beq (tsz P el) 1 with | true => some ((s.take m).map (.nat .u8)) | false => none) | x => slCells h (tsz P el) x m), slAt (tsz P el) d with
            | some cs, some (b, off, _) => match getB h b, allOne cs && Nat.ble 100 b with
              | some (.cells e c t), true => match Nat.ble (Nat.add off cs.length) c with
                | true => .ok (.nat .i64 m) [(b, some (.cells e c (putCells t off cs)))]
                | false => .no
              | _, _ => .no
            | _, _ => .no
        | _, _ => .no
    | _ => .no
  | _, _ => .no

noncomputable def minN : List AV → Option AV
  | [] => none
  | [.nat k a] => some (.nat k a)
  | .nat k a :: .nat k' b :: r => match kbeq k k', r with
    | true, [] => some (.nat k (match Nat.blt b a with | true => b | false => a))
    | true, [.nat k'' c] => match kbeq k k'' with
      | true =>
        let m := match Nat.blt b a with | true => b | false => a
        some (.nat k (match Nat.blt c m with | true => c | false => m))
      | false => none
    | _, _ => none
  | _ => none
noncomputable def maxN : List AV → Option AV
  | [] => none
  | [.nat k a] => some (.nat k a)
  | .nat k a :: .nat k' b :: r => match kbeq k k', r with
    | true, [] => some (.nat k (match Nat.blt a b with | true => b | false => a))
    | true, [.nat k'' c] => match kbeq k k'' with
      | true =>
        let m := match Nat.blt a b with | true => b | false => a
        some (.nat k (match Nat.blt m c with | true => c | false => m))
      | false => none
    | _, _ => none
  | _ => none

noncomputable def builtinA (P : Program) (h : H) (n : Nat) (b : Builtin) (ts : List TypeId) (args : List AV) : OR :=
  match b with
  | .len => ofO (lenB P h ts args)
  | .cap => ofO (capB P ts args)
  | .append => appendA P h n ts args
  | .copy => copyA P h ts args
  | .delete => deleteA P h ts args
  | .min => ofO (minN args)
  | .max => ofO (maxN args)
  | _ => .no

/-! Strings, rune by rune (ASCII alone). -/
noncomputable def rangeA (P : Program) (n : Nat) (t : TypeId) (x : AV) : OR :=
  match P.underlying t, x with
  | some .string, .str s => .new (.ptr n 0) [(n, some (.iter s 0))]
  | _, _ => .no

noncomputable def nextA (h : H) (x : AV) : OR :=
  match x with
  | .ptr b 0 => match getB h b with
    | some (.iter s p) => match s[p]? with
      | none => match Nat.ble s.length p with
        | true => .ok (.tup [.bool false]) []
        | false => .no
      | some c => match Nat.blt c 128 && Nat.ble 100 b with
        | true => .ok (.tup [.bool true, .nat .i64 p, .nat .i32 c]) [(b, some (.iter s (Nat.succ p)))]
        | false => .no
    | _ => .no
  | _ => .no

/-! One operation that is no call of a function. -/
noncomputable def assertA (P : Program) (x : AV) (asserted : TypeId) (ok : Bool) : Option AV :=
  match P.underlying asserted with
  | some (.interface _) => none
  | none => none
  | _ => match x with
    | .ifc t v => match Nat.beq t asserted with
      | true => some (match ok with | true => .tup [v, .bool true] | false => v)
      | false => match ok, tzero P asserted with
        | true, some z => some (.tup [z, .bool false])
        | _, _ => none
    | .nili => match ok, tzero P asserted with
      | true, some z => some (.tup [z, .bool false])
      | _, _ => none
    | _ => none

noncomputable def nilCheckA : AV → Option AV := fun v => AV.rec (motive_1 := fun _ => Option AV) (motive_2 := fun _ => Unit) (fun _ => none) (fun _ _ => none) (fun _ _ => none) (fun _ _ => none) (fun _ => none) none (fun b o => some (.ptr b o)) none (fun _ _ _ _ => none) (fun _ _ _ _ => none) (fun _ => none) none (fun b => some (.map b)) none (fun f a c _ _ => some (.fn f a c)) none (fun _ _ _ => none) (fun _ _ => none) (fun _ _ => none) () (fun _ _ _ _ => ()) v

noncomputable def isIface (P : Program) (t : TypeId) : Bool := match P.underlying t with
  | some (.interface _) => true
  | none => true
  | _ => false

/-! A frame's variables: those that are read in other regions too ('ps': a bit each) in a trie, the others in a list. -/
inductive L where
  | nil
  | cons (t : Nat) (v : AV) (r : L)
noncomputable def L.get (t : Nat) : L → Option AV := fun l => L.rec (motive := fun _ => Option AV) none (fun u v _ ih => Bool.rec ih (some v) (Nat.beq t u)) l
structure M where
  ps : Nat
  tm : PT AV
  lc : L
noncomputable def bit (ps t : Nat) : Bool := Nat.beq (Nat.mod (Nat.div ps (Nat.pow 2 t)) 2) 1
noncomputable def M.get (m : M) (t : Nat) : Option AV := M.rec (fun ps tm lc => Bool.rec (L.get t lc) (PT.get (path t) tm) (bit ps t)) m
noncomputable def M.set (m : M) (t : Nat) (v : AV) : M := M.rec (fun ps tm lc => Bool.rec ⟨ps, tm, .cons t v lc⟩ ⟨ps, PT.set (some v) (path t) tm, lc⟩ (bit ps t)) m
noncomputable def M.fresh (m : M) : M := M.casesOn m fun ps tm _ => ⟨ps, tm, .nil⟩

/-! The operations, each by itself. 'm': the frame's variables. -/
noncomputable def ev (x : Operand) (m : M) : Option AV := Operand.rec (motive := fun _ => M → Option AV) (fun t m => m.get t) (fun v _ => Option.rec none some (ofC v)) (fun g _ => Bool.rec none (some (.ptr g 0)) (Nat.blt g 100)) (fun f _ => some (.fn f [] [])) x m

noncomputable def omap (m : M) : Option Operand → Option (Option AV)
  | none => some none
  | some x => match ev x m with
    | some v => some (some v)
    | none => none

noncomputable def evL (m : M) : List (Nat × Operand) → Option (List (Nat × AV))
  | [] => some []
  | (i, x) :: r => match ev x m with
    | none => none
    | some v => match evL m r with
      | none => none
      | some vs => some ((i, v) :: vs)

noncomputable def evs (m : M) : List Operand → Option (List AV)
  | [] => some []
  | x :: r => match ev x m with
    | none => none
    | some v => match evs m r with
      | none => none
      | some vs => some (v :: vs)

noncomputable def w1 (o : Option AV) (f : AV → OR) : OR := Option.rec .no f o

/-- An operation: of the program, the variables, the heap, and the number of the next block. -/
abbrev AOp := Program → M → H → Nat → OR
noncomputable def oNo : AOp := fun _ _ _ _ => .no
noncomputable def oMove (x : Operand) : AOp := fun _ m _ _ => ofO (ev x m)
noncomputable def oPickB (a b : Operand) (m : M) : AV → OR
  | .bool true => ofO (ev a m)
  | .bool false => ofO (ev b m)
  | _ => .no
noncomputable def oPick (c a b : Operand) : AOp := fun _ m _ _ => w1 (ev c m) (oPickB a b m)
noncomputable def oAlloc (el : TypeId) : AOp := fun P _ _ n => w1 (tzero P el) (allocA n el)
noncomputable def oBox (el : TypeId) (x : Operand) : AOp := fun _ m _ n => w1 (ev x m) (allocA n el)
noncomputable def oBuild (t : TypeId) (ps : Array (Nat × Operand)) : AOp := fun P m _ _ => Option.casesOn (evL m ps.toList) .no fun vs => ofO (buildA P t vs)
noncomputable def oBuildSlice (t : TypeId) (len : Nat) (ps : Array (Nat × Operand)) : AOp := fun P m _ n => Option.casesOn (evL m ps.toList) .no fun vs => buildSliceA P n t len vs
noncomputable def oLoad (t : TypeId) (a : Operand) : AOp := fun P m h _ => w1 (ev a m) (fun p => ofO (loadA P h t p))
noncomputable def oStore (t : TypeId) (a x : Operand) : AOp := fun P m h _ => w1 (ev a m) fun p => w1 (ev x m) (storeA P h t p)
noncomputable def oNilCheck (x : Operand) : AOp := fun _ m _ _ => w1 (ev x m) fun v => ofO (nilCheckA v)
noncomputable def oBin (op : BinOp) (t : TypeId) (x y : Operand) (_ : TypeId) : AOp := fun P m _ _ => w1 (ev x m) fun a => w1 (ev y m) fun b => ofO (binA P op t (isC x || isC y) a b)
noncomputable def oUn (op : UnOp) (_ : TypeId) (x : Operand) : AOp := fun _ m _ _ => w1 (ev x m) fun v => ofO (unA op v)
noncomputable def oConvert (s d : TypeId) (x : Operand) : AOp := fun P m h n => w1 (ev x m) (convA P h n s d)
noncomputable def oMakeIface (t : TypeId) (x : Operand) : AOp := fun P m _ _ => Bool.casesOn (isIface P t) (w1 (ev x m) fun v => .ok (.ifc t v) []) .no
noncomputable def oMakeFunc (f : Fn) (a c : Array Operand) : AOp := fun _ m _ _ => match f with
  | .func f => match evs m a.toList, evs m c.toList with
    | some a, some c => .ok (.fn f a c) []
    | _, _ => .no
  | _ => .no
noncomputable def oMakeMap (_ : TypeId) (r : Option Operand) : AOp := fun _ _ _ n => match r with
  | none => .new (.map n) [(n, some (.map [] 0))]
  | _ => .no
noncomputable def oMakeSlice (t : TypeId) (l c : Operand) : AOp := fun P m _ n => w1 (ev l m) fun l => w1 (ev c m) fun c => makeSliceA P n t l c
noncomputable def oSlice (t : TypeId) (x : Operand) (lo hi mx : Option Operand) : AOp := fun P m _ n => w1 (ev x m) fun v => match omap m lo, omap m hi, omap m mx with
  | some lo, some hi, some mx => sliceA P n t v lo hi mx
  | _, _, _ => .no
noncomputable def oFieldAddr (s : TypeId) (x : Operand) (f : Nat) : AOp := fun P m _ _ => w1 (ev x m) fun v => ofO (fieldAddrA P s v f)
noncomputable def oField (t : TypeId) (x : Operand) (f : Nat) : AOp := fun P m _ _ => w1 (ev x m) fun v => ofO (fieldA P t v f)
noncomputable def oIndexAddr (t : TypeId) (x i : Operand) : AOp := fun P m _ _ => w1 (ev x m) fun v => w1 (ev i m) fun j => ofO (indexAddrA P t v j)
noncomputable def oIndex (t : TypeId) (x i : Operand) : AOp := fun P m _ _ => w1 (ev x m) fun v => w1 (ev i m) fun j => ofO (indexA P t v j)
noncomputable def oLookup (t : TypeId) (x k : Operand) (ok : Bool) : AOp := fun P m h _ => w1 (ev x m) fun x => w1 (ev k m) fun k => ofO (lookupA P h t x k ok)
noncomputable def oMapUpdate (t : TypeId) (x k v : Operand) : AOp := fun P m h _ => w1 (ev x m) fun x => w1 (ev k m) fun k => w1 (ev v m) fun v => mapSetA P h t x k v
noncomputable def oRange (t : TypeId) (x : Operand) : AOp := fun P m _ n => w1 (ev x m) (rangeA P n t)
noncomputable def oNext (x : Operand) (s : Bool) : AOp := fun _ m h _ => Bool.casesOn s .no (w1 (ev x m) (nextA h))
noncomputable def oAssert (x : Operand) (_ t : TypeId) (ok : Bool) : AOp := fun P m _ _ => w1 (ev x m) fun v => ofO (assertA P v t ok)
noncomputable def oExtractT (i : Nat) : AV → OR
  | .tup vs => ofO vs[i]?
  | _ => .no
noncomputable def oExtract (t : Operand) (i : Nat) : AOp := fun _ m _ _ => w1 (ev t m) (oExtractT i)
noncomputable def oCall (c : Call) : AOp := fun P m h n => match c.callee with
  | .builtin b => match evs m c.args.toList with
    | some args => builtinA P h n b c.argTypes.toList args
    | none => .no
  | _ => .no

noncomputable def aop : Op → AOp := fun o => Op.rec (motive := fun _ => AOp)
  oMove oMove oPick oAlloc oBox oBuild oBuildSlice (fun _ _ _ _ => oNo) oLoad oStore (fun _ => oNo) (fun _ => oNo) oNilCheck
  oBin oUn oConvert (fun _ _ => oNo) oMakeIface oMakeFunc oMakeMap (fun _ _ => oNo) oMakeSlice oSlice oFieldAddr oField oIndexAddr oIndex
  oLookup oMapUpdate (fun _ _ _ => oNo) (fun _ _ _ _ => oNo) oRange oNext (fun _ => oNo) oAssert oExtract oCall (fun _ => oNo) (fun _ => oNo) (fun _ => oNo)
  (fun _ _ => oNo) (fun _ _ _ => oNo) (fun _ _ => oNo) o

end Go.Ex

namespace Go.Ex

/-- How a piece of code ends. -/
inductive Ex where
  | normal
  | exit (id : Nat)
  | ret

/-- a deferred call: of a function, with arguments -/
structure Dfr where
  f : Nat
  cap : List AV
  args : List AV

structure St where
  tm : M
  h : H
  n : Nat
  df : List Dfr

inductive XR where
  | no (why : Nat)
  | ok (e : Ex) (s : St)

inductive CR where
  | no (why : Nat)
  | ok (v : AV) (h : H) (n : Nat)

/-- A function taken by its contract: None: it isn't. -/
abbrev Summ := Nat → Option (List AV → H → Nat → CR)
/-- A method's function by the dynamic type and its name: the function, and of which type the receiver is loaded first. -/
abbrev Meths := Nat → String → Option (Nat × Option Nat)

noncomputable def applyW : H → List (Nat × Option Blk) → H
  | h, [] => h
  | h, (b, o) :: ws => applyW (PT.set o (path b) h) ws

noncomputable def putT (tm : M) (d : Option Nat) (v : AV) : M := Option.casesOn d tm fun d => tm.set d v

/-- arguments: all of them in the trie -/
noncomputable def initT : PT AV → Nat → List AV → PT AV
  | t, _, [] => t
  | t, i, v :: vs => initT (PT.set (some v) (path i) t) (Nat.succ i) vs

noncomputable def mtP (P : Program) : Meths := fun t m => match P.info? t with
  | some i => match i.methods.find? (·.name == m) with
    | some mm => match mm.path.isEmpty, mm.func, P.underlying t with
      | true, some (f, true), some (.pointer _) => some (f, none)
      | true, some (f, false), some (.pointer el) => some (f, some el)
      | true, some (_, true), _ => none
      | true, some (f, false), some _ => some (f, none)
      | _, _, _ => none
    | none => none
  | none => none

structure Env where
  P : Program
  sm : Summ
  mt : Meths
  dm : Nat → Nat → Bool
  ps : Nat → Nat
  lf : Nat

/-- the guard of an operation: is it to be carried out? -/
noncomputable def guardA (ops : Array Oper) (tm : M) (o : Oper) : Option Bool := match o.guard with
  | none => some true
  | some (j, want) => match (ops[j]?).bind (·.dst) with
    | none => none
    | some d => match tm.get d with
      | some (.bool b) => some (match b, want with | true, true => true | false, false => true | _, _ => false)
      | some (.tup []) => some false
      | _ => none

/-- the function and the arguments of a call -/
noncomputable def callee (E : Env) (tm : M) (h : H) (c : Call) : Option (Nat × List AV) :=
  match c.callee with
  | .value f => match ev f tm with
    | some (.fn f a cap) => match evs tm c.args.toList with
      | some args => some (f, a ++ args ++ cap)
      | none => none
    | _ => none
  | .invoke r m => match ev r tm with
    | some (.ifc t v) => match E.mt t m with
      | some (f, none) => match evs tm c.args.toList with
        | some args => some (f, v :: args)
        | none => none
      | some (f, some el) => match loadA E.P h el v with
        | some v => match evs tm c.args.toList with
          | some args => some (f, v :: args)
          | none => none
        | none => none
      | none => none
    | _ => none
  | .builtin _ => none

/-- the function and the arguments of a deferred call -/
noncomputable def calleeV (tm : M) (c : Call) : Option (Nat × List AV) :=
  match c.callee with
  | .value f => match ev f tm with
    | some (.fn f a cap) => match evs tm c.args.toList with
      | some args => some (f, a ++ args ++ cap)
      | none => none
    | _ => none
  | _ => none

/-- what a function hands back -/
noncomputable def resOf (P : Program) (tm : M) (h : H) : List ResultVar → Option (List AV)
  | [] => some []
  | .tmp t :: r => match tm.get t with
    | none => none
    | some v => match resOf P tm h r with
      | none => none
      | some vs => some (v :: vs)
  | .cell a t :: r => match tm.get a with
    | none => none
    | some p => match loadA P h t p with
      | none => none
      | some v => match resOf P tm h r with
        | none => none
        | some vs => some (v :: vs)

noncomputable def tupOf : List AV → AV
  | [v] => v
  | vs => .tup vs

/-- behind an operation -/
noncomputable def mkSt (dst : Option Nat) (v : AV) (tm : M) (h : H) (n : Nat) (df : List Dfr) (k : St → XR) : XR :=
  Option.rec (k ⟨tm, h, n, df⟩) (fun d => k ⟨tm.set d v, h, n, df⟩) dst
noncomputable def finOk (dst : Option Nat) (tm : M) (h : H) (n : Nat) (df : List Dfr) (k : St → XR) (v : AV) (ws : List (Nat × Option Blk)) : XR :=
  List.rec (motive := fun _ => XR) (mkSt dst v tm h n df k) (fun w ws _ => mkSt dst v tm (applyW h (w :: ws)) n df k) ws
noncomputable def finNew (dst : Option Nat) (tm : M) (h : H) (n : Nat) (df : List Dfr) (k : St → XR) (v : AV) (ws : List (Nat × Option Blk)) : XR :=
  strictN (Nat.succ n) fun n => mkSt dst v tm (applyW h ws) n df k
noncomputable def finO (dst : Option Nat) (tm : M) (h : H) (n : Nat) (df : List Dfr) (k : St → XR) (r : OR) : XR :=
  OR.rec (.no 5) (finOk dst tm h n df k) (finNew dst tm h n df k) r
/-- behind a call -/
noncomputable def finC (dst : Option Nat) (tm : M) (df : List Dfr) (k : St → XR) (r : CR) : XR :=
  CR.rec XR.no (fun v h n => mkSt dst v tm h n df k) r

abbrev KT := Nat → List AV → H → Nat → CR
abbrev ROp := Env → KT → Option Nat → St → (St → XR) → XR

noncomputable def rOp (o : AOp) : ROp := fun E _ dst s k => St.rec (fun tm h n df => finO dst tm h n df k (o E.P tm h n)) s
noncomputable def rMove (x : Operand) : ROp := fun _ _ dst s k => St.rec (fun tm h n df => Option.rec (.no 5) (fun v => mkSt dst v tm h n df k) (ev x tm)) s
noncomputable def rCallF (c : Call) : ROp := fun E K dst s k => St.rec (fun tm h n df => Option.rec (.no 3) (fun fa => Prod.rec (fun f args => finC dst tm df k (K f args h n)) fa) (callee E tm h c)) s
noncomputable def isBuiltin (c : Callee) : Bool := Callee.rec (fun _ => false) (fun _ _ => false) (fun _ => true) c
noncomputable def rCall (c : Call) : ROp := Bool.rec (rCallF c) (rOp (oCall c)) (isBuiltin c.callee)
noncomputable def rDefer (c : Call) : ROp := fun _ _ dst s k => St.rec (fun tm h n df => Option.rec (.no 4) (fun fa => Prod.rec (fun f args => mkSt dst (.tup []) tm h n (⟨f, [], args⟩ :: df) k) fa) (calleeV tm c)) s

noncomputable def rop : Op → ROp := fun o => Op.rec (motive := fun _ => ROp)
  rMove rMove (fun a b c => rOp (oPick a b c)) (fun a => rOp (oAlloc a)) (fun a b => rOp (oBox a b)) (fun a b => rOp (oBuild a b))
  (fun a b c => rOp (oBuildSlice a b c)) (fun _ _ _ _ => rOp oNo) (fun a b => rOp (oLoad a b)) (fun a b c => rOp (oStore a b c)) (fun _ => rOp oNo) (fun _ => rOp oNo) (fun a => rOp (oNilCheck a))
  (fun a b c d e => rOp (oBin a b c d e)) (fun a b c => rOp (oUn a b c)) (fun a b c => rOp (oConvert a b c)) (fun _ _ => rOp oNo) (fun a b => rOp (oMakeIface a b)) (fun a b c => rOp (oMakeFunc a b c))
  (fun a b => rOp (oMakeMap a b)) (fun _ _ => rOp oNo) (fun a b c => rOp (oMakeSlice a b c)) (fun a b c d e => rOp (oSlice a b c d e)) (fun a b c => rOp (oFieldAddr a b c)) (fun a b c => rOp (oField a b c))
  (fun a b c => rOp (oIndexAddr a b c)) (fun a b c => rOp (oIndex a b c)) (fun a b c d => rOp (oLookup a b c d)) (fun a b c d => rOp (oMapUpdate a b c d)) (fun _ _ _ => rOp oNo) (fun _ _ _ _ => rOp oNo)
  (fun a b => rOp (oRange a b)) (fun a b => rOp (oNext a b)) (fun _ => rOp oNo) (fun a b c d => rOp (oAssert a b c d)) (fun a b => rOp (oExtract a b)) rCall (fun _ => rOp oNo) rDefer (fun _ => rOp oNo)
  (fun _ _ => rOp oNo) (fun _ _ _ => rOp oNo) (fun _ _ => rOp oNo) o

/-- An operation under its guard. -/
noncomputable def guarded (ops : Array Oper) (o : Oper) (E : Env) (K : KT) (s : St) (k : St → XR) : XR := match guardA ops s.tm o with
  | none => .no 1
  | some false => St.rec (fun tm h n df => mkSt o.dst (.tup []) tm h n df k) s
  | some true => rop o.op E K o.dst s k

noncomputable def stepO (ops : Array Oper) (o : Oper) (E : Env) (K : KT) (s : St) (k : St → XR) : XR :=
  Oper.rec (fun dst op _ _ _ g => Option.rec (rop op E K dst s k) (fun _ => guarded ops o E K s k) g) o

/-- A region's operations in the order of the text. 'K': the calls. -/
noncomputable def xops (E : Env) (K : KT) (ops : Array Oper) : List Oper → St → XR := fun l => List.rec (motive := fun _ => St → XR) (XR.ok .normal) (fun o _ ih s => stepO ops o E K s ih) l

noncomputable def xregion (r : XR) : XR := XR.rec XR.no (fun e s => St.rec (fun tm h n df => M.rec (fun ps t _ => .ok e ⟨⟨ps, t, .nil⟩, h, n, df⟩) tm) s) r

/-! Regions that draw their order: what is asked of the text (closed), and of the run. -/
inductive Cls where
  | free (alloc : Bool)
  | read
  | eff
  | bad

noncomputable def builtinCls : Builtin → Cls
  | .len => .read
  | .cap | .min | .max => .free false
  | .append | .copy | .delete => .eff
  | _ => .bad

noncomputable def convCls (P : Program) (s d : TypeId) : Cls := match P.underlying d with
  | some (.int _) => .free false
  | some .string => .read
  | some (.slice _) => match P.underlying s with
    | some .string => .free true
    | _ => .read
  | _ => .bad

noncomputable def cls (P : Program) : Op → Cls
  | .move _ | .pick .. | .fieldAddr .. | .nilCheck _ | .indexAddr .. | .binOp .. | .unOp .. | .extract .. | .index .. | .field .. | .makeInterface .. | .makeFunc .. | .typeAssert .. | .build .. | .slice .. => .free false
  | .alloc _ | .box .. | .buildSlice .. | .makeMap .. | .makeSlice .. => .free true
  | .load .. | .lookup .. => .read
  | .convert s d _ => convCls P s d
  | .assign _ | .store .. | .mapUpdate .. => .eff
  | .call c => match c.callee with
    | .builtin b => builtinCls b
    | _ => .eff
  | _ => .bad

/-- An operation of a drawn region: its number; what it is; all that is bound to be ahead of it (a bit each); the variables that it looks at. -/
structure An where
  ix : Nat
  o : Oper
  c : Cls
  anc : Nat
  lk : List Nat

noncomputable def has (m i : Nat) : Bool := Nat.beq (Nat.mod (Nat.div m (Nat.pow 2 i)) 2) 1

noncomputable def ancOf (done : List Nat) : List Edge → Nat
  | [] => 0
  | e :: es => match Region.binds .any e with
    | true => Nat.lor (Nat.lor (Nat.pow 2 e.on) (done.getD e.on 0)) (ancOf done es)
    | false => ancOf done es

/-- of each operation all that is bound to be ahead of it -/
noncomputable def ancs : List Nat → List Oper → List Nat
  | done, [] => done
  | done, o :: os => ancs (done ++ [ancOf done o.after.toList]) os

noncomputable def isEff : Cls → Bool
  | .eff => true
  | _ => false
noncomputable def isBad : Cls → Bool
  | .bad => true
  | _ => false

/-- the effects' numbers, in the order of the text -/
noncomputable def effsOf (P : Program) : List Oper → Nat → List Nat
  | [], _ => []
  | o :: os, i => match isEff (cls P o.op) with
    | true => i :: effsOf P os (Nat.succ i)
    | false => effsOf P os (Nat.succ i)

/-- those of the numbers below n that a mask has and that aren't done, rising -/
noncomputable def newIn (m : Nat) (done : List Nat) : Nat → List Nat
  | 0 => []
  | n + 1 => match has m n && !done.contains n with
    | true => newIn m done n ++ [n]
    | false => newIn m done n

/-- THE ORDER OF THE RUN: each effect, ahead of it what is bound to be; the others at the end. -/
noncomputable def lineUp (as : List Nat) (n : Nat) : List Nat → List Nat → List Nat
  | done, [] => done ++ (List.range n).filter fun i => !done.contains i
  | done, e :: es => lineUp as n (done ++ newIn (as.getD e 0) done n ++ [e]) es

noncomputable def annots (P : Program) (ops : Array Oper) (as : List Nat) : List Nat → List An
  | [] => []
  | i :: r => match ops[i]? with
    | none => annots P ops as r
    | some o => ⟨i, o, cls P o.op, as.getD i 0, o.looksAt ops⟩ :: annots P ops as r

/-- two operations, the first ahead of the other in the run: neither sees the other's variable, but in the order that is bound; effects are bound one behind the other -/
noncomputable def pairOk (a b : An) : Bool :=
  (match a.o.dst with
    | none => true
    | some d => (!b.lk.contains d || has b.anc a.ix) && !(b.o.dst == some d)) &&
  (match b.o.dst with
    | none => true
    | some d => !a.lk.contains d || has b.anc a.ix) &&
  (!(isEff a.c && isEff b.c) || has b.anc a.ix) && !(a.ix == b.ix)

/-- what isn't an effect is bound to be ahead of the next one -/
noncomputable def nextOk (a : An) : List An → Bool
  | [] => true
  | b :: r => match isEff b.c with
    | true => has b.anc a.ix
    | false => nextOk a r

noncomputable def allOk : List An → Bool
  | [] => true
  | a :: r => !isBad a.c && r.all (pairOk a) && (isEff a.c || nextOk a r) && allOk r

noncomputable def edgesOk : List Oper → Nat → Bool
  | [], _ => true
  | o :: os, i => o.after.toList.all (fun e => !Region.binds .any e || Nat.blt e.on i) && edgesOk os (Nat.succ i)

noncomputable def plan (P : Program) (ops : Array Oper) : Option (List An) :=
  let l := ops.toList
  let as := ancs [] l
  let an := annots P ops as (lineUp as l.length [] (effsOf P l 0))
  match allOk an && (edgesOk l 0 && (List.range l.length).all fun i => an.any fun a => Nat.beq a.ix i) with
  | true => some an
  | false => none

/-! Are two values one? -/
mutual
noncomputable def AV.beq : AV → AV → Bool
  | .bool a, .bool b => a == b
  | .nat k a, .nat k' b => kbeq k k' && Nat.beq a b
  | .neg k a, .neg k' b => kbeq k k' && Nat.beq a b
  | .flt .f64 a, .flt .f64 b => Nat.beq a b
  | .str a, .str b => leqb a b
  | .nilp, .nilp => true
  | .ptr a b, .ptr c d => Nat.beq a c && Nat.beq b d
  | .nils, .nils => true
  | .sl a b c d, .sl e f g i => Nat.beq a e && Nat.beq b f && Nat.beq c g && Nat.beq d i
  | .slU a b c d, .slU e f g i => Nat.beq a e && Nat.beq b f && Nat.beq c g && Nat.beq d i
  | .slE a, .slE b => Nat.beq a b
  | .nilm, .nilm => true
  | .map a, .map b => Nat.beq a b
  | .nilf, .nilf => true
  | .nili, .nili => true
  | .ifc t a, .ifc u b => Nat.beq t u && AV.beq a b
  | .agg a, .agg b => AV.beqs a b
  | .tup a, .tup b => AV.beqs a b
  | _, _ => false
noncomputable def AV.beqs : List AV → List AV → Bool
  | [], [] => true
  | a :: x, b :: y => AV.beq a b && AV.beqs x y
  | _, _ => false
end

abbrev Al := List (Nat × List (Nat × Option Blk))

/-- blocks made since, of those that are bound to be ahead -/
noncomputable def withAl (anc : Nat) (h : H) : Al → H
  | [] => h
  | (i, ws) :: r => match has anc i with
    | true => applyW (withAl anc h r) ws
    | false => withAl anc h r

/-- the variables that an operation looks at, and no others -/
noncomputable def restr (m : M) : List Nat → L
  | [] => .nil
  | t :: ts => match m.get t with
    | some v => .cons t v (restr m ts)
    | none => restr m ts
noncomputable def lookM (lk : List Nat) (m : M) : M := ⟨0, .leaf, restr m lk⟩

noncomputable def readAt (E : Env) (o : Op) (m : M) (v : AV) (h : H) : Bool := match aop o E.P m h 0 with
  | .ok u [] => AV.beq u v
  | _ => false

abbrev Hist := List (Nat × H × Al)

/-- Ahead of the effects that aren't bound to be ahead of it the reading is the same. 'al': the blocks made since. -/
noncomputable def pastOk (E : Env) (o : Op) (m : M) (v : AV) (anc : Nat) : Al → Hist → Bool
  | _, [] => true
  | al, (e, h, l) :: hs => match has anc e with
    | true => true
    | false => readAt E o m v (withAl anc h (al ++ l)) && pastOk E o m v anc (al ++ l) hs

/-- A drawn region's run so far: the state; the heap behind the last effect, and the blocks made since; of each effect (the last one first) its number, the heap behind the effect ahead of it, and the blocks made between the two. -/
structure DS where
  s : St
  h0 : H
  al : Al
  hist : Hist

inductive DR where
  | no (w : Nat)
  | ok (d : DS)

noncomputable def stSet (dst : Option Nat) (v : AV) (m : M) (h : H) (n : Nat) (df : List Dfr) : St := ⟨putT m dst v, h, n, df⟩

noncomputable def effEnd (a : An) (d : DS) (v : AV) (h : H) (n : Nat) : DR := .ok ⟨stSet a.o.dst v d.s.tm h n d.s.df, h, [], (a.ix, d.h0, d.al) :: d.hist⟩

noncomputable def xeffO (E : Env) (a : An) (d : DS) (m : M) : DR := match aop a.o.op E.P m d.s.h d.s.n with
  | .no => .no 32
  | .ok v ws => effEnd a d v (applyW d.s.h ws) d.s.n
  | .new v ws => effEnd a d v (applyW d.s.h ws) (Nat.succ d.s.n)

noncomputable def xeff (E : Env) (K : KT) (a : An) (d : DS) (m : M) : DR := match a.o.op with
  | .call c => match isBuiltin c.callee with
    | true => xeffO E a d m
    | false => match callee E m d.s.h c with
      | none => .no 33
      | some (f, args) => match K f args d.s.h d.s.n with
        | .no w => .no w
        | .ok v h n => effEnd a d v h n
  | _ => xeffO E a d m

noncomputable def keepEnd (a : An) (d : DS) (v : AV) : DR := .ok ⟨stSet a.o.dst v d.s.tm d.s.h d.s.n d.s.df, d.h0, d.al, d.hist⟩

noncomputable def xread (E : Env) (a : An) (d : DS) (m : M) : DR := match aop a.o.op E.P m (withAl a.anc d.h0 d.al) 0 with
  | .ok v [] => match pastOk E a.o.op m v a.anc d.al d.hist with
    | true => keepEnd a d v
    | false => .no 34
  | _ => .no 35

noncomputable def xfree (E : Env) (a : An) (d : DS) (m : M) : DR := match aop a.o.op E.P m .leaf d.s.n with
  | .no => .no 37
  | .ok v [] => keepEnd a d v
  | .ok _ _ => .no 38
  | .new v [] => .ok ⟨stSet a.o.dst v d.s.tm d.s.h (Nat.succ d.s.n) d.s.df, d.h0, d.al, d.hist⟩
  | .new v [(b, some k)] => match Nat.beq b d.s.n with
    | true => .ok ⟨stSet a.o.dst v d.s.tm (PT.set (some k) (path b) d.s.h) (Nat.succ d.s.n) d.s.df, d.h0, (a.ix, [(b, some k)]) :: d.al, d.hist⟩
    | false => .no 36
  | .new _ _ => .no 42

noncomputable def xskip (a : An) (d : DS) : DR := match isEff a.c with
  | true => effEnd a d (.tup []) d.s.h d.s.n
  | false => keepEnd a d (.tup [])

noncomputable def xan (E : Env) (K : KT) (ops : Array Oper) (a : An) (d : DS) : DR :=
  let m := lookM a.lk d.s.tm
  match guardA ops m a.o with
  | none => .no 39
  | some false => xskip a d
  | some true => match a.c with
    | .free _ => xfree E a d m
    | .read => xread E a d m
    | .eff => xeff E K a d m
    | .bad => .no 40

noncomputable def xans (E : Env) (K : KT) (ops : Array Oper) : List An → DS → XR
  | [], d => .ok .normal d.s
  | a :: as, d => match xan E K ops a d with
    | .no w => .no w
    | .ok d => xans E K ops as d

noncomputable def xdraw (E : Env) (K : KT) (ops : Array Oper) (s : St) : XR := match plan E.P ops with
  | none => .no 41
  | some as => xans E K ops as ⟨s, s.h, [], []⟩

/-! Code. -/
noncomputable def seqX (r : XR) (k : St → XR) : XR := XR.rec XR.no (fun e s => Ex.rec (k s) (fun i => .ok (.exit i) s) (.ok .ret s) e) r
noncomputable def condX (o : Option AV) (a b : XR) : XR := Option.rec (.no 10) (fun v => Option.rec (.no 13) (fun t => Bool.rec b a t) (asBoolS v)) o
noncomputable def blockX (id : Nat) (r : XR) : XR := XR.rec XR.no (fun e s => Ex.rec (.ok .normal s) (fun i => Bool.rec (.ok (.exit i) s) (.ok .normal s) (Nat.beq i id)) (.ok .ret s) e) r
noncomputable def loopX (body : St → XR) (n : Nat) : St → XR := Nat.rec (motive := fun _ => St → XR) (fun _ => .no 12) (fun _ ih s => seqX (body s) ih) n
noncomputable def xc (E : Env) (K : KT) : Code → St → XR := fun c => Code.rec (motive := fun _ => St → XR)
  (XR.ok .normal)
  (fun _ ops draw s => xregion (Bool.rec (xops E K ops ops.toList s) (xdraw E K ops s) draw))
  (fun _ _ a b s => seqX (a s) b)
  (fun x _ _ a b s => condX (ev x s.tm) (a s) (b s))
  (fun id _ b s => blockX id (b s))
  (fun _ b s => loopX b E.lf s)
  (fun _ _ _ _ _ _ _ => .no 11)
  (fun id s => .ok (.exit id) s)
  (fun _ b s => b s)
  (fun _ s => .ok .normal s)
  (fun _ _ => .no 14)
  (fun s => .ok .ret s)
  (fun _ _ => .no 15) c

/-- deferred calls: each hands nothing back -/
noncomputable def xdefers (E : Env) : List Dfr → Bool
  | [] => true
  | d :: ds => E.dm d.f d.args.length && xdefers E ds

noncomputable def xend (E : Env) (fn : Func) (r : XR) : CR := match r with
  | .no w => .no w
  | .ok (.exit _) _ => .no 22
  | .ok _ s => match xdefers E s.df with
    | true => match resOf E.P s.tm s.h fn.results.toList with
      | some vs => .ok (tupOf vs) s.h s.n
      | none => .no 23
    | false => .no 24

noncomputable def xcall (E : Env) : Nat → Nat → List AV → H → Nat → CR
  | 0, _, _, _, _ => .no 20
  | F + 1, f, args, h, n => match E.sm f with
    | some s => s args h n
    | none => match E.P.funcs[f]? with
      | none => .no 21
      | some fn => match fn.body with
        | none => .no (1000 + f)
        | some b => xend E fn (xc E (xcall E F) b ⟨⟨E.ps f, initT .leaf 0 args, .nil⟩, h, n, []⟩)

end Go.Ex

/-! The trie: what is laid at a key is read there, and nowhere else. -/
namespace Go.Ex

theorem strictN_eq {α : Type} (n : Nat) (f : Nat → α) : strictN n f = f n := by cases n <;> rfl

def D8.idx : D8 → Nat
  | .d0 => 0 | .d1 => 1 | .d2 => 2 | .d3 => 3 | .d4 => 4 | .d5 => 5 | .d6 => 6 | .d7 => 7

def Path.num : Path → Nat
  | .e => 0
  | .d x p => 8 * p.num + x.idx + 1

theorem digit_idx (m : Nat) (h : m < 8) : (digit m).idx = m := by
  match m, h with
  | 0, _ => rfl | 1, _ => rfl | 2, _ => rfl | 3, _ => rfl | 4, _ => rfl | 5, _ => rfl | 6, _ => rfl | 7, _ => rfl
  | n + 8, h => omega

theorem pathF_num (f : Nat) : ∀ n, n ≤ f → (pathF f n).num = n := by
  induction f with
  | zero => intro n h; obtain rfl : n = 0 := (by omega); rfl
  | succ f ih =>
    intro n h
    cases n with
    | zero => rfl
    | succ m =>
      show 8 * (pathF f (m / 8)).num + (digit (m % 8)).idx + 1 = m + 1
      rw [ih _ (by omega), digit_idx _ (Nat.mod_lt _ (by omega))]
      omega

theorem path_num (n : Nat) : (path n).num = n := by
  cases n with
  | zero => rfl
  | succ m => exact pathF_num (m + 1) (m + 1) (Nat.le_refl _)

theorem path_inj {a b : Nat} (h : path a = path b) : a = b := by
  rw [← path_num a, ← path_num b, h]

theorem N8.sel_upd {α : Type} (x : D8) (a : α) (n : N8 α) : N8.sel x (N8.upd x a n) = a := by
  cases x <;> cases n <;> rfl

theorem N8.sel_upd_ne {α : Type} {x y : D8} (h : x ≠ y) (a : α) (n : N8 α) : N8.sel x (N8.upd y a n) = N8.sel x n := by
  cases x <;> cases y <;> first | exact absurd rfl h | (cases n; rfl)

theorem N8.sel_none {α : Type} (x : D8) : N8.sel x (N8.none : N8 (PT α)) = .leaf := by cases x <;> rfl

theorem PT.get_leaf {α : Type} (p : Path) : PT.get p (.leaf : PT α) = none := by cases p <;> rfl

theorem PT.get_node_d {α : Type} (x : D8) (p : Path) (v : Option α) (c : N8 (PT α)) : PT.get (.d x p) (.node v c) = PT.get p (N8.sel x c) := rfl
theorem PT.get_node_e {α : Type} (v : Option α) (c : N8 (PT α)) : PT.get .e (.node v c) = v := rfl
theorem PT.set_d_node {α : Type} (a : Option α) (x : D8) (p : Path) (v : Option α) (c : N8 (PT α)) :
    PT.set a (.d x p) (.node v c) = .node v (N8.upd x (PT.set a p (N8.sel x c)) c) := rfl
theorem PT.set_d_leaf {α : Type} (a : Option α) (x : D8) (p : Path) :
    PT.set a (.d x p) (.leaf : PT α) = .node none (N8.upd x (PT.set a p .leaf) N8.none) := rfl

theorem PT.get_set {α : Type} (a : Option α) (p : Path) : ∀ t : PT α, PT.get p (PT.set a p t) = a := by
  induction p with
  | e => intro t; cases t <;> rfl
  | d x p ih =>
    intro t
    cases t with
    | leaf => rw [PT.set_d_leaf, PT.get_node_d, N8.sel_upd, ih]
    | node v c => rw [PT.set_d_node, PT.get_node_d, N8.sel_upd, ih]

theorem PT.get_set_ne {α : Type} (a : Option α) (p : Path) : ∀ (q : Path) (t : PT α), q ≠ p → PT.get q (PT.set a p t) = PT.get q t := by
  induction p with
  | e =>
    intro q t h
    cases q with
    | e => exact absurd rfl h
    | d y q =>
      cases t with
      | leaf => show PT.get q (N8.sel y N8.none) = _; rw [N8.sel_none, PT.get_leaf, PT.get_leaf]
      | node v c => rfl
  | d x p ih =>
    intro q t h
    cases q with
    | e => cases t <;> rfl
    | d y q =>
      by_cases hxy : y = x
      · subst hxy
        have hq : q ≠ p := fun e => h (by rw [e])
        cases t with
        | leaf => rw [PT.set_d_leaf, PT.get_node_d, N8.sel_upd, ih _ _ hq, PT.get_leaf, PT.get_leaf]
        | node v c => rw [PT.set_d_node, PT.get_node_d, N8.sel_upd, ih _ _ hq, PT.get_node_d]
      · cases t with
        | leaf => rw [PT.set_d_leaf, PT.get_node_d, N8.sel_upd_ne hxy, N8.sel_none, PT.get_leaf, PT.get_leaf]
        | node v c => rw [PT.set_d_node, PT.get_node_d, N8.sel_upd_ne hxy, PT.get_node_d]

theorem getB_set (h : H) (b : Nat) (o : Option Blk) : getB (PT.set o (path b) h) b = o := PT.get_set _ _ _
theorem getB_set_ne (h : H) {b c : Nat} (o : Option Blk) (hne : c ≠ b) : getB (PT.set o (path b) h) c = getB h c :=
  PT.get_set_ne _ _ _ _ fun e => hne (path_inj e)

/-! Variables. -/
theorem M.get_mk (ps : Nat) (tm : PT AV) (lc : L) (t : Nat) : (M.mk ps tm lc).get t = cond (bit ps t) (PT.get (path t) tm) (L.get t lc) := by
  show Bool.rec (motive := fun _ => Option AV) (L.get t lc) (PT.get (path t) tm) (bit ps t) = _
  cases bit ps t <;> rfl
theorem M.set_mk (ps : Nat) (tm : PT AV) (lc : L) (t : Nat) (v : AV) : (M.mk ps tm lc).set t v = cond (bit ps t) ⟨ps, PT.set (some v) (path t) tm, lc⟩ ⟨ps, tm, .cons t v lc⟩ := by
  show Bool.rec (motive := fun _ => M) ⟨ps, tm, .cons t v lc⟩ ⟨ps, PT.set (some v) (path t) tm, lc⟩ (bit ps t) = _
  cases bit ps t <;> rfl
theorem L.get_cons (t u : Nat) (v : AV) (r : L) : L.get t (.cons u v r) = cond (Nat.beq t u) (some v) (L.get t r) := by
  show Bool.rec (motive := fun _ => Option AV) (L.get t r) (some v) (Nat.beq t u) = _
  cases Nat.beq t u <;> rfl
theorem beq_ne {a b : Nat} (h : a ≠ b) : Nat.beq a b = false := by
  cases hx : Nat.beq a b
  · rfl
  · exact absurd (Nat.eq_of_beq_eq_true hx) h

theorem M.get_set (m : M) (t : Nat) (v : AV) : (m.set t v).get t = some v := by
  obtain ⟨ps, tm, lc⟩ := m
  rw [M.set_mk]
  cases hb : bit ps t <;> simp only [cond_true, cond_false, M.get_mk, hb]
  · rw [L.get_cons, Nat.beq_refl]; rfl
  · exact PT.get_set _ _ _

theorem M.get_set_ne (m : M) {t u : Nat} (v : AV) (h : u ≠ t) : (m.set t v).get u = m.get u := by
  obtain ⟨ps, tm, lc⟩ := m
  rw [M.set_mk]
  cases hb : bit ps t <;> simp only [cond_true, cond_false, M.get_mk]
  · cases hu : bit ps u <;> simp only [cond_true, cond_false]
    rw [L.get_cons, beq_ne h]; rfl
  · cases hu : bit ps u <;> simp only [cond_true, cond_false]
    exact PT.get_set_ne _ _ _ _ fun e => h (path_inj e)

theorem M.get_fresh {ps : Nat} {tm : PT AV} {lc : L} {t : Nat} {v : AV} (h : (M.mk ps tm .nil).get t = some v) : (M.mk ps tm lc).get t = some v := by
  rw [M.get_mk] at *
  cases hb : bit ps t <;> simp only [hb, cond_true, cond_false] at *
  · cases h
  · exact h

end Go.Ex

/-! What an abstract value stands for, and what an abstract heap says of a world. -/
namespace Go.Ex

/-- Where a block lies: its number, its first cell, how many elements may stand from there on, and how many cells an element has. -/
structure Pl where
  B : Nat
  d : Nat
  c : Nat
  z : Nat

structure Rn where
  blk : Nat → Option Pl
  emp : Nat → Option (Addr × Nat)

structure Rn.le (ρ ρ' : Rn) : Prop where
  blk : ∀ b x, ρ.blk b = some x → ρ'.blk b = some x
  emp : ∀ b x, ρ.emp b = some x → ρ'.emp b = some x

theorem Rn.le.refl (ρ : Rn) : ρ.le ρ := ⟨fun _ _ h => h, fun _ _ h => h⟩
theorem Rn.le.trans {a b c : Rn} (h : a.le b) (k : b.le c) : a.le c := ⟨fun _ _ e => k.blk _ _ (h.blk _ _ e), fun _ _ e => k.emp _ _ (h.emp _ _ e)⟩

def bytesIn (s : List Nat) : Prop := ∀ x ∈ s, x < 256
def toBA (s : List Nat) : ByteArray := ⟨(s.map UInt8.ofNat).toArray⟩

instance (s : List Nat) : Decidable (bytesIn s) := inferInstanceAs (Decidable (∀ x ∈ s, x < 256))

mutual
def cv (ρ : Rn) : AV → Option Value
  | .bool b => some (.bool b)
  | .nat k n => some (.int k (.ofNat n))
  | .neg k n => some (.int k (.negSucc n))
  | .flt k b => some (.float k b)
  | .str s => if bytesIn s then some (.string (toBA s)) else none
  | .nilp => some (.pointer none)
  | .ptr b off => match ρ.blk b with
    | some p => some (.pointer (some ⟨p.B, p.d + off, none⟩))
    | none => none
  | .nils => some (.slice none 0 0)
  | .sl b off len cap => match ρ.blk b with
    | some p => some (.slice (some ⟨p.B, p.d + off, none⟩) len cap)
    | none => none
  | .slU b k z len => match ρ.blk b with
    | some p => if p.z = z ∧ k + len ≤ p.c then some (.slice (some ⟨p.B, p.d + k * z, none⟩) len (p.c - k)) else none
    | none => none
  | .slE b => match ρ.emp b with
    | some (a, c) => some (.slice (some a) 0 c)
    | none => none
  | .nilm => some (.map none)
  | .map b => match ρ.blk b with
    | some p => some (.map (some p.B))
    | none => none
  | .nilf => some .nilFunc
  | .fn f a c => match cvs ρ a with
    | none => none
    | some a => match cvs ρ c with
      | none => none
      | some c => some (.func (.func f) a.toArray c.toArray)
  | .nili => some .nilIface
  | .ifc t v => match cv ρ v with
    | none => none
    | some v => some (.iface t v)
  | .agg l => match cvs ρ l with
    | none => none
    | some l => some (.agg l.toArray)
  | .tup l => match cvs ρ l with
    | none => none
    | some l => some (.tuple l.toArray)
def cvs (ρ : Rn) : List AV → Option (List Value)
  | [] => some []
  | v :: vs => match cv ρ v with
    | none => none
    | some v => match cvs ρ vs with
      | none => none
      | some vs => some (v :: vs)
end

theorem cvs_nil (ρ : Rn) : cvs ρ [] = some [] := by rw [cvs]
theorem cvs_cons {ρ : Rn} {v : AV} {vs : List AV} {l : List Value} (h : cvs ρ (v :: vs) = some l) :
    ∃ V Vs, cv ρ v = some V ∧ cvs ρ vs = some Vs ∧ l = V :: Vs := by
  rw [cvs] at h
  cases hv : cv ρ v with
  | none => rw [hv] at h; cases h
  | some V => cases hr : cvs ρ vs with
    | none => rw [hv, hr] at h; cases h
    | some r => rw [hv, hr] at h; exact ⟨V, r, rfl, rfl, by cases h; rfl⟩
theorem cvs_mk {ρ : Rn} {v : AV} {vs : List AV} {V : Value} {Vs : List Value} (h : cv ρ v = some V) (hs : cvs ρ vs = some Vs) :
    cvs ρ (v :: vs) = some (V :: Vs) := by rw [cvs, h, hs]

mutual
theorem cv_mono {ρ ρ' : Rn} (hl : ρ.le ρ') : ∀ (v : AV) (V : Value), cv ρ v = some V → cv ρ' v = some V
  | .bool _, V, h | .nat _ _, V, h | .neg _ _, V, h | .flt _ _, V, h | .str _, V, h | .nilp, V, h | .nils, V, h | .nilm, V, h | .nilf, V, h | .nili, V, h => by rw [cv] at *; exact h
  | .ptr b off, V, h | .sl b off _ _, V, h | .slU b off _ _, V, h | .map b, V, h => by
    rw [cv] at *
    cases hb : ρ.blk b with
    | none => rw [hb] at h; cases h
    | some p => rw [hb] at h; rw [hl.blk _ _ hb]; exact h
  | .slE b, V, h => by
    rw [cv] at *
    cases hb : ρ.emp b with
    | none => rw [hb] at h; cases h
    | some p => rw [hb] at h; rw [hl.emp _ _ hb]; exact h
  | .fn f a c, V, h => by
    rw [cv] at *
    split at h
    · cases h
    · rename_i a' ha
      split at h
      · cases h
      · rename_i c' hc
        rw [cvs_mono hl a _ ha, cvs_mono hl c _ hc]; exact h
  | .ifc t v, V, h => by
    rw [cv] at *
    split at h
    · cases h
    · rename_i v' hv
      rw [cv_mono hl v _ hv]; exact h
  | .agg l, V, h | .tup l, V, h => by
    rw [cv] at *
    split at h
    · cases h
    · rename_i v' hv
      rw [cvs_mono hl l _ hv]; exact h
theorem cvs_mono {ρ ρ' : Rn} (hl : ρ.le ρ') : ∀ (v : List AV) (V : List Value), cvs ρ v = some V → cvs ρ' v = some V
  | [], V, h => by rw [cvs] at *; exact h
  | v :: vs, V, h => by
    obtain ⟨a, b, ha, hb, rfl⟩ := cvs_cons h
    exact cvs_mk (cv_mono hl v _ ha) (cvs_mono hl vs _ hb)
end

/-- a map's entries -/
def cvEs (ρ : Rn) : List (AV × AV × Nat) → Option (List MapEntry)
  | [] => some []
  | (k, v, s) :: es => match cv ρ k, cv ρ v, cvEs ρ es with
    | some K, some V, some r => some (⟨K, V, s⟩ :: r)
    | _, _, _ => none

theorem cvEs_cons {ρ : Rn} {k v : AV} {s : Nat} {es : List (AV × AV × Nat)} {l : List MapEntry} (h : cvEs ρ ((k, v, s) :: es) = some l) :
    ∃ K V r, cv ρ k = some K ∧ cv ρ v = some V ∧ cvEs ρ es = some r ∧ l = ⟨K, V, s⟩ :: r := by
  rw [cvEs] at h
  cases hk : cv ρ k with
  | none => rw [hk] at h; cases h
  | some K => cases hv : cv ρ v with
    | none => rw [hk, hv] at h; cases h
    | some V => cases hr : cvEs ρ es with
      | none => rw [hk, hv, hr] at h; cases h
      | some r => rw [hk, hv, hr] at h; exact ⟨K, V, r, rfl, rfl, rfl, by cases h; rfl⟩
theorem cvEs_mk {ρ : Rn} {k v : AV} {s : Nat} {es : List (AV × AV × Nat)} {K V : Value} {r : List MapEntry} (hk : cv ρ k = some K) (hv : cv ρ v = some V) (hr : cvEs ρ es = some r) :
    cvEs ρ ((k, v, s) :: es) = some (⟨K, V, s⟩ :: r) := by rw [cvEs, hk, hv, hr]
theorem cvEs_mono {ρ ρ' : Rn} (hl : ρ.le ρ') : ∀ (l : List (AV × AV × Nat)) (V : List MapEntry), cvEs ρ l = some V → cvEs ρ' l = some V
  | [], V, h => by rw [cvEs] at *; exact h
  | (k, v, s) :: es, V, h => by
    obtain ⟨K, V, r, hk, hv, hr, rfl⟩ := cvEs_cons h
    exact cvEs_mk (cv_mono hl _ _ hk) (cv_mono hl _ _ hv) (cvEs_mono hl _ _ hr)

/-- What a block says of the world. -/
def BlkOk (ρ : Rn) (w : World) (b : Nat) : Blk → Prop
  | .cells el n t => ∃ p C fz, ρ.blk b = some p ∧ w.heap[p.B]? = some (.cells C el fz) ∧ p.d + n ≤ C.size ∧ p.d + p.c * p.z ≤ C.size ∧
      (fz.1 = fz.2 ∨ C.size ≤ fz.1) ∧ ∀ i v, i < n → PT.get (path i) t = some v → ∃ V, cv ρ v = some V ∧ C[p.d + i]? = some V
  | .map es clk => ∃ p l, ρ.blk b = some p ∧ cvEs ρ es = some l ∧ w.heap[p.B]? = some (.map l.toArray clk)
  | .iter s i => ∃ p, ρ.blk b = some p ∧ p.d = 0 ∧ bytesIn s ∧ w.heap[p.B]? = some (.stringIter (toBA s) i)

theorem BlkOk.at {ρ : Rn} {w : World} {b : Nat} {k : Blk} (h : BlkOk ρ w b k) : ∃ p, ρ.blk b = some p ∧ p.B < w.heap.size := by
  have lt : ∀ {B : Nat} {o : Obj}, w.heap[B]? = some o → B < w.heap.size := fun {B o} e => by
    rcases Nat.lt_or_ge B w.heap.size with h | h
    · exact h
    · rw [Array.getElem?_eq_none h] at e; cases e
  cases k with
  | cells el n t => obtain ⟨p, C, fz, hp, hw, _⟩ := h; exact ⟨p, hp, lt hw⟩
  | map es clk => obtain ⟨p, l, hp, _, hw⟩ := h; exact ⟨p, hp, lt hw⟩
  | iter s i => obtain ⟨p, hp, _, _, hw⟩ := h; exact ⟨p, hp, lt hw⟩

theorem BlkOk.mono {ρ ρ' : Rn} {w w' : World} {b : Nat} {k : Blk} (hl : ρ.le ρ') (h : BlkOk ρ w b k)
    (hw : ∀ p, ρ.blk b = some p → w'.heap[p.B]? = w.heap[p.B]?) : BlkOk ρ' w' b k := by
  cases k with
  | cells el n t =>
    obtain ⟨p, C, fz, hp, hc, h1, h2, h3, h4⟩ := h
    refine ⟨p, C, fz, hl.blk _ _ hp, (hw p hp).trans hc, h1, h2, h3, fun i v hi hv => ?_⟩
    obtain ⟨V, ha, hb⟩ := h4 i v hi hv
    exact ⟨V, cv_mono hl _ _ ha, hb⟩
  | map es clk =>
    obtain ⟨p, l, hp, hes, hc⟩ := h
    exact ⟨p, l, hl.blk _ _ hp, cvEs_mono hl _ _ hes, (hw p hp).trans hc⟩
  | iter s i =>
    obtain ⟨p, hp, hd, hs, hc⟩ := h
    exact ⟨p, hl.blk _ _ hp, hd, hs, (hw p hp).trans hc⟩

structure Sim (ρ : Rn) (F : Nat → Option Blk) (w : World) : Prop where
  ok : ∀ b k, F b = some k → BlkOk ρ w b k
  inj : ∀ b b' k k' p p', F b = some k → F b' = some k' → ρ.blk b = some p → ρ.blk b' = some p' → p.B = p'.B → b = b'
  glob : ∀ g, g < 100 → ρ.blk g = some ⟨g, 0, 0, 0⟩

/-- a heap, and blocks beside it -/
noncomputable def un (h : H) (D : Nat → Option Blk) : Nat → Option Blk := fun b => match getB h b with
  | some k => some k
  | none => D b

theorem un_some {h : H} {D : Nat → Option Blk} {b : Nat} {k : Blk} (e : getB h b = some k) : un h D b = some k := by unfold un; rw [e]
theorem un_none {h : H} {D : Nat → Option Blk} {b : Nat} (e : getB h b = none) : un h D b = D b := by unfold un; rw [e]

/-- The same heap (and streams): what is drawn may differ. -/
structure SameW (w w' : World) : Prop where
  heap : w'.heap = w.heap
  os : w'.os = w.os
  tape : w'.tape = w.tape
  output : w'.output = w.output

theorem SameW.refl (w : World) : SameW w w := ⟨rfl, rfl, rfl, rfl⟩

/-- Numbers not taken yet. -/
structure Fr (ρ : Rn) (h : H) (D : Nat → Option Blk) (n n' : Nat) : Prop where
  big : 100 ≤ n
  blk : ∀ b, n ≤ b → b < n' → ρ.blk b = none
  emp : ∀ b, n ≤ b → b < n' → ρ.emp b = none
  h : ∀ b, n ≤ b → b < n' → getB h b = none
  D : ∀ b, n ≤ b → b < n' → D b = none

/-- What holds behind a piece of a run. -/
structure Ext (D : Nat → Option Blk) (n : Nat) (h : H) (ρ : Rn) (w : World) (n' : Nat) (h' : H) (ρ' : Rn) (w' : World) : Prop where
  nle : n ≤ n'
  le : ρ.le ρ'
  out : ∀ b, ¬ (n ≤ b ∧ b < n') → ρ'.blk b = ρ.blk b ∧ ρ'.emp b = ρ.emp b
  sim : Sim ρ' (un h' D) w'
  dom : ∀ b, getB h' b ≠ none → getB h b ≠ none ∨ (n ≤ b ∧ b < n')
  size : w.heap.size ≤ w'.heap.size
  keep : ∀ X, X < w.heap.size → (∀ b p, getB h b ≠ none → ρ.blk b = some p → p.B ≠ X) → w'.heap[X]? = w.heap[X]?
  img : ∀ b p, getB h' b ≠ none → ρ'.blk b = some p → w.heap.size ≤ p.B ∨ ∃ b0 p0, getB h b0 ≠ none ∧ ρ.blk b0 = some p0 ∧ p0.B = p.B
  os : w'.os = w.os
  tape : w'.tape = w.tape
  output : w'.output = w.output
  ro : ∀ g, g < 100 → getB h g ≠ none → getB h' g ≠ none ∧ w'.heap[g]? = w.heap[g]?

theorem Sim.same {ρ : Rn} {F : Nat → Option Blk} {w w' : World} (h : Sim ρ F w) (e : SameW w w') : Sim ρ F w' :=
  ⟨fun b k hb => (h.ok b k hb).mono (Rn.le.refl ρ) fun _ _ => by rw [e.heap], h.inj, h.glob⟩

theorem Ext.refl {D : Nat → Option Blk} {n : Nat} {h : H} {ρ : Rn} {w : World} (hs : Sim ρ (un h D) w) : Ext D n h ρ w n h ρ w where
  nle := Nat.le_refl _
  le := Rn.le.refl ρ
  out := fun _ _ => ⟨rfl, rfl⟩
  sim := hs
  dom := fun _ hb => .inl hb
  size := Nat.le_refl _
  keep := fun _ _ _ => rfl
  img := fun b p hb hp => .inr ⟨b, p, hb, hp, rfl⟩
  os := rfl
  tape := rfl
  output := rfl
  ro := fun _ _ hg => ⟨hg, rfl⟩

theorem Ext.same {D : Nat → Option Blk} {n : Nat} {h : H} {ρ : Rn} {w w' : World} (hs : Sim ρ (un h D) w) (e : SameW w w') : Ext D n h ρ w n h ρ w' where
  nle := Nat.le_refl _
  le := Rn.le.refl ρ
  out := fun _ _ => ⟨rfl, rfl⟩
  sim := hs.same e
  dom := fun _ hb => .inl hb
  size := by rw [e.heap]; exact Nat.le_refl _
  keep := fun _ _ _ => by rw [e.heap]
  img := fun b p hb hp => .inr ⟨b, p, hb, hp, rfl⟩
  os := e.os
  tape := e.tape
  output := e.output
  ro := fun _ _ hg => ⟨hg, by rw [e.heap]⟩

theorem Ext.trans {D : Nat → Option Blk} {n n1 n2 : Nat} {h h1 h2 : H} {ρ ρ1 ρ2 : Rn} {w w1 w2 : World}
    (a : Ext D n h ρ w n1 h1 ρ1 w1) (b : Ext D n1 h1 ρ1 w1 n2 h2 ρ2 w2) : Ext D n h ρ w n2 h2 ρ2 w2 where
  nle := Nat.le_trans a.nle b.nle
  le := a.le.trans b.le
  out := fun c hc => by
    have h1 := a.out c fun hh => hc ⟨hh.1, Nat.lt_of_lt_of_le hh.2 b.nle⟩
    have h2 := b.out c fun hh => hc ⟨Nat.le_trans a.nle hh.1, hh.2⟩
    exact ⟨h2.1.trans h1.1, h2.2.trans h1.2⟩
  sim := b.sim
  dom := fun c hc => by
    rcases b.dom c hc with h | h
    · rcases a.dom c h with h | h
      · exact .inl h
      · exact .inr ⟨h.1, Nat.lt_of_lt_of_le h.2 b.nle⟩
    · exact .inr ⟨Nat.le_trans a.nle h.1, h.2⟩
  size := Nat.le_trans a.size b.size
  keep := fun X hX hn => by
    rw [b.keep X (Nat.lt_of_lt_of_le hX a.size) ?_, a.keep X hX hn]
    intro c p hc hp e
    rcases a.img c p hc hp with h | ⟨b0, p0, h0, hp0, e0⟩
    · omega
    · exact hn b0 p0 h0 hp0 (e0.trans e)
  img := fun c p hc hp => by
    rcases b.img c p hc hp with h | ⟨b0, p0, h0, hp0, e0⟩
    · exact .inl (Nat.le_trans a.size h)
    · rcases a.img b0 p0 h0 hp0 with h | ⟨b1, p1, h1, hp1, e1⟩
      · exact .inl (by omega)
      · exact .inr ⟨b1, p1, h1, hp1, e1.trans e0⟩
  os := b.os.trans a.os
  tape := b.tape.trans a.tape
  output := b.output.trans a.output
  ro := fun g hg hn => by
    obtain ⟨h1, h2⟩ := a.ro g hg hn
    obtain ⟨h3, h4⟩ := b.ro g hg h1
    exact ⟨h3, h4.trans h2⟩

/-- Numbers that stay free behind a piece of a run. -/
theorem Fr.behind {D : Nat → Option Blk} {n n1 n2 : Nat} {h h1 : H} {ρ ρ1 : Rn} {w w1 : World} (f : Fr ρ h D n n2)
    (a : Ext D n h ρ w n1 h1 ρ1 w1) : Fr ρ1 h1 D n1 n2 where
  big := Nat.le_trans f.big a.nle
  blk := fun b hb hb' => by rw [(a.out b (by omega)).1]; exact f.blk b (Nat.le_trans a.nle hb) hb'
  emp := fun b hb hb' => by rw [(a.out b (by omega)).2]; exact f.emp b (Nat.le_trans a.nle hb) hb'
  h := fun b hb hb' => by
    cases hx : getB h1 b with
    | none => rfl
    | some k =>
      rcases a.dom b (by rw [hx]; simp) with h | h
      · exact absurd (f.h b (Nat.le_trans a.nle hb) hb') h
      · omega
  D := fun b hb hb' => f.D b (Nat.le_trans a.nle hb) hb'
theorem Fr.ahead {D : Nat → Option Blk} {n n1 n2 : Nat} {h : H} {ρ : Rn} (f : Fr ρ h D n n2) (hn : n1 ≤ n2) : Fr ρ h D n n1 :=
  ⟨f.big, fun b x y => f.blk b x (by omega), fun b x y => f.emp b x (by omega), fun b x y => f.h b x (by omega), fun b x y => f.D b x (by omega)⟩

end Go.Ex

/-! What becomes of the abstract heap's word on the world when a block is made, written, or taken over. -/
namespace Go.Ex

theorem getB_leaf (b : Nat) : getB .leaf b = none := PT.get_leaf _

theorem un_set {h : H} {D : Nat → Option Blk} {b : Nat} {k : Blk} (c : Nat) : un (PT.set (some k) (path b) h) D c = if c = b then some k else un h D c := by
  by_cases e : c = b
  · subst e; rw [if_pos rfl]; exact un_some (getB_set _ _ _)
  · rw [if_neg e]; unfold un; rw [getB_set_ne _ _ e]

theorem un_drop {h : H} {D : Nat → Option Blk} {b : Nat} (hD : D b = none) (c : Nat) : un (PT.set none (path b) h) D c = if c = b then none else un h D c := by
  by_cases e : c = b
  · subst e; rw [if_pos rfl, un_none (getB_set _ _ _), hD]
  · rw [if_neg e]; unfold un; rw [getB_set_ne _ _ e]

def Rn.put (ρ : Rn) (n : Nat) (p : Pl) : Rn := ⟨fun b => if b = n then some p else ρ.blk b, ρ.emp⟩
def Rn.putE (ρ : Rn) (n : Nat) (x : Addr × Nat) : Rn := ⟨ρ.blk, fun b => if b = n then some x else ρ.emp b⟩

theorem Rn.put_le {ρ : Rn} {n : Nat} {p : Pl} (h : ρ.blk n = none) : ρ.le (ρ.put n p) :=
  ⟨fun b x e => by
    show (if b = n then some p else ρ.blk b) = some x
    by_cases hb : b = n
    · subst hb; rw [h] at e; cases e
    · rw [if_neg hb]; exact e, fun _ _ e => e⟩
theorem Rn.putE_le {ρ : Rn} {n : Nat} {p : Addr × Nat} (h : ρ.emp n = none) : ρ.le (ρ.putE n p) :=
  ⟨fun _ _ e => e, fun b x e => by
    show (if b = n then some p else ρ.emp b) = some x
    by_cases hb : b = n
    · subst hb; rw [h] at e; cases e
    · rw [if_neg hb]; exact e⟩
theorem Rn.put_at (ρ : Rn) (n : Nat) (p : Pl) : (ρ.put n p).blk n = some p := if_pos rfl
theorem Rn.put_ne (ρ : Rn) {n b : Nat} (p : Pl) (h : b ≠ n) : (ρ.put n p).blk b = ρ.blk b := if_neg h
theorem Rn.putE_at (ρ : Rn) (n : Nat) (p : Addr × Nat) : (ρ.putE n p).emp n = some p := if_pos rfl
theorem Rn.putE_ne (ρ : Rn) {n b : Nat} (p : Addr × Nat) (h : b ≠ n) : (ρ.putE n p).emp b = ρ.emp b := if_neg h

/-- Of what is known one block is forgotten. -/
theorem Sim.sub {ρ : Rn} {F G : Nat → Option Blk} {w : World} (h : Sim ρ F w) (hs : ∀ b k, G b = some k → F b = some k) : Sim ρ G w :=
  ⟨fun b k e => h.ok b k (hs b k e), fun b b' k k' p p' e e' hp hp' hB => h.inj b b' k k' p p' (hs b k e) (hs b' k' e') hp hp' hB, h.glob⟩

/-- A block is made anew, or one that nobody else has is known by another number. -/
theorem Sim.add {ρ : Rn} {F : Nat → Option Blk} {w w' : World} {n : Nat} {p : Pl} {k : Blk} (h : Sim ρ F w) (big : 100 ≤ n) (fresh : ρ.blk n = none)
    (own : ∀ b k' q, F b = some k' → ρ.blk b = some q → q.B ≠ p.B) (same : ∀ b k' q, F b = some k' → ρ.blk b = some q → w'.heap[q.B]? = w.heap[q.B]?)
    (ok : BlkOk (ρ.put n p) w' n k) : Sim (ρ.put n p) (fun b => if b = n then some k else F b) w' where
  ok := fun b k' e => by
    by_cases hb : b = n
    · subst hb; rw [if_pos rfl] at e; cases e; exact ok
    · rw [if_neg hb] at e
      exact (h.ok b k' e).mono (Rn.put_le fresh) fun q hq => same b k' q e hq
  inj := fun b b' k1 k2 p1 p2 e1 e2 h1 h2 hB => by
    by_cases hb : b = n <;> by_cases hb' : b' = n
    · rw [hb, hb']
    · subst hb
      rw [if_neg hb'] at e2
      rw [Rn.put_at] at h1; cases h1
      rw [Rn.put_ne _ _ hb'] at h2
      exact absurd hB.symm (own b' k2 p2 e2 h2)
    · subst hb'
      rw [if_neg hb] at e1
      rw [Rn.put_at] at h2; cases h2
      rw [Rn.put_ne _ _ hb] at h1
      exact absurd hB (own b k1 p1 e1 h1)
    · rw [if_neg hb] at e1; rw [if_neg hb'] at e2
      rw [Rn.put_ne _ _ hb] at h1; rw [Rn.put_ne _ _ hb'] at h2
      exact h.inj b b' k1 k2 p1 p2 e1 e2 h1 h2 hB
  glob := fun g hg => by rw [Rn.put_ne _ _ (by omega)]; exact h.glob g hg

/-- A block is written. -/
theorem Sim.write {ρ : Rn} {F : Nat → Option Blk} {w w' : World} {b : Nat} {k k0 : Blk} {p : Pl} (h : Sim ρ F w) (hb : F b = some k0) (hp : ρ.blk b = some p)
    (same : ∀ X, X ≠ p.B → w'.heap[X]? = w.heap[X]?) (ok : BlkOk ρ w' b k) : Sim ρ (fun c => if c = b then some k else F c) w' where
  ok := fun c k' e => by
    by_cases hc : c = b
    · subst hc; rw [if_pos rfl] at e; cases e; exact ok
    · rw [if_neg hc] at e
      refine (h.ok c k' e).mono (Rn.le.refl _) fun q hq => same _ fun hB => hc ?_
      exact h.inj c b k' k0 q p e hb hq hp hB
  inj := fun c c' k1 k2 p1 p2 e1 e2 h1 h2 hB => by
    have r1 : ∃ k, F c = some k := by
      by_cases hc : c = b
      · subst hc; exact ⟨_, hb⟩
      · rw [if_neg hc] at e1; exact ⟨_, e1⟩
    have r2 : ∃ k, F c' = some k := by
      by_cases hc : c' = b
      · subst hc; exact ⟨_, hb⟩
      · rw [if_neg hc] at e2; exact ⟨_, e2⟩
    obtain ⟨_, r1⟩ := r1; obtain ⟨_, r2⟩ := r2
    exact h.inj c c' _ _ p1 p2 r1 r2 h1 h2 hB
  glob := h.glob

/-- the world with one more block -/
def World.push (w : World) (o : Obj) : World := { w with heap := w.heap.push o }

theorem push_old (w : World) (o : Obj) {X : Nat} (h : X < w.heap.size) : (World.push w o).heap[X]? = w.heap[X]? := by
  show (w.heap.push o)[X]? = _
  rw [Array.getElem?_push, if_neg (by omega)]
theorem push_new (w : World) (o : Obj) : (World.push w o).heap[w.heap.size]? = some o := by
  show (w.heap.push o)[w.heap.size]? = _
  rw [Array.getElem?_push, if_pos rfl]

theorem getElem?_lt {α : Type} {a : Array α} {i : Nat} {x : α} (h : a[i]? = some x) : i < a.size := by
  rcases Nat.lt_or_ge i a.size with h' | h'
  · exact h'
  · rw [Array.getElem?_eq_none h'] at h; cases h

theorem Sim.lt {ρ : Rn} {F : Nat → Option Blk} {w : World} (h : Sim ρ F w) {b : Nat} {k : Blk} {p : Pl} (e : F b = some k) (hp : ρ.blk b = some p) : p.B < w.heap.size := by
  obtain ⟨q, hq, hlt⟩ := (h.ok b k e).at
  rw [hp] at hq; cases hq; exact hlt

/-- A NEW BLOCK: behind it the run goes on with one number more. -/
theorem Ext.alloc {D : Nat → Option Blk} {n : Nat} {h : H} {ρ : Rn} {w : World} {w' : World} {o : Obj} {k : Blk} {p : Pl} (hs : Sim ρ (un h D) w) (fr : Fr ρ h D n (n + 1))
    (hp : p.B = w.heap.size) (hw : w'.heap = w.heap.push o) (ho : w'.os = w.os) (ht : w'.tape = w.tape) (hu : w'.output = w.output)
    (ok : ∀ w'' : World, w''.heap[p.B]? = some o → BlkOk (ρ.put n p) w'' n k) :
    Ext D n h ρ w (n + 1) (PT.set (some k) (path n) h) (ρ.put n p) w' where
  nle := by omega
  le := Rn.put_le (fr.blk n (Nat.le_refl _) (by omega))
  out := fun b hb => ⟨Rn.put_ne _ _ (by omega), rfl⟩
  sim := by
    have e : un (PT.set (some k) (path n) h) D = fun b => if b = n then some k else un h D b := funext fun b => un_set b
    rw [e]
    refine hs.add fr.big (fr.blk n (Nat.le_refl _) (by omega)) (fun b k' q hb hq => ?_) (fun b k' q hb hq => ?_) (ok w' ?_)
    · have := hs.lt hb hq; omega
    · have := hs.lt hb hq
      rw [hw, Array.getElem?_push, if_neg (by omega)]
    · rw [hw, hp, Array.getElem?_push, if_pos rfl]
  dom := fun b hb => by
    by_cases e : b = n
    · exact .inr (by omega)
    · exact .inl (by rwa [getB_set_ne _ _ e] at hb)
  size := by rw [hw]; simp
  keep := fun X hX _ => by rw [hw, Array.getElem?_push, if_neg (by omega)]
  img := fun b q hb hq => by
    by_cases e : b = n
    · subst e; rw [Rn.put_at] at hq; cases hq; exact .inl (by omega)
    · rw [getB_set_ne _ _ e] at hb; rw [Rn.put_ne _ _ e] at hq
      exact .inr ⟨b, q, hb, hq, rfl⟩
  os := ho
  tape := ht
  output := hu
  ro := fun g hg hn => by
    have hb := fr.big
    have hne : g ≠ n := by omega
    obtain ⟨c, hc⟩ := Option.ne_none_iff_exists'.1 hn
    have hlt := hs.lt (un_some hc) (hs.glob g hg)
    simp only at hlt
    exact ⟨by rw [getB_set_ne _ _ hne]; exact hn, by rw [hw, Array.getElem?_push, if_neg (by omega)]⟩

/-- A BLOCK IS WRITTEN. -/
theorem Ext.write {D : Nat → Option Blk} {n : Nat} {h : H} {ρ : Rn} {w w' : World} {b : Nat} {k k0 : Blk} {p : Pl} (hs : Sim ρ (un h D) w) (hb : getB h b = some k0) (h100 : 100 ≤ b) (hp : ρ.blk b = some p)
    (same : ∀ X, X ≠ p.B → w'.heap[X]? = w.heap[X]?) (hz : w'.heap.size = w.heap.size) (ho : w'.os = w.os) (ht : w'.tape = w.tape) (hu : w'.output = w.output)
    (ok : BlkOk ρ w' b k) : Ext D n h ρ w n (PT.set (some k) (path b) h) ρ w' where
  nle := Nat.le_refl _
  le := Rn.le.refl ρ
  out := fun _ _ => ⟨rfl, rfl⟩
  sim := by
    have e : un (PT.set (some k) (path b) h) D = fun c => if c = b then some k else un h D c := funext fun c => un_set c
    rw [e]
    exact hs.write (un_some hb) hp same ok
  dom := fun c hc => by
    by_cases e : c = b
    · subst e; exact .inl (by rw [hb]; simp)
    · exact .inl (by rwa [getB_set_ne _ _ e] at hc)
  size := by omega
  keep := fun X _ hn => same X fun e => hn b p (by rw [hb]; simp) hp e.symm
  img := fun c q hc hq => by
    by_cases e : c = b
    · subst e; exact .inr ⟨c, q, by rw [hb]; simp, hq, rfl⟩
    · rw [getB_set_ne _ _ e] at hc
      exact .inr ⟨c, q, hc, hq, rfl⟩
  os := ho
  tape := ht
  output := hu
  ro := fun g hg hn => by
    have hne : g ≠ b := by omega
    obtain ⟨c, hc⟩ := Option.ne_none_iff_exists'.1 hn
    exact ⟨by rw [getB_set_ne _ _ hne]; exact hn, same g fun e => hne (hs.inj g b c k0 _ p (un_some hc) (un_some hb) (hs.glob g hg) hp e)⟩

/-- A BLOCK IS TAKEN OVER: the old number is no more, a new one is known: in the same block, or in a new one. -/
theorem Ext.take {D : Nat → Option Blk} {n : Nat} {h : H} {ρ : Rn} {w w' : World} {b : Nat} {k k0 : Blk} {p q : Pl} (hs : Sim ρ (un h D) w) (fr : Fr ρ h D n (n + 1)) (hb : getB h b = some k0)
    (hD : D b = none) (h100 : 100 ≤ b) (hp : ρ.blk b = some p) (hq : q.B = p.B ∨ q.B = w.heap.size)
    (same : ∀ X, X < w.heap.size → X ≠ q.B → w'.heap[X]? = w.heap[X]?) (hz : w.heap.size ≤ w'.heap.size) (ho : w'.os = w.os) (ht : w'.tape = w.tape) (hu : w'.output = w.output)
    (ok : BlkOk (ρ.put n q) w' n k) : Ext D n h ρ w (n + 1) (PT.set (some k) (path n) (PT.set none (path b) h)) (ρ.put n q) w' where
  nle := by omega
  le := Rn.put_le (fr.blk n (Nat.le_refl _) (by omega))
  out := fun c hc => ⟨Rn.put_ne _ _ (by omega), rfl⟩
  sim := by
    have e : un (PT.set (some k) (path n) (PT.set none (path b) h)) D = fun c => if c = n then some k else (fun c => if c = b then none else un h D c) c := by
      funext c; rw [un_set, un_drop hD]
    rw [e]
    have hs' : Sim ρ (fun c => if c = b then none else un h D c) w := hs.sub fun c k' hk => by
      by_cases e : c = b
      · rw [if_pos e] at hk; cases hk
      · rwa [if_neg e] at hk
    have apart : ∀ c k' r, (if c = b then none else un h D c) = some k' → ρ.blk c = some r → r.B ≠ q.B := fun c k' r hc hr => by
      by_cases e : c = b
      · rw [if_pos e] at hc; cases hc
      · rw [if_neg e] at hc
        have hlt := hs.lt hc hr
        intro hB
        rcases hq with hq | hq
        · exact e (hs.inj c b k' k0 r p hc (un_some hb) hr hp (hB.trans hq))
        · omega
    refine hs'.add fr.big (fr.blk n (Nat.le_refl _) (by omega)) apart (fun c k' r hc hr => ?_) ok
    refine same _ ?_ (apart c k' r hc hr)
    exact hs'.lt hc hr
  dom := fun c hc => by
    by_cases e : c = n
    · exact .inr (by omega)
    · rw [getB_set_ne _ _ e] at hc
      by_cases e' : c = b
      · subst e'; exact .inl (by rw [hb]; simp)
      · exact .inl (by rwa [getB_set_ne _ _ e'] at hc)
  size := hz
  keep := fun X hX hn => same X hX fun e => by
    rcases hq with hq | hq
    · exact hn b p (by rw [hb]; simp) hp (by omega)
    · omega
  img := fun c r hc hr => by
    by_cases e : c = n
    · subst e; rw [Rn.put_at] at hr; cases hr
      rcases hq with hq | hq
      · exact .inr ⟨b, p, by rw [hb]; simp, hp, hq.symm⟩
      · exact .inl (by omega)
    · rw [getB_set_ne _ _ e] at hc; rw [Rn.put_ne _ _ e] at hr
      by_cases e' : c = b
      · subst e'; rw [getB_set] at hc; exact absurd rfl hc
      · rw [getB_set_ne _ _ e'] at hc
        exact .inr ⟨c, r, hc, hr, rfl⟩
  os := ho
  tape := ht
  output := hu
  ro := fun g hg hn => by
    have hbig := fr.big
    have hne : g ≠ b := by omega
    have hne' : g ≠ n := by omega
    obtain ⟨c, hc⟩ := Option.ne_none_iff_exists'.1 hn
    have hlt := hs.lt (un_some hc) (hs.glob g hg)
    simp only at hlt
    refine ⟨by rw [getB_set_ne _ _ hne', getB_set_ne _ _ hne]; exact hn, same g hlt fun e => ?_⟩
    rcases hq with hq | hq
    · exact hne (hs.inj g b c k0 _ p (un_some hc) (un_some hb) (hs.glob g hg) hp (e.trans hq))
    · omega

/-- A name for an empty slice. -/
theorem Ext.empty {D : Nat → Option Blk} {n : Nat} {h : H} {ρ : Rn} {w w' : World} (hs : Sim ρ (un h D) w) (fr : Fr ρ h D n (n + 1)) (x : Addr × Nat) (e : SameW w w') :
    Ext D n h ρ w (n + 1) h (ρ.putE n x) w' where
  nle := by omega
  le := Rn.putE_le (fr.emp n (Nat.le_refl _) (by omega))
  out := fun c hc => ⟨rfl, Rn.putE_ne _ _ (by omega)⟩
  sim := ⟨fun b k hb => (hs.ok b k hb).mono (Rn.putE_le (fr.emp n (Nat.le_refl _) (by omega))) fun _ _ => by rw [e.heap], hs.inj, hs.glob⟩
  dom := fun c hc => .inl hc
  size := by rw [e.heap]; exact Nat.le_refl _
  keep := fun X _ _ => by rw [e.heap]
  img := fun c r hc hr => .inr ⟨c, r, hc, hr, rfl⟩
  os := e.os
  tape := e.tape
  output := e.output
  ro := fun g hg hn => ⟨hn, by rw [e.heap]⟩

end Go.Ex

/-! Operands: what the abstract frame says of the frame. -/
namespace Go.Ex

/-- The frame's variables, as far as they are known. -/
def FrameOk (ρ : Rn) (m : M) (a : Act) : Prop := ∀ t v, m.get t = some v → ∃ V, cv ρ v = some V ∧ a.tmps[t]? = some V

theorem FrameOk.mono {ρ ρ' : Rn} {m : M} {a : Act} (h : FrameOk ρ m a) (hl : ρ.le ρ') : FrameOk ρ' m a := fun t v e => by
  obtain ⟨V, h1, h2⟩ := h t v e
  exact ⟨V, cv_mono hl _ _ h1, h2⟩

theorem FrameOk.set {ρ : Rn} {m : M} {a : Act} (h : FrameOk ρ m a) {d : Nat} {v : AV} {V : Value} (hv : cv ρ v = some V) (hd : d < a.tmps.size) :
    FrameOk ρ (m.set d v) (a.put (some d) V) := fun t u e => by
  by_cases ht : t = d
  · subst ht
    rw [M.get_set] at e; cases e
    refine ⟨V, hv, ?_⟩
    show (a.tmps.setIfInBounds t V)[t]? = some V
    rw [Array.getElem?_setIfInBounds_self, if_pos hd]
  · rw [M.get_set_ne _ _ ht] at e
    obtain ⟨W, h1, h2⟩ := h t u e
    refine ⟨W, h1, ?_⟩
    show (a.tmps.setIfInBounds d V)[t]? = some W
    rw [Array.getElem?_setIfInBounds_ne (fun e => ht e.symm)]; exact h2

theorem FrameOk.putO {ρ : Rn} {m : M} {a : Act} (h : FrameOk ρ m a) {dst : Option Nat} {v : AV} {V : Value} (hv : cv ρ v = some V) (hd : ∀ d, dst = some d → d < a.tmps.size) :
    FrameOk ρ (putT m dst v) (a.put dst V) := by
  cases dst with
  | none => exact h
  | some d => exact h.set hv (hd d rfl)

theorem FrameOk.fresh {ρ : Rn} {m : M} {a : Act} (h : FrameOk ρ m a) : FrameOk ρ m.fresh a := by
  obtain ⟨ps, tm, lc⟩ := m
  intro t v e
  exact h t v (M.get_fresh e)

theorem put_size (a : Act) (dst : Option Nat) (V : Value) : (a.put dst V).tmps.size = a.tmps.size := by
  cases dst with
  | none => rfl
  | some d => exact Array.size_setIfInBounds

/-! Constants. -/
theorem toNat_lt (b : UInt8) : b.toNat < 256 := b.toNat_lt

theorem toBA_back (s : ByteArray) : toBA (s.data.toList.map UInt8.toNat) = s := by
  obtain ⟨⟨l⟩⟩ := s
  show ByteArray.mk (((l.map UInt8.toNat).map UInt8.ofNat).toArray) = _
  rw [List.map_map]
  have : (UInt8.ofNat ∘ UInt8.toNat) = id := by funext b; simp
  rw [this, List.map_id]

theorem bytesIn_back (s : ByteArray) : bytesIn (s.data.toList.map UInt8.toNat) := by
  intro x hx
  obtain ⟨b, _, rfl⟩ := List.mem_map.1 hx
  exact toNat_lt b

mutual
theorem ofC_ok (ρ : Rn) : ∀ (v : Value) (a : AV), ofC v = some a → cv ρ a = some v
  | .bool b, a, h => by simp only [ofC, Option.some.injEq] at h; subst h; rw [cv]
  | .int k (.ofNat n), a, h => by simp only [ofC, Option.some.injEq] at h; subst h; rw [cv]
  | .int k (.negSucc n), a, h => by simp only [ofC, Option.some.injEq] at h; subst h; rw [cv]
  | .float k b, a, h => by simp only [ofC, Option.some.injEq] at h; subst h; rw [cv]
  | .complex .., a, h => by simp [ofC] at h
  | .string s, a, h => by
    simp only [ofC, Option.some.injEq] at h; subst h
    rw [cv, if_pos (bytesIn_back s), toBA_back]
  | .pointer none, a, h => by simp only [ofC, Option.some.injEq] at h; subst h; rw [cv]
  | .pointer (some _), a, h => by simp [ofC] at h
  | .slice none 0 0, a, h => by simp only [ofC, Option.some.injEq] at h; subst h; rw [cv]
  | .slice none 0 (_ + 1), a, h => by simp [ofC] at h
  | .slice none (_ + 1) _, a, h => by simp [ofC] at h
  | .slice (some _) _ _, a, h => by simp [ofC] at h
  | .map none, a, h => by simp only [ofC, Option.some.injEq] at h; subst h; rw [cv]
  | .map (some _), a, h => by simp [ofC] at h
  | .chan _, a, h => by simp [ofC] at h
  | .func .., a, h => by simp [ofC] at h
  | .nilFunc, a, h => by simp only [ofC, Option.some.injEq] at h; subst h; rw [cv]
  | .iface .., a, h => by simp [ofC] at h
  | .nilIface, a, h => by simp only [ofC, Option.some.injEq] at h; subst h; rw [cv]
  | .agg ⟨l⟩, a, h => by
    simp only [ofC, Option.map_eq_some_iff] at h
    obtain ⟨as, h1, rfl⟩ := h
    rw [cv, ofCs_ok ρ l as h1]
  | .tuple ⟨l⟩, a, h => by
    simp only [ofC, Option.map_eq_some_iff] at h
    obtain ⟨as, h1, rfl⟩ := h
    rw [cv, ofCs_ok ρ l as h1]
theorem ofCs_ok (ρ : Rn) : ∀ (l : List Value) (as : List AV), ofCs l = some as → cvs ρ as = some l
  | [], as, h => by simp only [ofCs, Option.some.injEq] at h; subst h; rw [cvs]
  | v :: vs, as, h => by
    rw [ofCs] at h
    cases ha : ofC v with
    | none => rw [ha] at h; cases h
    | some x => cases hb : ofCs vs with
      | none => rw [ha, hb] at h; cases h
      | some y =>
        rw [ha, hb] at h; cases h
        exact cvs_mk (ofC_ok ρ v x ha) (ofCs_ok ρ vs y hb)
end

/-- The globals stand where they stand. -/
def Glob (ρ : Rn) : Prop := ∀ g, g < 100 → ρ.blk g = some ⟨g, 0, 0, 0⟩

theorem ev_ok {ρ : Rn} {m : M} {a : Act} (hf : FrameOk ρ m a) (hg : Glob ρ) {x : Operand} {v : AV} (h : ev x m = some v) : cv ρ v = some (a.eval x) := by
  cases x with
  | tmp t =>
    obtain ⟨V, h1, h2⟩ := hf t v h
    rw [h1]
    show some V = some (a.tmps.getD t undef)
    rw [Array.getD_eq_getD_getElem?, h2]; rfl
  | const u =>
    have h' : Option.rec (motive := fun _ => Option AV) none some (ofC u) = some v := h
    cases hc : ofC u with
    | none => rw [hc] at h'; cases h'
    | some y => rw [hc] at h'; cases h'; exact ofC_ok ρ u _ hc
  | global g =>
    have h' : Bool.rec (motive := fun _ => Option AV) none (some (.ptr g 0)) (Nat.blt g 100) = some v := h
    cases hc : Nat.blt g 100 with
    | false => rw [hc] at h'; cases h'
    | true =>
      rw [hc] at h'; cases h'
      have hlt : g < 100 := by simpa [Nat.blt_eq] using hc
      rw [cv, hg g hlt]; rfl
  | func f =>
    cases h
    rw [cv, cvs]; rfl

theorem w1_some {o : Option AV} {f : AV → OR} {r : OR} (h : w1 o f = r) : (o = none ∧ r = .no) ∨ ∃ v, o = some v ∧ f v = r := by
  cases o with
  | none => exact .inl ⟨rfl, h.symm⟩
  | some v => exact .inr ⟨v, rfl, h⟩

/-- What an operation that comes to a value, or to nothing, does. -/
def Runs (P : Program) (o : Oper) (a : Act) (w : World) (V : Value) (w' : World) : Prop :=
  (execOp a.eval o).run P w = .ok (.value V) w' ∨ ((execOp a.eval o).run P w = .ok .skip w' ∧ V = undef)

/-- THE WORD OF AN ABSTRACT OPERATION ON THE OPERATION. -/
def OkR (P : Program) (D : Nat → Option Blk) (n : Nat) (h : H) (ρ : Rn) (w : World) (o : Oper) (a : Act) : OR → Prop
  | .no => True
  | .ok v ws => ∃ w' V, Runs P o a w V w' ∧ cv ρ v = some V ∧ Ext D n h ρ w n (applyW h ws) ρ w'
  | .new v ws => Fr ρ h D n (n + 1) → ∃ ρ' w' V, Runs P o a w V w' ∧ cv ρ' v = some V ∧ Ext D n h ρ w (n + 1) (applyW h ws) ρ' w'

/-- what stands at the beginning of an operation -/
structure Pre (P : Program) (D : Nat → Option Blk) (h : H) (ρ : Rn) (w : World) (m : M) (a : Act) : Prop where
  sim : Sim ρ (un h D) w
  dis : ∀ b, D b ≠ none → getB h b = none
  fr : FrameOk ρ m a

theorem Pre.ev {P : Program} {D : Nat → Option Blk} {h : H} {ρ : Rn} {w : World} {m : M} {a : Act} (p : Pre P D h ρ w m a) {x : Operand} {v : AV} (e : Ex.ev x m = some v) :
    cv ρ v = some (a.eval x) := ev_ok p.fr p.sim.glob e

theorem okR_pure {P : Program} {D : Nat → Option Blk} {n : Nat} {h : H} {ρ : Rn} {w : World} {m : M} {o : Oper} {a : Act} (p : Pre P D h ρ w m a) {v : AV} {V : Value} {w' : World}
    (hr : (execOp a.eval o).run P w = .ok (.value V) w') (hw : SameW w w') (hv : cv ρ v = some V) : OkR P D n h ρ w o a (.ok v []) :=
  ⟨w', V, .inl hr, hv, Ext.same p.sim hw⟩

theorem okR_ofO {P : Program} {D : Nat → Option Blk} {n : Nat} {h : H} {ρ : Rn} {w : World} {o : Oper} {a : Act} {x : Option AV}
    (hx : ∀ v, x = some v → OkR P D n h ρ w o a (.ok v [])) : OkR P D n h ρ w o a (ofO x) := by
  cases x with
  | none => trivial
  | some v => exact hx v rfl

theorem okR_w1 {P : Program} {D : Nat → Option Blk} {n : Nat} {h : H} {ρ : Rn} {w : World} {m : M} {o : Oper} {a : Act} (p : Pre P D h ρ w m a) {x : Operand} {f : AV → OR}
    (hx : ∀ v, cv ρ v = some (a.eval x) → OkR P D n h ρ w o a (f v)) : OkR P D n h ρ w o a (w1 (ev x m) f) := by
  cases e : ev x m with
  | none => trivial
  | some v => exact hx v (p.ev e)

end Go.Ex

/-! The operations one by one: numbers, addresses, reading. -/
namespace Go.Ex
section
variable {P : Program} {D : Nat → Option Blk} {n : Nat} {h : H} {ρ : Rn} {w : World} {m : M} {o : Oper} {a : Act}

theorem rU {t : TypeId} {d : TypeDesc} (e : P.underlying t = some d) : (underlying t).run P w = .ok d w := by simp [underlying, e]
theorem rI {t : TypeId} {i : TypeInfo} (e : P.info? t = some i) : (typeInfo t).run P w = .ok i w := by simp [typeInfo, e]
theorem has_info {t : TypeId} (e : thas P t = true) : ∃ i, P.info? t = some i ∧ tsz P t = i.size := by
  unfold thas at e
  cases hi : P.info? t with
  | none => rw [hi] at e; cases e
  | some i => exact ⟨i, rfl, by unfold tsz; rw [hi]; rfl⟩
theorem rS {t : TypeId} (e : thas P t = true) : (sizeOf t).run P w = .ok (tsz P t) w := by
  obtain ⟨i, hi, hs⟩ := has_info e
  simp [sizeOf, rI hi, hs]
theorem rAgg {t : TypeId} (e : tsome P t = true) : (isAgg t).run P w = .ok (tagg P t) w := by
  unfold tsome at e
  cases hd : P.underlying t with
  | none => rw [hd] at e; cases e
  | some d =>
    unfold isAgg tagg
    rw [hd]
    cases d <;> simp [rU hd]
theorem agg_some {t : TypeId} (e : tagg P t = true) : tsome P t = true := by
  unfold tagg at e; unfold tsome
  cases hd : P.underlying t with
  | none => rw [hd] at e; cases e
  | some d => rfl
theorem und_has {t : TypeId} (e : tsome P t = true) : thas P t = true := by
  unfold tsome at e; unfold thas
  cases hi : P.info? t with
  | none => rw [Program.underlying, hi] at e; cases e
  | some i => rfl
theorem rZ {t : TypeId} {z : AV} (e : tzero P t = some z) : ∃ Z, (zeroValue t).run P w = .ok Z w ∧ ofC Z = some z := by
  unfold tzero at e
  cases hi : P.info? t with
  | none => rw [hi] at e; cases e
  | some i =>
    rw [hi] at e
    cases hz : i.zero with
    | none => simp [hz] at e
    | some Z =>
      simp [hz] at e
      exact ⟨Z, by simp [zeroValue, rI hi, hz], e⟩

theorem run_v {s : Sem Value} {V : Value} {w' : World} (e : s.run P w = .ok V w') : (do pure (Next.value (← s)) : Sem Next).run P w = .ok (.value V) w' := by simp [e]
theorem run_u {s : Sem Unit} {w' : World} (e : s.run P w = .ok () w') : (do s; pure Next.skip : Sem Next).run P w = .ok .skip w' := by simp [e]

theorem add_none (B off j : Nat) : Addr.add ⟨B, off, none⟩ j = ⟨B, off + j, none⟩ := by
  unfold Addr.add
  split
  · rename_i e; subst e; rfl
  · rfl

/-! Reading. -/
theorem blt_lt {i n : Nat} (e : Nat.blt i n = true) : i < n := by simpa [Nat.blt_eq] using e

theorem cellOf_some {t : PT AV} {n i : Nat} {v : AV} (e : cellOf t n i = some v) : i < n ∧ PT.get (path i) t = some v := by
  have e' : Bool.rec (motive := fun _ => Option AV) none (PT.get (path i) t) (Nat.blt i n) = some v := e
  cases hb : Nat.blt i n with
  | false => rw [hb] at e'; cases e'
  | true => rw [hb] at e'; exact ⟨blt_lt hb, e'⟩

theorem cellsOf_some {t : PT AV} {n : Nat} : ∀ {m i : Nat} {vs : List AV}, cellsOf t n m i = some vs → vs.length = m ∧ ∀ j v, vs[j]? = some v → cellOf t n (i + j) = some v
  | 0, i, vs, e => by
    rw [cellsOf] at e; cases e
    exact ⟨rfl, fun j v hv => by simp at hv⟩
  | m + 1, i, vs, e => by
    rw [cellsOf] at e
    cases hc : cellOf t n i with
    | none => rw [hc] at e; cases e
    | some u =>
      rw [hc] at e
      cases hr : cellsOf t n m (Nat.succ i) with
      | none => rw [hr] at e; cases e
      | some us =>
        rw [hr] at e; cases e
        obtain ⟨h1, h2⟩ := cellsOf_some hr
        refine ⟨by simp [h1], fun j v hv => ?_⟩
        cases j with
        | zero => simp at hv; subst hv; exact hc
        | succ j =>
          have := h2 j v (by simpa using hv)
          rwa [show i + (j + 1) = Nat.succ i + j from by omega]

/-- a block of cells, as it lies -/
structure CellsAt (ρ : Rn) (w : World) (b el n : Nat) (t : PT AV) (p : Pl) (C : Array Value) (fz : Nat × Nat) : Prop where
  hp : ρ.blk b = some p
  hw : w.heap[p.B]? = some (.cells C el fz)
  hn : p.d + n ≤ C.size
  hc : p.d + p.c * p.z ≤ C.size
  hz : fz.1 = fz.2 ∨ C.size ≤ fz.1
  cell : ∀ i v, i < n → PT.get (path i) t = some v → ∃ V, cv ρ v = some V ∧ C[p.d + i]? = some V

theorem Sim.cells (hs : Sim ρ (un h D) w) {b el n : Nat} {t : PT AV} (e : getB h b = some (.cells el n t)) : ∃ p C fz, CellsAt ρ w b el n t p C fz := by
  obtain ⟨p, C, fz, h1, h2, h3, h4, h5, h6⟩ := hs.ok b _ (un_some e)
  exact ⟨p, C, fz, h1, h2, h3, h4, h5, h6⟩

theorem CellsAt.read {b el n : Nat} {t : PT AV} {p : Pl} {C : Array Value} {fz : Nat × Nat} (k : CellsAt ρ w b el n t p C fz) {i : Nat} {v : AV} (e : cellOf t n i = some v) :
    ∃ V, cv ρ v = some V ∧ w.cell? ⟨p.B, p.d + i, none⟩ = some V := by
  obtain ⟨h1, h2⟩ := cellOf_some e
  obtain ⟨V, h3, h4⟩ := k.cell i v h1 h2
  exact ⟨V, h3, by simp [World.cell?, k.hw, h4]⟩

theorem CellsAt.reads {b el n : Nat} {t : PT AV} {p : Pl} {C : Array Value} {fz : Nat × Nat} (k : CellsAt ρ w b el n t p C fz) :
    ∀ (vs : List AV) (i : Nat), (∀ j v, vs[j]? = some v → cellOf t n (i + j) = some v) →
      ∃ Vs, cvs ρ vs = some Vs ∧ Vs.length = vs.length ∧ ∀ j V, Vs[j]? = some V → w.cell? ⟨p.B, p.d + (i + j), none⟩ = some V
  | [], i, _ => ⟨[], cvs_nil ρ, rfl, fun j V hV => by simp at hV⟩
  | v :: vs, i, hc => by
    obtain ⟨V, h1, h2⟩ := k.read (hc 0 v (by simp))
    obtain ⟨Vs, h3, h4, h5⟩ := k.reads vs (i + 1) fun j u hu => by
      have := hc (j + 1) u (by simpa using hu)
      rwa [show i + (j + 1) = i + 1 + j from by omega] at this
    refine ⟨V :: Vs, cvs_mk h1 h3, by simp [h4], fun j U hU => ?_⟩
    cases j with
    | zero => simp at hU; subst hU; exact h2
    | succ j =>
      have := h5 j U (by simpa using hU)
      rwa [show i + (j + 1) = i + 1 + j from by omega]

theorem CellsAt.loads {b el n : Nat} {t : PT AV} {p : Pl} {C : Array Value} {fz : Nat × Nat} (k : CellsAt ρ w b el n t p C fz) {m i : Nat} {vs : List AV} (e : cellsOf t n m i = some vs) :
    ∃ Vs, cvs ρ vs = some Vs ∧ Vs.length = m ∧ (loadCells ⟨p.B, p.d + i, none⟩ m).run P w = .ok Vs.toArray w := by
  obtain ⟨h1, h2⟩ := cellsOf_some e
  obtain ⟨Vs, h3, h4, h5⟩ := k.reads vs i h2
  refine ⟨Vs, h3, by omega, ?_⟩
  have hl : Vs.length = m := by omega
  rw [← hl]
  exact run_loadCells_list w _ Vs fun j V hV => by
    rw [add_none, Nat.add_assoc]; exact h5 j V hV

theorem asPtr_some {v : AV} {b off : Nat} (e : asPtr v = some (b, off)) : v = .ptr b off := by
  cases v <;> first | (cases e; rfl) | cases e
theorem asNat_some {v : AV} {k : IntKind} {x : Nat} (e : asNat v = some (k, x)) : v = .nat k x := by
  cases v <;> first | (cases e; rfl) | cases e

theorem loadA_some {t : TypeId} {v r : AV} (e : loadA P h t v = some r) : ∃ b off el n c, v = .ptr b off ∧ getB h b = some (.cells el n c) ∧
    ((tagg P t = true ∧ ∃ vs, cellsOf c n (tsz P t) off = some vs ∧ r = .agg vs) ∨ (tagg P t = false ∧ tsome P t = true ∧ cellOf c n off = some r)) := by
  unfold loadA at e
  cases hp : asPtr v with
  | none => rw [hp] at e; cases e
  | some bo =>
    obtain ⟨b, off⟩ := bo
    have hv := asPtr_some hp
    rw [hp] at e
    have e1 : Option.rec (motive := fun _ => Option AV) none (loadB P t off) (getB h b) = some r := e
    cases hb : getB h b with
    | none => rw [hb] at e1; cases e1
    | some k =>
      rw [hb] at e1
      cases k with
      | map _ _ => cases e1
      | iter _ _ => cases e1
      | cells el n c =>
        refine ⟨b, off, el, n, c, hv, hb, ?_⟩
        have e2 : Bool.rec (motive := fun _ => Option AV) (Bool.rec (motive := fun _ => Option AV) none (cellOf c n off) (tsome P t))
          (Option.rec (motive := fun _ => Option AV) none (fun vs => some (.agg vs)) (cellsOf c n (tsz P t) off)) (tagg P t) = some r := e1
        cases ha : tagg P t with
        | false =>
          rw [ha] at e2
          refine .inr ⟨rfl, ?_⟩
          have e3 : Bool.rec (motive := fun _ => Option AV) none (cellOf c n off) (tsome P t) = some r := e2
          cases hs : tsome P t with
          | false => rw [hs] at e3; cases e3
          | true => rw [hs] at e3; exact ⟨rfl, e3⟩
        | true =>
          rw [ha] at e2
          refine .inl ⟨rfl, ?_⟩
          have e3 : Option.rec (motive := fun _ => Option AV) none (fun vs => some (.agg vs)) (cellsOf c n (tsz P t) off) = some r := e2
          cases hc : cellsOf c n (tsz P t) off with
          | none => rw [hc] at e3; cases e3
          | some vs => rw [hc] at e3; exact ⟨vs, rfl, by cases e3; rfl⟩

theorem loadVar_ok (hs : Sim ρ (un h D) w) {t : TypeId} {v r : AV} (e : loadA P h t v = some r) :
    ∃ A V, cv ρ v = some (.pointer (some A)) ∧ cv ρ r = some V ∧ (loadVar t A).run P w = .ok V w := by
  obtain ⟨b, off, el, n, c, rfl, hb, hh⟩ := loadA_some e
  obtain ⟨p, C, fz, k⟩ := hs.cells hb
  refine ⟨⟨p.B, p.d + off, none⟩, ?_⟩
  have hv : cv ρ (.ptr b off) = some (.pointer (some ⟨p.B, p.d + off, none⟩)) := by rw [cv, k.hp]
  rcases hh with ⟨ha, vs, hc, rfl⟩ | ⟨ha, hso, hc⟩
  · obtain ⟨Vs, h1, h2, h3⟩ := k.loads (P := P) hc
    refine ⟨.agg Vs.toArray, hv, by rw [cv, h1], ?_⟩
    simp [loadVar, rAgg (agg_some ha), ha, rS (und_has (agg_some ha)), h3]
  · obtain ⟨V, h1, h2⟩ := k.read hc
    refine ⟨V, hv, h1, ?_⟩
    simp [loadVar, rAgg hso, ha, h2]

theorem oMove_ok (p : Pre P D h ρ w m a) {x : Operand} (ho : o.op = .move x ∨ o.op = .assign x) : OkR P D n h ρ w o a (oMove x P m h n) :=
  okR_ofO fun v e => okR_pure p (w' := w) (by rcases ho with ho | ho <;> simp [execOp, ho]) (SameW.refl w) (p.ev e)

theorem oLoad_ok (p : Pre P D h ρ w m a) {t : TypeId} {x : Operand} (ho : o.op = .load t x) : OkR P D n h ρ w o a (oLoad t x P m h n) :=
  okR_w1 p fun v hv => okR_ofO fun r e => by
    obtain ⟨A, V, h1, h2, h3⟩ := loadVar_ok p.sim e
    rw [h1] at hv
    refine okR_pure p (w' := w) ?_ (SameW.refl w) h2
    have : a.eval x = .pointer (some A) := (Option.some.inj hv).symm
    simp [execOp, ho, Instr.loadAt, this, Instr.sureAddr, h3]

end
end Go.Ex

/-! The operations one by one: addresses, parts, interface values. -/
namespace Go.Ex
section
variable {P : Program} {D : Nat → Option Blk} {n : Nat} {h : H} {ρ : Rn} {w : World} {m : M} {o : Oper} {a : Act}

theorem inj_some {α : Type} {x y : α} (e : some x = some y) : y = x := (Option.some.inj e).symm

theorem cvs_get {ρ : Rn} : ∀ {vs : List AV} {Vs : List Value} {i : Nat} {v : AV}, cvs ρ vs = some Vs → vs[i]? = some v → ∃ V, cv ρ v = some V ∧ Vs[i]? = some V
  | [], Vs, i, v, _, e => by simp at e
  | u :: us, Vs, i, v, hc, e => by
    obtain ⟨U, Us, h1, h2, rfl⟩ := cvs_cons hc
    cases i with
    | zero => simp at e; subst e; exact ⟨U, h1, by simp⟩
    | succ i => obtain ⟨V, h3, h4⟩ := cvs_get h2 (by simpa using e); exact ⟨V, h3, by simpa using h4⟩

theorem cvs_length {ρ : Rn} : ∀ {vs : List AV} {Vs : List Value}, cvs ρ vs = some Vs → Vs.length = vs.length
  | [], Vs, hc => by rw [cvs] at hc; cases hc; rfl
  | u :: us, Vs, hc => by
    obtain ⟨U, Us, h1, h2, rfl⟩ := cvs_cons hc
    simp [cvs_length h2]

theorem cv_ptr {b off : Nat} {V : Value} (e : cv ρ (.ptr b off) = some V) : ∃ p, ρ.blk b = some p ∧ V = .pointer (some ⟨p.B, p.d + off, none⟩) := by
  rw [cv] at e
  cases hb : ρ.blk b with
  | none => rw [hb] at e; cases e
  | some p => rw [hb] at e; exact ⟨p, rfl, by cases e; rfl⟩
theorem cv_ptr_mk {b off : Nat} {p : Pl} (e : ρ.blk b = some p) : cv ρ (.ptr b off) = some (.pointer (some ⟨p.B, p.d + off, none⟩)) := by rw [cv, e]
theorem cv_tup {l : List AV} {V : Value} (e : cv ρ (.tup l) = some V) : ∃ L, cvs ρ l = some L ∧ V = .tuple L.toArray := by
  rw [cv] at e
  cases hb : cvs ρ l with
  | none => rw [hb] at e; cases e
  | some p => rw [hb] at e; exact ⟨p, rfl, by cases e; rfl⟩
theorem cv_agg {l : List AV} {V : Value} (e : cv ρ (.agg l) = some V) : ∃ L, cvs ρ l = some L ∧ V = .agg L.toArray := by
  rw [cv] at e
  cases hb : cvs ρ l with
  | none => rw [hb] at e; cases e
  | some p => rw [hb] at e; exact ⟨p, rfl, by cases e; rfl⟩
theorem cv_ifc {t : Nat} {v : AV} {V : Value} (e : cv ρ (.ifc t v) = some V) : ∃ U, cv ρ v = some U ∧ V = .iface t U := by
  rw [cv] at e
  cases hb : cv ρ v with
  | none => rw [hb] at e; cases e
  | some p => rw [hb] at e; exact ⟨p, rfl, by cases e; rfl⟩
theorem cv_fn {f : Nat} {x c : List AV} {V : Value} (e : cv ρ (.fn f x c) = some V) : ∃ X C, cvs ρ x = some X ∧ cvs ρ c = some C ∧ V = .func (.func f) X.toArray C.toArray := by
  rw [cv] at e
  cases hx : cvs ρ x with
  | none => rw [hx] at e; cases e
  | some X => cases hc : cvs ρ c with
    | none => rw [hx, hc] at e; cases e
    | some C => rw [hx, hc] at e; exact ⟨X, C, rfl, rfl, by cases e; rfl⟩
theorem cv_map {b : Nat} {V : Value} (e : cv ρ (.map b) = some V) : ∃ p, ρ.blk b = some p ∧ V = .map (some p.B) := by
  rw [cv] at e
  cases hb : ρ.blk b with
  | none => rw [hb] at e; cases e
  | some p => rw [hb] at e; exact ⟨p, rfl, by cases e; rfl⟩
theorem cv_str {s : List Nat} {V : Value} (e : cv ρ (.str s) = some V) : bytesIn s ∧ V = .string (toBA s) := by
  rw [cv] at e
  split at e
  · rename_i hb; exact ⟨hb, by cases e; rfl⟩
  · cases e

theorem oNilCheck_ok (p : Pre P D h ρ w m a) {x : Operand} (ho : o.op = .nilCheck x) : OkR P D n h ρ w o a (oNilCheck x P m h n) :=
  okR_w1 p fun v hv => okR_ofO fun r e => by
    cases v <;> try (cases e; done)
    case ptr b off =>
      cases e
      obtain ⟨q, h1, h2⟩ := cv_ptr hv
      exact okR_pure p (w' := w) (V := a.eval _) (by simp [execOp, ho, h2]) (SameW.refl w) hv
    case map b =>
      cases e
      obtain ⟨q, h1, h2⟩ := cv_map hv
      exact okR_pure p (w' := w) (V := a.eval _) (by simp [execOp, ho, h2]) (SameW.refl w) hv
    case fn f x c =>
      cases e
      obtain ⟨X, C, h1, h2, h3⟩ := cv_fn hv
      exact okR_pure p (w' := w) (V := a.eval _) (by simp [execOp, ho, h3]) (SameW.refl w) hv

theorem oPick_ok (p : Pre P D h ρ w m a) {c x y : Operand} (ho : o.op = .pick c x y) : OkR P D n h ρ w o a (oPick c x y P m h n) :=
  okR_w1 p fun v hv => by
    cases v <;> try trivial
    case bool b =>
      have hb : a.eval c = .bool b := by rw [cv] at hv; exact inj_some hv
      cases b
      · exact okR_ofO fun r e => okR_pure p (w' := w) (by simp [execOp, ho, hb, asBool]) (SameW.refl w) (p.ev e)
      · exact okR_ofO fun r e => okR_pure p (w' := w) (by simp [execOp, ho, hb, asBool]) (SameW.refl w) (p.ev e)

theorem oExtract_ok (p : Pre P D h ρ w m a) {t : Operand} {i : Nat} (ho : o.op = .extract t i) : OkR P D n h ρ w o a (oExtract t i P m h n) :=
  okR_w1 p fun v hv => by
    cases v <;> try trivial
    case tup vs =>
      refine okR_ofO fun r e => ?_
      obtain ⟨L, h1, h2⟩ := cv_tup hv
      obtain ⟨V, h3, h4⟩ := cvs_get h1 e
      exact okR_pure p (w' := w) (by simp [execOp, ho, h2, Instr.extract, h4]) (SameW.refl w) h3

theorem fieldOff_some {s : TypeId} {f d : Nat} (e : fieldOff P s f = some d) : ∃ fs fd, P.underlying s = some (.struct fs) ∧ fs[f]? = some fd ∧ thas P fd.type = true ∧ tsz P fd.type ≠ 0 ∧ d = fd.offset := by
  unfold fieldOff at e
  split at e
  · rename_i fs hu
    split at e
    · rename_i fd hf
      split at e
      · cases e
      · rename_i hz
        split at e
        · rename_i hh
          exact ⟨fs, fd, hu, hf, hh, fun hc => (by rw [hc] at hz; cases hz), by cases e; rfl⟩
        · cases e
    · cases e
  · cases e

theorem ptrTo_eq (b off : Nat) : ptrTo b off = some (.ptr b off) := strictN_eq _ _

theorem fieldAddrA_some {s : TypeId} {x r : AV} {f : Nat} (e : fieldAddrA P s x f = some r) : ∃ b off d, x = .ptr b off ∧ fieldOff P s f = some d ∧ r = .ptr b (off + d) := by
  unfold fieldAddrA at e
  cases hp : asPtr x with
  | none => rw [hp] at e; cases e
  | some bo =>
    obtain ⟨b, off⟩ := bo
    rw [hp] at e
    have e1 : Option.rec (motive := fun _ => Option AV) none (fun d => ptrTo b (Nat.add off d)) (fieldOff P s f) = some r := e
    cases hf : fieldOff P s f with
    | none => rw [hf] at e1; cases e1
    | some d =>
      rw [hf] at e1
      have e2 : ptrTo b (off + d) = some r := e1
      rw [ptrTo_eq] at e2
      exact ⟨b, off, d, asPtr_some hp, rfl, by cases e2; rfl⟩

theorem oFieldAddr_ok (p : Pre P D h ρ w m a) {s : TypeId} {x : Operand} {f : Nat} (ho : o.op = .fieldAddr s x f) : OkR P D n h ρ w o a (oFieldAddr s x f P m h n) :=
  okR_w1 p fun v hv => okR_ofO fun r e => by
    obtain ⟨b, off, d, rfl, hf, rfl⟩ := fieldAddrA_some e
    obtain ⟨q, h1, h2⟩ := cv_ptr hv
    obtain ⟨fs, fd, h3, h4, h5, h6, rfl⟩ := fieldOff_some hf
    refine okR_pure p (w' := w) (V := .pointer (some ⟨q.B, q.d + (off + fd.offset), none⟩)) ?_ (SameW.refl w) (cv_ptr_mk h1)
    simp [execOp, ho, h2, Instr.fieldAt, rU h3, h4, Instr.sureAddr, fieldPlace, rS h5, h6, add_none, Nat.add_assoc]

theorem slAt_some {sz : Nat} {x : AV} {b off len : Nat} {V : Value} (e : slAt sz x = some (b, off, len)) (hv : cv ρ x = some V) :
    ∃ q cap, ρ.blk b = some q ∧ V = .slice (some ⟨q.B, q.d + off, none⟩) len cap := by
  cases x <;> try (cases e; done)
  case sl b' off' len' cap' =>
    cases e
    rw [cv] at hv
    cases hb : ρ.blk b with
    | none => rw [hb] at hv; cases hv
    | some q => rw [hb] at hv; exact ⟨q, _, rfl, by cases hv; rfl⟩
  case slU b' k z len' =>
    rw [slAt] at e
    cases hz : Nat.beq z sz with
    | false => rw [hz] at e; cases e
    | true =>
      rw [hz] at e; cases e
      rw [cv] at hv
      cases hb : ρ.blk b with
      | none => rw [hb] at hv; cases hv
      | some q =>
        rw [hb] at hv
        refine ⟨q, q.c - k, rfl, ?_⟩
        dsimp only at hv
        split at hv
        · cases hv; rfl
        · cases hv

theorem elSz_some {t : TypeId} {l : Option Nat} {sz : Nat} (e : elSz P t = some (l, sz)) : (∃ len el, l = some len ∧ P.underlying t = some (.array len el) ∧ thas P el = true ∧ sz = tsz P el) ∨
    (∃ el, l = none ∧ P.underlying t = some (.slice el) ∧ thas P el = true ∧ sz = tsz P el) := by
  unfold elSz at e
  split at e
  · rename_i len el hu
    split at e
    · rename_i hh; cases e; exact .inl ⟨len, el, rfl, hu, hh, rfl⟩
    · cases e
  · rename_i el hu
    split at e
    · rename_i hh; cases e; exact .inr ⟨el, rfl, hu, hh, rfl⟩
    · cases e
  · cases e

theorem indexIn_some {b off len i sz : Nat} {r : AV} (e : indexIn b off len i sz = some r) : i < len ∧ r = .ptr b (off + i * sz) := by
  have e' : Bool.rec (motive := fun _ => Option AV) none (ptrTo b (off + i * sz)) (Nat.blt i len) = some r := e
  cases hb : Nat.blt i len with
  | false => rw [hb] at e'; cases e'
  | true =>
    rw [hb] at e'
    have e2 : ptrTo b (off + i * sz) = some r := e'
    rw [ptrTo_eq] at e2
    exact ⟨blt_lt hb, by cases e2; rfl⟩

theorem indexAddrA_some {t : TypeId} {x i r : AV} (e : indexAddrA P t x i = some r) : ∃ k j, i = .nat k j ∧
    ((∃ len el b off, P.underlying t = some (.array len el) ∧ thas P el = true ∧ x = .ptr b off ∧ j < len ∧ r = .ptr b (off + j * tsz P el)) ∨
     (∃ el b off len, P.underlying t = some (.slice el) ∧ thas P el = true ∧ slAt (tsz P el) x = some (b, off, len) ∧ j < len ∧ r = .ptr b (off + j * tsz P el))) := by
  unfold indexAddrA at e
  cases hi : asNat i with
  | none => rw [hi] at e; cases e
  | some kj =>
    obtain ⟨k, j⟩ := kj
    rw [hi] at e
    refine ⟨k, j, asNat_some hi, ?_⟩
    have e1 : Option.rec (motive := fun _ => Option AV) none (fun e => Prod.rec (motive := fun _ => Option AV) (fun l sz => Option.rec (motive := fun _ => Option AV) (indexSl j sz x) (fun len => indexArr j len sz x) l) e) (elSz P t) = some r := e
    cases hl : elSz P t with
    | none => rw [hl] at e1; cases e1
    | some ls =>
      obtain ⟨l, sz⟩ := ls
      rw [hl] at e1
      rcases elSz_some hl with ⟨len, el, rfl, h1, h2, rfl⟩ | ⟨el, rfl, h1, h2, rfl⟩
      · have e2 : Option.rec (motive := fun _ => Option AV) none (fun p => Prod.rec (motive := fun _ => Option AV) (fun b off => indexIn b off len j (tsz P el)) p) (asPtr x) = some r := e1
        cases hp : asPtr x with
        | none => rw [hp] at e2; cases e2
        | some bo =>
          obtain ⟨b, off⟩ := bo
          rw [hp] at e2
          obtain ⟨h3, h4⟩ := indexIn_some e2
          exact .inl ⟨len, el, b, off, h1, h2, asPtr_some hp, h3, h4⟩
      · have e2 : Option.rec (motive := fun _ => Option AV) none (fun p => Prod.rec (motive := fun _ => Option AV) (fun b q => Prod.rec (motive := fun _ => Option AV) (fun off len => indexIn b off len j (tsz P el)) q) p) (slAt (tsz P el) x) = some r := e1
        cases hp : slAt (tsz P el) x with
        | none => rw [hp] at e2; cases e2
        | some bo =>
          obtain ⟨b, off, len⟩ := bo
          rw [hp] at e2
          obtain ⟨h3, h4⟩ := indexIn_some e2
          exact .inr ⟨el, b, off, len, h1, h2, hp, h3, h4⟩

theorem cv_nat {k : IntKind} {x : Nat} {V : Value} (e : cv ρ (.nat k x) = some V) : V = .int k (.ofNat x) := by rw [cv] at e; exact inj_some e

theorem oIndexAddr_ok (p : Pre P D h ρ w m a) {t : TypeId} {x i : Operand} (ho : o.op = .indexAddr t x i) : OkR P D n h ρ w o a (oIndexAddr t x i P m h n) :=
  okR_w1 p fun v hv => okR_w1 p fun u hu => okR_ofO fun r e => by
    obtain ⟨k, j, rfl, hh⟩ := indexAddrA_some e
    have hj := cv_nat hu
    rcases hh with ⟨len, el, b, off, h1, h2, rfl, h3, rfl⟩ | ⟨el, b, off, len, h1, h2, hx, h3, rfl⟩
    · obtain ⟨q, h5, h6⟩ := cv_ptr hv
      refine okR_pure p (w' := w) (V := .pointer (some ⟨q.B, q.d + (off + j * tsz P el), none⟩)) ?_ (SameW.refl w) (cv_ptr_mk h5)
      simp [execOp, ho, Instr.indexAt, hj, asIntOf, rU h1, h6, Instr.sureAddr, rS h2, add_none, Nat.add_assoc]
      omega
    · obtain ⟨q, cap, h5, h6⟩ := slAt_some hx hv
      refine okR_pure p (w' := w) (V := .pointer (some ⟨q.B, q.d + (off + j * tsz P el), none⟩)) ?_ (SameW.refl w) (cv_ptr_mk h5)
      simp [execOp, ho, Instr.indexAt, hj, asIntOf, rU h1, h6, Instr.sureAddr, rS h2, add_none, Nat.add_assoc]
      omega

end
end Go.Ex
