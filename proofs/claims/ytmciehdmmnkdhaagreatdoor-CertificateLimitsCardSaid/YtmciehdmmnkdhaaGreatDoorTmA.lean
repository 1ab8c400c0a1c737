/- The abstract machine on trees, part A. No statement of the seat is proved here. -/
import GoSem.Claims
import Derived.Calls
import Derived.Orders
set_option linter.unusedVariables false
set_option linter.unusedSimpArgs false
set_option linter.constructorNameAsVariable false
set_option linter.unusedSectionVars false
set_option linter.deprecated false
set_option linter.unnecessarySimpa false
/- The abstract machine: data as trees, variables and rows as named objects. No statement of the seat is proved here. -/
namespace Tm
open Go
set_option linter.unusedVariables false

/-- Data: values without addresses. se: an empty slice with room behind it; any other empty slice has none. -/
inductive D where
  | i (k : IntKind) (n : Int) | b (x : Bool) | s (x : ByteArray) | nif | se | sl (l : List D) | ag (l : List D)
  deriving Inhabited
/-- Values of the abstract machine. p: a variable or an element of a row (object, offset); pe: an address of cells that never change; zl: a slice without room behind it; bs: a slice that is only read; sl: a part of a row; mp: a map that is only read. -/
inductive AV where
  | d (x : D) | u | np | nm | nf
  | p (a o : Nat) | pe (l : List AV) (o : Nat) | zl (l : List D) | bs (l : List D) | sl (a lo n : Nat)
  | m (a : Nat) | mp (ks : List D) (vs : List AV)
  | f (g : Nat) (fst caps : List AV) | ag (l : List AV) | tu (l : List AV)
  deriving Inhabited
inductive Ob where
  | box (l : List AV) | row (sz : Nat) (l : List D) (fz : Bool) | map (ks : List D) (vs : List AV)
/-- Finite maps. -/
inductive T (α : Type) where
  | lf | nd (v : Option α) (l r : T α)
def T.get {α : Type} : T α → Nat → Option α
  | .lf, _ => none
  | .nd v l r, k => bif k == 0 then v else bif k % 2 == 1 then l.get (k / 2) else r.get (k / 2 - 1)
def T.put {α : Type} (x : Option α) : Nat → T α → Nat → T α
  | 0, t, _ => t
  | f + 1, .lf, k => bif k == 0 then .nd x .lf .lf else bif k % 2 == 1 then .nd none (T.put x f .lf (k / 2)) .lf else .nd none .lf (T.put x f .lf (k / 2 - 1))
  | f + 1, .nd v l r, k => bif k == 0 then .nd x l r else bif k % 2 == 1 then .nd v (T.put x f l (k / 2)) r else .nd v l (T.put x f r (k / 2 - 1))
def T.set {α : Type} (t : T α) (k : Nat) (x : α) : T α := t.put (some x) (k + 1) k
def T.del {α : Type} (t : T α) (k : Nat) : T α := t.put none (k + 1) k

theorem T.get_put {α : Type} (x : Option α) : ∀ (f : Nat) (t : T α) (k j : Nat), k < f → (t.put x f k).get j = if j = k then x else t.get j
  | 0, t, k, j, h => by omega
  | f + 1, t, k, j, h => by
    have hk : ∀ m, m < k → m < f := fun m hm => by omega
    have IH := fun (t : T α) (m j : Nat) (hm : m < k) => T.get_put x f t m j (hk m hm)
    by_cases h0 : k = 0
    · subst h0
      cases t <;> by_cases hj : j = 0
      · subst hj; simp [T.put, T.get]
      · have hj' : (j == 0) = false := by simpa using hj
        simp [T.put, T.get, hj', hj]
      · subst hj; simp [T.put, T.get]
      · have hj' : (j == 0) = false := by simpa using hj
        simp [T.put, T.get, hj', hj]
    · have h0' : (k == 0) = false := by simpa using h0
      by_cases h1 : k % 2 = 1
      · have h1' : (k % 2 == 1) = true := by simpa using h1
        have e1 : k / 2 < k := by omega
        cases t <;> simp only [T.put, h0', h1', cond_true, cond_false, T.get] <;> by_cases hj : j = 0
        all_goals (try subst hj) <;> (try (have hj' : (j == 0) = false := by simpa using hj)) <;> simp only [beq_self_eq_true, cond_true, *]
        all_goals (try (rw [if_neg (by omega)]))
        all_goals by_cases j1 : j % 2 = 1
        all_goals (first | (have j1' : (j % 2 == 1) = true := by simpa using j1) | (have j1' : (j % 2 == 1) = false := by simpa using j1))
        all_goals simp only [j1', cond_true, cond_false]
        all_goals (try rw [IH _ _ _ e1])
        all_goals (try simp only [T.get])
        all_goals (by_cases hjk : j = k)
        all_goals (first | (subst hjk; simp_all; done) | (rw [if_neg (by omega), if_neg hjk]) | (rw [if_neg hjk]) | skip)
      · have h1' : (k % 2 == 1) = false := by simpa using h1
        have e1 : k / 2 - 1 < k := by omega
        cases t <;> simp only [T.put, h0', h1', cond_true, cond_false, T.get] <;> by_cases hj : j = 0
        all_goals (try subst hj) <;> (try (have hj' : (j == 0) = false := by simpa using hj)) <;> simp only [beq_self_eq_true, cond_true, *]
        all_goals (try (rw [if_neg (by omega)]))
        all_goals by_cases j1 : j % 2 = 1
        all_goals (first | (have j1' : (j % 2 == 1) = true := by simpa using j1) | (have j1' : (j % 2 == 1) = false := by simpa using j1))
        all_goals simp only [j1', cond_true, cond_false]
        all_goals (try rw [IH _ _ _ e1])
        all_goals (try simp only [T.get])
        all_goals (by_cases hjk : j = k)
        all_goals (first | (subst hjk; simp_all; done) | (rw [if_neg (by omega), if_neg hjk]) | (rw [if_neg hjk]) | skip)

theorem T.get_set {α : Type} (t : T α) (k j : Nat) (x : α) : (t.set k x).get j = if j = k then some x else t.get j := T.get_put _ _ _ _ _ (by omega)
theorem T.get_del {α : Type} (t : T α) (k j : Nat) : (t.del k).get j = if j = k then none else t.get j := T.get_put _ _ _ _ _ (by omega)
@[simp] theorem T.get_lf {α : Type} (j : Nat) : (T.lf : T α).get j = none := rfl


abbrev Env := T AV
abbrev Heap := T Ob
/-- Operands. -/
inductive Opd where
  | t (i : Nat) | c (v : AV)
  deriving Inhabited
inductive COp where
  | mv (x : Opd) | pick (c a b : Opd) | alloc (zs : List AV) | box (x : Opd)
  | build (zs : List AV) (ps : List (Nat × Nat × Opd)) | bslice (frz : Bool) (zs : List D) (len : Nat) (ps : List (Nat × Opd)) | brow (zs : List D) (len : Nat) (ps : List (Nat × Opd))
  | load (n : Option Nat) (a : Opd) | store (sz : Nat) (a v : Opd) | nilc (x : Opd)
  | bin (op : BinOp) (tag : Nat) (x y : Opd) | un (op : UnOp) (x : Opd) | conv (k : IntKind) (x : Opd) | cvs (x : Opd) | s2b (x : Opd) | b2s (x : Opd)
  | mkf (g : Nat) (fst caps : List Opd) | mkmap | mkslice (zs : List D) (len cap : Opd)
  | slS (x : Opd) (lo hi : Option Opd) | sl (sz : Nat) (x : Opd) (lo hi mx : Option Opd)
  | fld (off : Nat) (x : Opd) | idxa (sz : Nat) (x i : Opd) | idxA (len sz : Nat) (x i : Opd) | idx (x i : Opd) | idxV (len sz : Nat) (agg : Bool) (x i : Opd)
  | look (str : Bool) (zero : AV) (x k : Opd) (ok : Bool) | mupd (str : Bool) (m k v : Opd) | del (str : Bool) (x k : Opd) | ext (x : Opd) (i : Nat)
  | call (g : Nat) (args : List Opd) | callv (x : Opd) (args : List Opd)
  | app (sz : Nat) (x y : Opd) | len (str : Bool) (x : Opd) | copy (sz : Nat) (x y : Opd) | clear (zs : List D) (x : Opd) | max (x y : Opd) | min (x y : Opd) | ins (sz : Nat) (x i y : Opd) | mkeys (x : Opd) | sorted (str : Bool) (g : Nat) (x : Opd) | iter | bad
  deriving Inhabited
structure COper where
  dst : Option Nat
  guard : Option (Nat × Bool)
  op : COp
  chk : List (Nat × Option Nat × Option (Nat × Bool) × COp) := []
  dis : Option Opd := none
  deriving Inhabited
inductive CCode where
  | skip | reg (len : Nat) (ops : List (Nat × COper)) | seq (a b : CCode) | cond (c : Opd) (a b : CCode) | block (id : Nat) (b : CCode) | loop (b : CCode) | exit (id : Nat) | ret | bad
  deriving Inhabited
/-- pure: the call works on a heap of its own, its arguments and results are data; bor: slices among its arguments are lent, not frozen; frz: the results of a call that is not pure are frozen; own: rows among the results of a pure call become the caller's. -/
structure CFun where
  results : List (Opd × Option (Option Nat))
  body : CCode
  pure : Bool
  bor : Bool
  frz : Bool
  own : Bool
  deriving Inhabited

def nAg : D → Bool
  | .ag _ => false
  | _ => true
def nAgV : AV → Bool
  | .ag _ => false
  | .d (.ag _) => false
  | .u => false
  | .tu _ => false
  | _ => true
def agV : AV → Bool
  | .ag _ => true
  | .d (.ag _) => true
  | _ => false
def okV : AV → Bool
  | .tu _ => false
  | _ => true
def Opd.ev (e : Env) : Opd → AV
  | .t i => (e.get i).getD .u
  | .c v => v
def evs (e : Env) : List Opd → List AV
  | [] => []
  | x :: l => x.ev e :: evs e l
def cellsD : D → List D
  | .ag l => l
  | x => [x]
def cellsV : AV → Option (List AV)
  | .ag l => some l
  | .d (.ag l) => some (l.map .d)
  | .u => none
  | .tu _ => none
  | v => some [v]
/-- Cells that are all data. -/
def allD : List AV → Option (List D)
  | [] => some []
  | .d x :: l => match allD l with
    | some r => some (x :: r)
    | none => none
  | .zl x :: l => match allD l with
    | some r => some (.sl x :: r)
    | none => none
  | _ => none
def sub (l : List D) (lo n : Nat) : Option (List D) := bif Nat.ble (lo + n) l.length then some ((l.drop lo).take n) else none
/-- A value as data; a row that becomes part of it is frozen. -/
def cellD : AV → Heap → Option (D × Heap)
  | .d x, h => some (x, h)
  | .zl l, h => some (.sl l, h)
  | .sl _ _ 0, h => some (.se, h)
  | .sl a lo n, h => match h.get a with
    | some (.row sz l _) => (match sub l lo n with
      | some r => some (.sl r, h.set a (.row sz l true))
      | none => none)
    | _ => none
  | _, _ => none
def cellsToD : List AV → Heap → Option (List D × Heap)
  | [], h => some ([], h)
  | v :: l, h => match cellD v h with
    | some (x, h) => match cellsToD l h with
      | some (r, h) => some (x :: r, h)
      | none => none
    | none => none
def toD : AV → Heap → Option (D × Heap)
  | .ag l, h => match cellsToD l h with
    | some (r, h) => some (.ag r, h)
    | none => none
  | v, h => cellD v h
/-- A value without names, to be lent to a call. -/
def toB (h : Heap) : Nat → AV → Option AV
  | _, .d x => some (.d x)
  | _, .u => none
  | _, .np => some .np
  | _, .nm => some .nm
  | _, .nf => some .nf
  | _, .zl l => some (.d (.sl l))
  | _, .bs l => some (.bs l)
  | _, .pe l o => some (.pe l o)
  | _, .mp ks vs => some (.mp ks vs)
  | _, .sl a lo n => match h.get a with
    | some (.row _ l _) => (match sub l lo n with
      | some r => some (.bs r)
      | none => none)
    | _ => none
  | 0, _ => none
  | k + 1, .p a o => match h.get a with
    | some (.box l) => match l.mapM (toB h k) with
      | some l => some (.pe l o)
      | none => none
    | some (.row sz l _) => match l[o / sz]? with
      | some x => some (.pe ((cellsD x).map .d) (o % sz))
      | none => none
    | _ => none
  | k + 1, .m a => match h.get a with
    | some (.map ks vs) => match vs.mapM (toB h k) with
      | some vs => some (.mp ks vs)
      | none => none
    | _ => none
  | k + 1, .f g fs cs => match fs.mapM (toB h k), cs.mapM (toB h k) with
    | some fs, some cs => some (.f g fs cs)
    | _, _ => none
  | k + 1, .ag l => match l.mapM (toB h k) with
    | some l => some (.ag l)
    | none => none
  | _, .tu _ => none
def argD (bor : Bool) (v : AV) (h : Heap) : Option (AV × Heap) :=
  match bor with
  | true => (toB h 8 v).map fun v => (v, h)
  | false => match toD v h with
    | some (x, h) => some (.d x, h)
    | none => (toB h 8 v).map fun v => (v, h)
def argsD (bor : Bool) : List AV → Heap → Option (List AV × Heap)
  | [], h => some ([], h)
  | v :: l, h => match argD bor v h with
    | some (v, h) => match argsD bor l h with
      | some (l, h) => some (v :: l, h)
      | none => none
    | none => none
def putCells : Nat → List AV → List AV → List AV
  | _, [], l => l
  | 0, v :: vs, _ :: l => v :: putCells 0 vs l
  | i + 1, vs, x :: l => x :: putCells i vs l
  | _, _, [] => []
def fillV (e : Env) : List (Nat × Nat × Opd) → List AV → Option (List AV)
  | [], c => some c
  | (o, s, x) :: ps, c => match cellsV (x.ev e) with
    | some vs => match vs.length == s && Nat.ble (o + s) c.length with
      | true => fillV e ps (putCells o vs c)
      | false => none
    | none => none
def valD (frz : Bool) (v : AV) (h : Heap) : Option (D × Heap) :=
  match frz with
  | true => toD v h
  | false => match cellsV v with
    | some l => match allD l with
      | some r => match v, r with
        | .ag _, r => some (.ag r, h)
        | .d x, _ => some (x, h)
        | _, [x] => some (x, h)
        | _, _ => none
      | none => none
    | none => none
def fillD (frz : Bool) (e : Env) (sz len : Nat) : List (Nat × Opd) → List D → Heap → Option (List D × Heap)
  | [], l, h => some (l, h)
  | (i, x) :: ps, l, h => match valD frz (x.ev e) h with
    | some (d, h) => match (cellsD d).length == sz && Nat.blt i len with
      | true => fillD frz e sz len ps (l.set i d) h
      | false => none
    | none => none
def binI (op : BinOp) (k : IntKind) (a b : Int) : Option D :=
  match op with
  | .add => some (.i k (k.wrap (a + b)))
  | .sub => some (.i k (k.wrap (a - b)))
  | .mul => some (.i k (k.wrap (a * b)))
  | .quo => bif b == 0 then none else some (.i k (k.wrap (a.tdiv b)))
  | .rem => bif b == 0 then none else some (.i k (a.tmod b))
  | .and => some (.i k (k.wrap (BitVec.ofInt k.bits a &&& BitVec.ofInt k.bits b).toNat))
  | .or => some (.i k (k.wrap (BitVec.ofInt k.bits a ||| BitVec.ofInt k.bits b).toNat))
  | .xor => some (.i k (k.wrap (BitVec.ofInt k.bits a ^^^ BitVec.ofInt k.bits b).toNat))
  | .eql => some (.b (a == b))
  | .neq => some (.b (a != b))
  | .lss => some (.b (a < b))
  | .leq => some (.b (a ≤ b))
  | .gtr => some (.b (a > b))
  | .geq => some (.b (a ≥ b))
  | _ => none
def binS (op : BinOp) (a b : ByteArray) : Option D :=
  match op with
  | .add => bif Nat.blt (a.size + b.size) 4611686018427387904 then some (.s (a ++ b)) else none
  | .eql => some (.b (a.toList == b.toList))
  | .neq => some (.b (!(a.toList == b.toList)))
  | .lss => some (.b (Op.bytesLess a.toList b.toList))
  | .leq => some (.b (Op.bytesLess a.toList b.toList || a.toList == b.toList))
  | .gtr => some (.b (!(Op.bytesLess a.toList b.toList || a.toList == b.toList)))
  | .geq => some (.b (!(Op.bytesLess a.toList b.toList)))
  | _ => none
def eqn (op : BinOp) (b : Bool) : Option D :=
  match op with
  | .eql => some (.b b)
  | .neq => some (.b (!b))
  | _ => none
def intsEq : List AV → List AV → Option Bool
  | [], [] => some true
  | .d (.i k a) :: l, .d (.i k' b) :: l' => bif k == k' then (match a == b with
    | true => intsEq l l'
    | false => some false) else none
  | _, _ => none
def binG (op : BinOp) (x y : AV) : Option D :=
  match cellsV x, cellsV y with
  | some [x1, x2], some [y1, y2] => (match intsEq [x1, x2] [y1, y2] with
    | some b => eqn op b
    | none => none)
  | _, _ => none
/-- tag: 5 array of integers, 1 bool, 2 pointer, 3 interface of which one side is a constant. -/
def binA (op : BinOp) (tag : Nat) (x y : AV) : Option D :=
  match x, y with
  | .d (.i k a), .d (.i k' b) => (match op with
    | .shl => bif b < 0 then none else some (.i k (k.wrap (a * 2 ^ (Nat.min b.toNat k.bits))))
    | .shr => bif b < 0 then none else some (.i k (a.fdiv (2 ^ (Nat.min b.toNat k.bits))))
    | op => bif k == k' then binI op k a b else none)
  | .d (.s a), .d (.s b) => binS op a b
  | .d (.b a), .d (.b b) => bif tag == 1 then eqn op (a == b) else none
  | .d .nif, .d .nif => bif tag == 3 then eqn op true else none
  | .np, .np => bif tag == 2 then eqn op true else none
  | .p _ _, .np => bif tag == 2 then eqn op false else none
  | .pe _ _, .np => bif tag == 2 then eqn op false else none
  | x, y => bif tag == 5 then binG op x y else none
def unA (op : UnOp) (x : AV) : Option D :=
  match op, x with
  | .not, .d (.b a) => some (.b (!a))
  | .neg, .d (.i k a) => some (.i k (k.wrap (0 - a)))
  | _, _ => none
/-- A number that is not negative. -/
def natA : AV → Option Nat
  | .d (.i _ (.ofNat a)) => some a
  | _ => none
def bnd (e : Env) (x : Option Opd) (dflt top : Nat) : Option Nat :=
  match x with
  | none => some dflt
  | some x => match natA (x.ev e) with
    | some a => bif Nat.ble a top then some a else none
    | none => none
/-- The elements of a slice. -/
def elems (v : AV) (h : Heap) : Option (List D) :=
  match v with
  | .d .se => some []
  | .d (.sl l) => some l
  | .zl l => some l
  | .bs l => some l
  | .sl a lo n => match h.get a with
    | some (.row _ l _) => sub l lo n
    | _ => none
  | _ => none
/-- A slice's length, and a bound of its room. -/
def room (v : AV) (h : Heap) : Option (Nat × Nat) :=
  match v with
  | .sl a l0 m => match h.get a with
    | some (.row _ l _) => some (m, l.length - l0)
    | _ => none
  | .d (.sl l) => some (l.length, l.length)
  | .d .se => some (0, 0)
  | .zl l => some (l.length, l.length)
  | .bs l => some (l.length, l.length)
  | _ => none
def cutD (l : List D) : D := match l with | [] => .se | l => .sl l
def headSz (l : List D) (sz : Nat) : Bool :=
  match l with
  | [] => true
  | x :: _ => (cellsD x).length == sz
def loadC (n : Option Nat) (o : Nat) (cs : List AV) : Option AV :=
  match n with
  | none => cs[o]?
  | some s => bif Nat.ble (o + s) cs.length then some (.ag ((cs.drop o).take s)) else none
def loadD (n : Option Nat) (o : Nat) (cs : List D) : Option AV :=
  match n with
  | none => (cs[o]?).map .d
  | some s => bif Nat.ble (o + s) cs.length then some (.d (.ag ((cs.drop o).take s))) else none
def loadA (n : Option Nat) (a : AV) (h : Heap) : Option AV :=
  match a with
  | .p a o => match h.get a with
    | some (.box cs) => loadC n o cs
    | some (.row sz l _) => match l[o / sz]? with
      | some x => loadD n (o % sz) (cellsD x)
      | none => none
    | _ => none
  | .pe l o => loadC n o l
  | _ => none
def putD (x : D) (o : Nat) (vs : List D) : D :=
  match x with
  | .ag l => .ag (l.take o ++ vs ++ l.drop (o + vs.length))
  | x => match vs with
    | [v] => v
    | _ => x
def storeA (sz : Nat) (a v : AV) (h : Heap) : Option Heap :=
  match a with
  | .p a o => match h.get a with
    | some (.box cs) => (match cellsV v with
      | some vs => bif vs.length == sz && Nat.ble (o + sz) cs.length then some (h.set a (.box (putCells o vs cs))) else none
      | none => none)
    | some (.row s l false) => (match cellsV v with
      | some vs => (match allD vs with
        | some vs => (match l[o / s]? with
          | some x => bif vs.length == sz && Nat.ble (o % s + sz) s then some (h.set a (.row s (l.set (o / s) (putD x (o % s) vs)) false)) else none
          | none => none)
        | none => none)
      | none => none)
    | _ => none
  | _ => none
def keyEq : D → D → Option Bool
  | .s x, .s y => some (x == y)
  | .i k x, .i k' y => bif k == k' then some (x == y) else none
  | _, _ => none
def lookA (k : D) : List D → List AV → Option (Option AV)
  | [], _ => some none
  | a :: ks, v :: vs => match keyEq k a with
    | some true => some (some v)
    | some false => lookA k ks vs
    | none => none
  | _, _ => none
def updA (k : D) (v : AV) : List D → List AV → Option (List D × List AV)
  | [], [] => some ([k], [v])
  | a :: ks, w :: vs => match keyEq k a with
    | some true => some (k :: ks, v :: vs)
    | some false => (match updA k v ks vs with
      | some (ks, vs) => some (a :: ks, w :: vs)
      | none => none)
    | none => none
  | _, _ => none
def delA (k : D) : List D → List AV → Option (List D × List AV)
  | [], [] => some ([], [])
  | a :: ks, w :: vs => match keyEq k a with
    | some true => some (ks, vs)
    | some false => (match delA k ks vs with
      | some (ks, vs) => some (a :: ks, w :: vs)
      | none => none)
    | none => none
  | _, _ => none
def isKey : Bool → D → Bool
  | true, .s _ => true
  | false, .i _ _ => true
  | _, _ => false
/-- x with the elements ys behind it; k is a new name. -/
def appA (sz : Nat) (x : AV) (ys : List D) (h : Heap) (k : Nat) : Option (AV × Heap) :=
  match x, ys with
  | .d (.sl _), [] => some (x, h)
  | .d .se, [] => some (x, h)
  | .bs _, [] => some (x, h)
  | .zl _, [] => some (x, h)
  | .sl _ _ _, [] => some (x, h)
  | .d (.sl []), ys => bif Nat.blt ys.length 4294967296 && headSz ys sz then some (.sl k 0 ys.length, h.set k (.row sz ys false)) else none
  | .zl l, ys => bif Nat.blt (l.length + ys.length) 4294967296 && headSz l sz then some (.sl k 0 (l.length + ys.length), h.set k (.row sz (l ++ ys) false)) else none
  | .sl a lo m, ys => (match h.get a with
      | some (.row s l fz) => bif s == sz && Nat.blt (l.length + ys.length) 4294967296 then
          (bif lo + m == l.length then some (.sl k 0 (m + ys.length), (h.del a).set k (.row sz (l.drop lo ++ ys) fz))
           else bif Nat.ble (lo + m + ys.length) l.length && !fz then some (.sl a lo (m + ys.length), h.set a (.row sz (l.take (lo + m) ++ ys ++ l.drop (lo + m + ys.length)) false)) else none)
        else none
      | _ => none)
  | _, _ => none
def bytesD (s : ByteArray) : List D := s.data.toList.map fun b => .i .u8 b.toNat
def bytesOf : List D → Option (List UInt8)
  | [] => some []
  | .i .u8 n :: l => match bytesOf l with
    | some r => bif 0 ≤ n && n < 256 then some (n.toNat.toUInt8 :: r) else none
    | none => none
  | _ => none
def oneD (zs : List D) : D := match zs with | [z] => z | zs => .ag zs
def lessD : D → D → Bool
  | .i _ a, .i _ b => a < b
  | .s a, .s b => Op.bytesLess a.toList b.toList
  | _, _ => false
def insD (x : D) : List D → List D
  | [] => [x]
  | y :: l => bif lessD x y then x :: y :: l else y :: insD x l
def sortD : List D → List D
  | [] => []
  | x :: l => insD x (sortD l)
def isI64 : D → Bool
  | .i .i64 _ => true
  | _ => false
/-- Keys one above the other, none great. -/
def strsOk (str : Bool) : List D → Bool
  | [] => true
  | x :: l => (match x with | .s b => str && Nat.blt b.size 65536 | .i .i64 _ => !str | _ => false) && l.all (lessD x) && strsOk str l
def items (v : AV) (h : Heap) : Option (List D) :=
  match v with
  | .m a => (match h.get a with | some (.map ks _) => some ks | _ => none)
  | _ => none
abbrev R1 := Option (AV × Heap)
def lenOk (l : List D) : Bool := Nat.blt l.length 9223372036854775808
def evOp (o : COp) (e : Env) (h : Heap) (k : Nat) : R1 :=
  match o with
  | .mv x => some (x.ev e, h)
  | .pick c a b => (match c.ev e with
    | .d (.b true) => some (a.ev e, h)
    | .d (.b false) => some (b.ev e, h)
    | _ => none)
  | .alloc zs => some (.p k 0, h.set k (.box zs))
  | .box x => (match cellsV (x.ev e) with
    | some l => some (.p k 0, h.set k (.box l))
    | none => none)
  | .build zs ps => (match fillV e ps zs with
    | some l => some (.ag l, h)
    | none => none)
  | .bslice frz zs len ps => (match fillD frz e zs.length len ps (List.replicate len (oneD zs)) h with
    | some (l, h) => some (.zl l, h)
    | none => none)
  | .brow zs len ps => (match fillD true e zs.length len ps (List.replicate len (oneD zs)) h with
    | some (l, h) => some (.sl k 0 len, h.set k (.row zs.length l false))
    | none => none)
  | .load sz a => (match loadA sz (a.ev e) h with
    | some v => some (v, h)
    | none => none)
  | .store sz a v => (match storeA sz (a.ev e) (v.ev e) h with
    | some h => some (.u, h)
    | none => none)
  | .nilc x => (match x.ev e with
    | .p a o => some (.p a o, h)
    | .pe l o => some (.pe l o, h)
    | .f g fs c => some (.f g fs c, h)
    | _ => none)
  | .bin op tag x y => (match binA op tag (x.ev e) (y.ev e) with
    | some v => some (.d v, h)
    | none => none)
  | .un op x => (match unA op (x.ev e) with
    | some v => some (.d v, h)
    | none => none)
  | .conv k x => (match x.ev e with
    | .d (.i _ m) => some (.d (.i k (k.wrap m)), h)
    | _ => none)
  | .cvs x => (match x.ev e with
    | .d (.s l) => some (.d (.s l), h)
    | _ => none)
  | .s2b x => (match x.ev e with
    | .d (.s l) => some (.d (cutD (bytesD l)), h)
    | _ => none)
  | .b2s x => (match elems (x.ev e) h with
    | some l => (match bytesOf l with
      | some bs => some (.d (.s ⟨bs.toArray⟩), h)
      | none => none)
    | none => none)
  | .mkf g fs caps => bif (evs e fs).all okV && (evs e caps).all okV then some (.f g (evs e fs) (evs e caps), h) else none
  | .mkmap => some (.m k, h.set k (.map [] []))
  | .mkslice zs l c => (match natA (l.ev e), natA (c.ev e) with
    | some 0, some 0 => some (.zl [], h)
    | some l, some c => bif l == c && Nat.blt l 4294967296 then some (.sl k 0 l, h.set k (.row zs.length (List.replicate l (oneD zs)) false)) else none
    | _, _ => none)
  | .slS x lo hi => (match x.ev e with
    | .d (.s s) => (match bnd e hi s.size s.size with
      | some b => (match bnd e lo 0 b with
        | some a => some (.d (.s (s.extract a b)), h)
        | none => none)
      | none => none)
    | _ => none)
  | .sl sz x lo hi mx => (match mx with
    | none => (match x.ev e with
      | .sl a l0 m => (match h.get a with
        | some (.row s l fz) => bif s == sz then (match bnd e hi m (l.length - l0) with
          | some b => (match bnd e lo 0 b with
            | some k => some (.sl a (l0 + k) (b - k), h)
            | none => none)
          | none => none) else none
        | _ => none)
      | .d (.sl l) => bif headSz l sz then (match bnd e hi l.length l.length with
        | some b => (match bnd e lo 0 b with
          | some a => some (.d (cutD ((l.take b).drop a)), h)
          | none => none)
        | none => none) else none
      | .zl l => bif headSz l sz then (match bnd e hi l.length l.length with
        | some b => (match bnd e lo 0 b with
          | some a => some (.d (cutD ((l.take b).drop a)), h)
          | none => none)
        | none => none) else none
      | .bs l => bif headSz l sz then (match bnd e hi l.length l.length with
        | some b => (match bnd e lo 0 b with
          | some a => some (.bs ((l.take b).drop a), h)
          | none => none)
        | none => none) else none
      | .d .se => (match bnd e hi 0 0 with
        | some b => (match bnd e lo 0 b with
          | some _ => some (.d .se, h)
          | none => none)
        | none => none)
      | _ => none)
    | some mx => (match room (x.ev e) h with
      | some (n, r) => (match bnd e (some mx) 0 r with
        | some c => (match bnd e hi n c with
          | some b => (match bnd e lo 0 b with
            | some k => bif c == b && k == b then some (.zl [], h) else some (.u, h)
            | none => none)
          | none => none)
        | none => none)
      | none => none))
  | .fld off x => (match x.ev e with
    | .p a o => some (.p a (o + off), h)
    | .pe l o => some (.pe l (o + off), h)
    | _ => none)
  | .idxa sz x i => (match natA (i.ev e) with
    | some i => (match x.ev e with
      | .d (.sl l) => (match l[i]? with
        | some x => bif (cellsD x).length == sz then some (.pe ((cellsD x).map .d) 0, h) else none
        | none => none)
      | .zl l => (match l[i]? with
        | some x => bif (cellsD x).length == sz then some (.pe ((cellsD x).map .d) 0, h) else none
        | none => none)
      | .bs l => (match l[i]? with
        | some x => bif (cellsD x).length == sz then some (.pe ((cellsD x).map .d) 0, h) else none
        | none => none)
      | .sl a lo m => bif Nat.blt i m then (match h.get a with
        | some (.row s _ _) => bif s == sz then some (.p a ((lo + i) * sz), h) else none
        | _ => none) else none
      | _ => none)
    | none => none)
  | .idxA len sz x i => (match natA (i.ev e) with
    | some i => bif Nat.blt i len then (match x.ev e with
      | .p a o => some (.p a (o + i * sz), h)
      | .pe l o => some (.pe l (o + i * sz), h)
      | _ => none) else none
    | none => none)
  | .idx x i => (match natA (i.ev e), x.ev e with
    | some i, .d (.s s) => (match s.data[i]? with
      | some b => some (.d (.i .u8 b.toNat), h)
      | none => none)
    | _, _ => none)
  | .idxV len sz agg x i => (match natA (i.ev e) with
    | some i => bif Nat.blt i len && agV (x.ev e) then (match cellsV (x.ev e) with
      | some l => (match loadC (bif agg then some sz else none) (i * sz) l with
        | some v => some (v, h)
        | none => none)
      | none => none) else none
    | none => none)
  | .look str z x k ok => (match k.ev e with
    | .d k => bif isKey str k then (match (match x.ev e with
        | .m a => (match h.get a with
          | some (.map ks vs) => lookA k ks vs
          | _ => none)
        | .mp ks vs => lookA k ks vs
        | .nm => some none
        | _ => none) with
      | some (some v) => some (bif ok then .tu [v, .d (.b true)] else v, h)
      | some none => some (bif ok then .tu [z, .d (.b false)] else z, h)
      | none => none) else none
    | _ => none)
  | .mupd str m k v => (match m.ev e, k.ev e, v.ev e with
    | .m a, .d k, v => bif isKey str k then (match h.get a, cellsV v with
      | some (.map ks vs), some _ => (match updA k v ks vs with
        | some (ks, vs) => some (.u, h.set a (.map ks vs))
        | none => none)
      | _, _ => none) else none
    | _, _, _ => none)
  | .del _ _ _ => none
  | .ext x i => (match x.ev e with
    | .tu l => (match l[i]? with
      | some v => some (v, h)
      | none => none)
    | _ => none)
  | .app sz x y => (match y.ev e with
    | .d (.s s) => bif sz == 1 then appA sz (x.ev e) (bytesD s) h k else none
    | .sl a lo n => (match h.get a with
      | some (.row s l _) => (match sub l lo n with
        | some ys => bif s == sz then appA sz (x.ev e) ys h k else none
        | none => none)
      | _ => none)
    | y => (match elems y h with
      | some ys => bif headSz ys sz then appA sz (x.ev e) ys h k else none
      | none => none))
  | .len true x => (match x.ev e with
    | .d (.s s) => some (.d (.i .i64 (.ofNat s.size)), h)
    | _ => none)
  | .len false x => (match x.ev e with
    | .d (.sl l) => some (.d (.i .i64 (.ofNat l.length)), h)
    | .d .se => some (.d (.i .i64 (.ofNat 0)), h)
    | .zl l => some (.d (.i .i64 (.ofNat l.length)), h)
    | .bs l => some (.d (.i .i64 (.ofNat l.length)), h)
    | .sl _ _ n => some (.d (.i .i64 (.ofNat n)), h)
    | _ => none)
  | .clear zs x => (match x.ev e with
    | .sl a lo m => (match h.get a with
      | some (.row s l false) => bif s == zs.length && Nat.ble (lo + m) l.length then some (.tu [], h.set a (.row s (l.take lo ++ List.replicate m (oneD zs) ++ l.drop (lo + m)) false)) else none
      | _ => none)
    | .zl [] => some (.tu [], h)
    | .d .se => some (.tu [], h)
    | .d (.sl []) => some (.tu [], h)
    | _ => none)
  | .copy sz x y => (match x.ev e with
    | .sl a lo m => (match elems (y.ev e) h, h.get a with
      | some ys, some (.row s l false) => bif s == sz && headSz ys sz && Nat.ble (lo + m) l.length then some (.d (.i .i64 (Nat.min m ys.length : Nat)), h.set a (.row s (l.take lo ++ ys.take m ++ l.drop (lo + Nat.min m ys.length)) false)) else none
      | _, _ => none)
    | _ => none)
  | .ins sz x i y => (match x.ev e, natA (i.ev e), elems (y.ev e) h with
    | .d (.sl []), some 0, some ys => bif headSz ys sz && Nat.blt 0 ys.length && Nat.blt ys.length 4294967296 then some (.sl k 0 ys.length, h.set k (.row sz ys false)) else none
    | .zl [], some 0, some ys => bif headSz ys sz && Nat.blt 0 ys.length && Nat.blt ys.length 4294967296 then some (.sl k 0 ys.length, h.set k (.row sz ys false)) else none
    | .sl a 0 m, some i, some ys => (match h.get a with
      | some (.row s l false) => bif s == sz && headSz ys sz && Nat.blt 0 ys.length && m == l.length && Nat.ble i m && Nat.blt (m + ys.length) 4294967296 then some (.sl k 0 (m + ys.length), (h.del a).set k (.row sz (l.take i ++ ys ++ l.drop i) false)) else none
      | _ => none)
    | _, _, _ => none)
  | .mkeys x => (match items (x.ev e) h with
    | some ks => some (.d (.sl ks), h)
    | none => none)
  | .iter => bif (h.get k).isNone then some (.p k 0, h) else none
  | .sorted true g x => (match x.ev e with
    | .f g' [] [.p a 0] => bif g' == g && (h.get k).isNone then (match h.get a with
      | some (.box [.m b]) => (match h.get b with
        | some (.map ks _) => bif strsOk true (sortD ks) && Nat.blt ks.length 65536 then (match ks with
            | [] => some (.zl [], h)
            | ks => some (.sl k 0 ks.length, h.set k (.row 1 (sortD ks) false))) else none
        | _ => none)
      | _ => none) else none
    | _ => none)
  | .sorted false g x => (match x.ev e with
    | .f g' [] [.p a 0] => bif g' == g && (h.get k).isNone then (match h.get a with
      | some (.box [v]) => (match elems v h with
        | some l => bif l.all isI64 && Nat.blt l.length 65536 then (match l with
            | [] => some (.zl [], h)
            | l => some (.sl k 0 l.length, h.set k (.row 1 (sortD l) false))) else none
        | none => none)
      | _ => none) else none
    | _ => none)
  | .max x y => (match x.ev e, y.ev e with
    | .d (.i k a), .d (.i _ b) => some (.d (.i k (bif b > a then b else a)), h)
    | _, _ => none)
  | .min x y => (match x.ev e, y.ev e with
    | .d (.i k a), .d (.i _ b) => some (.d (.i k (bif b < a then b else a)), h)
    | _, _ => none)
  | _ => none

mutual
def beqD : D → D → Bool
  | .i k n, .i k' n' => k == k' && n == n'
  | .b x, .b y => x == y
  | .s x, .s y => x.data.toList == y.data.toList
  | .nif, .nif => true
  | .se, .se => true
  | .sl l, .sl l' => beqDs l l'
  | .ag l, .ag l' => beqDs l l'
  | _, _ => false
def beqDs : List D → List D → Bool
  | [], [] => true
  | x :: l, y :: l' => beqD x y && beqDs l l'
  | _, _ => false
end
mutual
def beqV : AV → AV → Bool
  | .d x, .d y => beqD x y
  | .np, .np => true
  | .nm, .nm => true
  | .nf, .nf => true
  | .p a o, .p b o' => a == b && o == o'
  | .pe l o, .pe l' o' => beqVs l l' && o == o'
  | .zl l, .zl l' => beqDs l l'
  | .bs l, .bs l' => beqDs l l'
  | .sl a lo n, .sl a' lo' n' => a == a' && lo == lo' && n == n'
  | .m a, .m b => a == b
  | .mp k v, .mp k' v' => beqDs k k' && beqVs v v'
  | .f g a b, .f g' a' b' => g == g' && beqVs a a' && beqVs b b'
  | .ag l, .ag l' => beqVs l l'
  | .tu l, .tu l' => beqVs l l'
  | _, _ => false
def beqVs : List AV → List AV → Bool
  | [], [] => true
  | x :: l, y :: l' => beqV x y && beqVs l l'
  | _, _ => false
end
structure St where
  e : Env
  h : Heap
  n : Nat
abbrev R := Option (AV × Heap × Nat)
abbrev R2 := Option (List AV × Heap × Nat)
/-- Calls. -/
abbrev CallF := Nat → List AV → Heap → Nat → R
def putE (e : Env) (d : Option Nat) (v : AV) : Env := match d with | none => e | some t => e.set t v
def doOp (C : CallF) (o : COp) (s : St) (k : Nat) : R :=
  match o with
  | .call g args => C g (evs s.e args) s.h s.n
  | .callv x args => match x.ev s.e with
    | .f g fs caps => C g (fs ++ evs s.e args ++ caps) s.h s.n
    | _ => none
  | o => match evOp o s.e s.h k with
    | some (v, h) => some (v, h, s.n)
    | none => none
/-! ### What an operation looks at -/
def Opd.ts : Opd → List Nat
  | .t i => [i]
  | .c _ => []
def tsL : List Opd → List Nat
  | [] => []
  | x :: l => x.ts ++ tsL l
def tsO : Option Opd → List Nat
  | none => []
  | some x => x.ts
def tsP2 : List (Nat × Opd) → List Nat
  | [] => []
  | (_, x) :: l => x.ts ++ tsP2 l
def tsP3 : List (Nat × Nat × Opd) → List Nat
  | [] => []
  | (_, _, x) :: l => x.ts ++ tsP3 l
def COp.ts : COp → List Nat
  | .mv x => x.ts
  | .pick c a b => c.ts ++ (a.ts ++ b.ts)
  | .alloc _ => []
  | .box x => x.ts
  | .build _ ps => tsP3 ps
  | .bslice _ _ _ ps => tsP2 ps
  | .brow _ _ ps => tsP2 ps
  | .load _ a => a.ts
  | .store _ a v => a.ts ++ v.ts
  | .nilc x => x.ts
  | .bin _ _ x y => x.ts ++ y.ts
  | .un _ x => x.ts
  | .conv _ x => x.ts
  | .cvs x => x.ts
  | .s2b x => x.ts
  | .b2s x => x.ts
  | .mkf _ a b => tsL a ++ tsL b
  | .mkmap => []
  | .mkslice _ a b => a.ts ++ b.ts
  | .slS x lo hi => x.ts ++ (tsO lo ++ tsO hi)
  | .sl _ x lo hi mx => x.ts ++ (tsO lo ++ (tsO hi ++ tsO mx))
  | .fld _ x => x.ts
  | .idxa _ x i => x.ts ++ i.ts
  | .idxA _ _ x i => x.ts ++ i.ts
  | .idx x i => x.ts ++ i.ts
  | .idxV _ _ _ x i => x.ts ++ i.ts
  | .look _ _ x k _ => x.ts ++ k.ts
  | .mupd _ m k v => m.ts ++ (k.ts ++ v.ts)
  | .del _ x k => x.ts ++ k.ts
  | .ext x _ => x.ts
  | .call _ l => tsL l
  | .callv x l => x.ts ++ tsL l
  | .app _ x y => x.ts ++ y.ts
  | .len _ x => x.ts
  | .copy _ x y => x.ts ++ y.ts
  | .clear _ x => x.ts
  | .max x y => x.ts ++ y.ts
  | .min x y => x.ts ++ y.ts
  | .ins _ x i y => x.ts ++ (i.ts ++ y.ts)
  | .mkeys x => x.ts
  | .sorted _ _ x => x.ts
  | .iter => []
  | .bad => []
/-- Does the operation leave memory out of it? -/
def isPu : COp → Bool
  | .mv _ | .pick .. | .build .. | .bslice false .. | .nilc _ | .bin .. | .un .. | .conv .. | .cvs _ | .s2b _ | .mkf .. | .slS .. | .fld .. | .idxA .. | .idx .. | .idxV .. | .ext .. | .len .. | .max .. | .min .. => true
  | _ => false
/-- Does it only read memory? -/
def isRd : COp → Bool
  | .load .. | .look .. | .sl .. | .b2s _ | .idxa .. => true
  | c => isPu c
def isAl : COp → Bool
  | .alloc _ | .box _ | .mkmap | .mkslice .. => true
  | _ => false
def isSo (pu : Nat → Bool) : COp → Bool
  | .call g _ => pu g
  | .bslice .. => true
  | c => isPu c
/-- Is an operation wanted? What is skipped leaves an empty tuple. -/
def wants (e : Env) : Option (Nat × Bool) → Option Bool
  | none => some true
  | some (j, w) => match e.get j with
    | some (.d (.b c)) => some (c == w)
    | some (.tu []) => some false
    | _ => none
/-- Is what an operation left still so? -/
def again (n0 : Nat) (s : St) : Nat × Option Nat × Option (Nat × Bool) × COp → Bool
  | (i, d, g, op) => match wants s.e g with
    | none => false
    | some false => true
    | some true => (match op with
    | .alloc zs => (match s.h.get (n0 + i) with | some (.box l) => beqVs l zs | _ => false)
    | .box x => (match s.h.get (n0 + i), cellsV (x.ev s.e) with | some (.box l), some l' => beqVs l l' | _, _ => false)
    | .mkmap => (match s.h.get (n0 + i) with | some (.map [] []) => true | _ => false)
    | .mkslice zs l c => (match s.h.get (n0 + i), natA (l.ev s.e) with | some (.row sz r false), some l => sz == zs.length && beqDs r (List.replicate l (oneD zs)) | _, _ => false)
    | op => (match evOp op s.e s.h (n0 + i), d with | some (v, _), some t => beqV v ((s.e.get t).getD .u) | _, _ => false))
/-- Is the name of a new object free? -/
def fresh (h : Heap) (k : Nat) : COp → Bool
  | .alloc _ => (h.get k).isNone
  | .box _ => (h.get k).isNone
  | .mkmap => (h.get k).isNone
  | .mkslice .. => (h.get k).isNone
  | .brow .. => (h.get k).isNone
  | _ => true
/-- The store writes another object than that at x. -/
def apart (e : Env) (o : COper) : Bool :=
  match o.dis with
  | none => true
  | some x => match x.ev e, o.op with
    | .p a _, .store _ y _ => (match y.ev e with | .p b _ => !(a == b) | _ => false)
    | _, _ => false
def evOps (C : CallF) (n0 : Nat) : List (Nat × COper) → St → Option St
  | [], s => some s
  | (i, o) :: l, s => match wants s.e o.guard with
    | none => none
    | some true => (match doOp C o.op s (n0 + i) with
      | some (v, h, n) => (match fresh s.h (n0 + i) o.op && o.chk.all (again n0 ⟨putE s.e o.dst v, h, n⟩) && apart s.e o with
        | true => evOps C n0 l ⟨putE s.e o.dst v, h, n⟩
        | false => none)
      | none => none)
    | some false => evOps C n0 l ⟨putE s.e o.dst (.tu []), s.h, s.n⟩
inductive Out where
  | nor (s : St) | ex (id : Nat) (s : St) | rt (s : St) | bad
def resV (e : Env) (x : Opd × Option (Option Nat)) (h : Heap) : Option AV :=
  match x.2 with
  | none => some (x.1.ev e)
  | some sz => loadA sz (x.1.ev e) h
def resVs (e : Env) : List (Opd × Option (Option Nat)) → Heap → Option (List AV)
  | [], h => some []
  | x :: l, h => match resV e x h with
    | some v => bif okV v then (match resVs e l h with
      | some r => some (v :: r)
      | none => none) else none
    | none => none
/-- Results as data: addresses are let through only where they have no names. -/
def outD (v : AV) (h : Heap) : Option (AV × Heap) :=
  match v with
  | .np => some (.np, h)
  | .nm => some (.nm, h)
  | .nf => some (.nf, h)
  | .u => some (.u, h)
  | v => match toD v h with
    | some (x, h) => some (.d x, h)
    | none => none
def outsD : List AV → Heap → Option (List AV × Heap)
  | [], h => some ([], h)
  | v :: l, h => match outD v h with
    | some (v, h) => match outsD l h with
      | some (l, h) => some (v :: l, h)
      | none => none
    | none => none
/-- Results that have no names and freeze nothing. -/
def outS : AV → Option AV
  | .d x => some (.d x)
  | .zl l => some (.d (.sl l))
  | .np => some .np
  | .nm => some .nm
  | .nf => some .nf
  | .u => some .u
  | _ => none
/-- Results of which rows that are not frozen go over to the caller. -/
def outsO : List AV → Heap → Heap → Nat → R2
  | [], _, h0, n => some ([], h0, n)
  | .sl a lo m :: l, h, h0, n => (match h.get a with
    | some (.row sz r false) => (match h0.get n with
      | some _ => none
      | none => (match outsO l (h.del a) (h0.set n (.row sz r false)) (n + 1) with
        | some (l, h0, k) => some (.sl n lo m :: l, h0, k)
        | none => none))
    | _ => none)
  | v :: l, h, h0, n => (match outS v with
    | some v => (match outsO l h h0 n with
      | some (l, h0, n) => some (v :: l, h0, n)
      | none => none)
    | none => none)
def tup : List AV → AV
  | [v] => v
  | l => .tu l
def initE : Nat → List AV → Env → Env
  | i, v :: vs, e => initE (i + 1) vs (e.set i v)
  | _, [], e => e
abbrev Self := CCode → St → Out
/-- The results of a call that works on a heap of its own. -/
def leaveP (cf : CFun) (h0 : Heap) (n0 : Nat) (s : St) : R :=
  match resVs s.e cf.results s.h with
  | some l => (match cf.own with
    | true => (match outsO l s.h h0 n0 with
      | some (l, h, n) => some (tup l, h, n)
      | none => none)
    | false => (match outsD l s.h with
      | some (l, _) => some (tup l, h0, n0)
      | none => none))
  | none => none
def leaveI (cf : CFun) (s : St) : R :=
  match resVs s.e cf.results s.h with
  | some l => (match cf.frz with
    | true => (match outsD l s.h with
      | some (l, h) => some (tup l, h, s.n)
      | none => none)
    | false => some (tup l, s.h, s.n))
  | none => none
/-- A call that is not pure: bor: three arguments, own: one. -/
def arOK (cf : CFun) (args : List AV) : Bool := (!cf.bor || args.length == 3) && (!cf.own || args.length == 1)
def callA (F : Nat → Option CFun) (self : Self) : CallF := fun g args h n =>
  match F g with
  | none => none
  | some cf =>
    match cf.pure with
    | true => (match argsD cf.bor args h with
      | some (args, h) => (match self cf.body ⟨initE 0 args .lf, .lf, 0⟩ with
        | .nor s => leaveP cf h n s
        | .rt s => leaveP cf h n s
        | _ => none)
      | none => none)
    | false => (match arOK cf args with
      | false => none
      | true => (match self cf.body ⟨initE 0 args .lf, h, n⟩ with
        | .nor s => leaveI cf s
        | .rt s => leaveI cf s
        | _ => none))
def step (F : Nat → Option CFun) (self : Self) : Self := fun c s =>
  match c with
  | .skip => .nor s
  | .reg len ops => (match evOps (callA F self) s.n ops ⟨s.e, s.h, s.n + len⟩ with | some s => .nor s | none => .bad)
  | .seq a b => (match self a s with | .nor s => self b s | r => r)
  | .cond c a b => (match c.ev s.e with | .d (.b true) => self a s | .d (.b false) => self b s | _ => .bad)
  | .block id b => (match self b s with | .ex j s => (match j == id with | true => .nor s | false => .ex j s) | r => r)
  | .loop b => (match self b s with | .nor s => self (.loop b) s | r => r)
  | .exit id => .ex id s
  | .ret => .rt s
  | .bad => .bad
def ev (F : Nat → Option CFun) : Nat → Self
  | 0 => fun _ _ => .bad
  | k + 1 => step F (ev F k)
end Tm
/- The translation of the program's code into the abstract machine's. No statement of the seat is proved here. -/
namespace Tm
open Go
set_option linter.unusedVariables false
-- constants as data
mutual
def ofV : Value → Option AV
  | .int k n => some (.d (.i k n))
  | .bool b => some (.d (.b b))
  | .string s => some (.d (.s s))
  | .pointer none => some .np
  | .slice none 0 0 => some (.zl [])
  | .map none => some .nm
  | .nilFunc => some .nf
  | .nilIface => some (.d .nif)
  | .func (.func g) ⟨[]⟩ ⟨[]⟩ => some (.f g [] [])
  | .agg ⟨cs⟩ => match ofVs cs with
    | some l => bif l.all nAgV then (match allD l with
      | some l => some (.d (.ag l))
      | none => some (.ag l)) else none
    | none => none
  | _ => none
def ofVs : List Value → Option (List AV)
  | [] => some []
  | v :: vs => match ofV v, ofVs vs with
    | some a, some l => some (a :: l)
    | _, _ => none
end
section
variable (P : Program) (G : Nat → Option AV)
def opd : Operand → Option Opd
  | .tmp t => some (.t t)
  | .const v => (ofV v).map .c
  | .global g => (G g).map .c
  | .func g => some (.c (.f g [] []))
def opds : List Operand → Option (List Opd)
  | [] => some []
  | x :: l => match opd G x, opds l with
    | some a, some r => some (a :: r)
    | _, _ => none
def oopd : Option Operand → Option (Option Opd)
  | none => some none
  | some x => (opd G x).map some
def zeroV (t : TypeId) : Option AV := match P.info? t with
  | some i => (match i.zero with
    | some z => ofV z
    | none => none)
  | none => none
def zeroC (t : TypeId) : Option (List AV) := match zeroV P t with | some a => cellsV a | none => none
/-- The zero cells of an element, all data, as many as the type says, and not none. -/
def zeroD (t : TypeId) : Option (List D) := match zeroC P t, P.info? t with
  | some l, some i => match allD l with
    | some l => bif l.length == i.size && Nat.blt 0 i.size && Nat.ble i.bytes 4096 then some l else none
    | none => none
  | _, _ => none
def szOf (t : TypeId) : Option Nat := (P.info? t).map (·.size)
def aggB (t : TypeId) : Option Bool := match P.underlying t with
  | some (.struct _) => some true
  | some (.array ..) => some true
  | some _ => some false
  | none => none
def ldSz (t : TypeId) : Option (Option Nat) := match aggB P t with
  | some true => (szOf P t).map some
  | some false => some none
  | none => none
def partsOf (place : Nat → Option (Nat × Nat)) : List (Nat × Operand) → Option (List (Nat × Nat × Opd))
  | [] => some []
  | (i, x) :: r => match place i, opd G x, partsOf place r with
    | some (o, s), some a, some l => some ((o, s, a) :: l)
    | _, _, _ => none
def partsS : List (Nat × Operand) → Option (List (Nat × Opd))
  | [] => some []
  | (i, x) :: r => match opd G x, partsS r with
    | some a, some l => some ((i, a) :: l)
    | _, _ => none
def fieldsOf : List Field → Option (List (Nat × Nat))
  | [] => some []
  | f :: r => match szOf P f.type, fieldsOf r with
    | some s, some l => some ((f.offset, s) :: l)
    | _, _ => none
def slElem (t : TypeId) : Option TypeId := match P.underlying t with | some (.slice e) => some e | _ => none
def isU8 (t : TypeId) : Bool := match P.underlying t with | some (.int .u8) => true | _ => false
def isC : Operand → Bool
  | .const _ => true
  | _ => false
def keyT (t : TypeId) : Option Bool := match P.underlying t with
  | some (.int _) => some false
  | some .string => some true
  | _ => none
/-- An array of two integers, which == compares without a guard. -/
def arr2 (t : TypeId) : Bool := match P.underlying t with
  | some (.array n e) => n == 2 && (match P.underlying e with | some (.int _) => true | _ => false) && szOf P e == some 1 && !(P.eqGuardType P.depth t)
  | _ => false
def tagOf (t : TypeId) (x y : Operand) : Nat := match P.underlying t with
  | some .bool => 1
  | some (.pointer _) => 2
  | some (.interface _) => bif isC x || isC y then 3 else 0
  | some (.array _ _) => bif arr2 P t then 5 else 0
  | _ => 0
def compOp (frz : Bool) (o : Op) : Option COp :=
  match o with
  | .move x => (opd G x).map .mv
  | .assign x => (opd G x).map .mv
  | .pick c a b => (match opd G c, opd G a, opd G b with
    | some c, some a, some b => some (.pick c a b)
    | _, _, _ => none)
  | .alloc t => (zeroC P t).map .alloc
  | .box _ x => (opd G x).map .box
  | .build t ps => (match zeroC P t, P.underlying t with
    | some zs, some (.struct fs) => (match fieldsOf P fs.toList with
      | some l => (partsOf G (fun i => l[i]?) ps.toList).map (.build zs)
      | none => none)
    | some zs, some (.array _ e) => (match szOf P e with
      | some s => (partsOf G (fun i => some (i * s, s)) ps.toList).map (.build zs)
      | none => none)
    | _, _ => none)
  | .buildSlice t len ps => (match slElem P t with
    | some e => (match zeroD P e, partsS G ps.toList with
      | some zs, some l => bif Nat.ble (len * zs.length) 16777216 then some (.bslice frz zs len l) else none
      | _, _ => none)
    | none => none)
  | .load t a => (match ldSz P t, opd G a with
    | some n, some a => some (.load n a)
    | _, _ => none)
  | .store t a v => (match szOf P t, opd G a, opd G v with
    | some n, some a, some v => some (.store n a v)
    | _, _, _ => none)
  | .nilCheck x => (opd G x).map .nilc
  | .binOp op t x y _ => (match opd G x, opd G y with
    | some a, some b => some (.bin op (tagOf P t x y) a b)
    | _, _ => none)
  | .unOp op _ x => (opd G x).map (.un op)
  | .convert src dst x =>
    (match P.underlying src, P.underlying dst with
    | some (.int _), some (.int k) => (opd G x).map (.conv k)
    | some .string, some .string => (opd G x).map .cvs
    | some .string, some (.slice e) => bif isU8 P e then (opd G x).map .s2b else none
    | some (.slice e), some .string => bif isU8 P e then (opd G x).map .b2s else none
    | _, _ => none)
  | .makeFunc (.func g) first caps => (match opds G first.toList, opds G caps.toList with
    | some a, some b => some (.mkf g a b)
    | _, _ => none)
  | .makeMap t none => some .mkmap
  | .makeSlice t l c => (match slElem P t with
    | some e => (match zeroD P e, opd G l, opd G c with
      | some zs, some l, some c => some (.mkslice zs l c)
      | _, _, _ => none)
    | none => none)
  | .slice t x lo hi mx =>
    (match P.underlying t with
    | some .string => (match mx, opd G x, oopd G lo, oopd G hi with
      | none, some x, some lo, some hi => some (.slS x lo hi)
      | _, _, _, _ => none)
    | some (.slice e) => (match opd G x, oopd G lo, oopd G hi, oopd G mx, zeroD P e with
      | some x, some lo, some hi, some mx, some zs => (match hi, mx with
        | none, some _ => none
        | _, _ => some (.sl zs.length x lo hi mx))
      | _, _, _, _, _ => none)
    | _ => none)
  | .fieldAddr t x f =>
    (match P.underlying t with
    | some (.struct fs) => (match fs[f]?, opd G x with
      | some fd, some x => (match szOf P fd.type with
        | some s => bif Nat.blt 0 s then some (.fld fd.offset x) else none
        | none => none)
      | _, _ => none)
    | _ => none)
  | .indexAddr t x i =>
    (match P.underlying t with
    | some (.slice e) => (match zeroD P e, opd G x, opd G i with
      | some zs, some x, some i => some (.idxa zs.length x i)
      | _, _, _ => none)
    | some (.array n e) => (match szOf P e, opd G x, opd G i with
      | some s, some x, some i => some (.idxA n s x i)
      | _, _, _ => none)
    | _ => none)
  | .index t x i =>
    (match P.underlying t with
    | some .string => (match opd G x, opd G i with
      | some x, some i => some (.idx x i)
      | _, _ => none)
    | some (.array n e) => (match szOf P e, aggB P e, opd G x, opd G i with
      | some s, some g, some x, some i => some (.idxV n s g x i)
      | _, _, _, _ => none)
    | _ => none)
  | .lookup t x k ok =>
    (match P.underlying t with
    | some (.map kt e) => (match zeroV P e, opd G x, opd G k, keyT P kt with
      | some z, some x, some k, some s => some (.look s z x k ok)
      | _, _, _, _ => none)
    | _ => none)
  | .mapUpdate t m k v =>
    (match P.underlying t with
    | some (.map kt _) => (match opd G m, opd G k, opd G v, keyT P kt with
      | some m, some k, some v, some s => some (.mupd s m k v)
      | _, _, _, _ => none)
    | _ => none)
  | .extract x i => (opd G x).map (.ext · i)
  | .call c =>
    (match c.callee with
    | .value (.func g) => (opds G c.args.toList).map (.call g)
    | .value x => (match opd G x, opds G c.args.toList with
      | some x, some l => some (.callv x l)
      | _, _ => none)
    | .builtin .append => (match c.argTypes[0]?, c.argTypes[1]?, c.args.toList with
      | some t, some t', [x, y] => (match slElem P t, P.underlying t' with
        | some e, some (.int _) => none
        | some e, some _ => (match zeroD P e, opd G x, opd G y with
          | some zs, some x, some y => some (.app zs.length x y)
          | _, _, _ => none)
        | _, _ => none)
      | _, _, _ => none)
    | .builtin .len => (match c.argTypes[0]?, c.args.toList with
      | some t, [x] => (match P.underlying t with
        | some .string => (opd G x).map (.len true)
        | some (.slice _) => (opd G x).map (.len false)
        | _ => none)
      | _, _ => none)
    | .builtin .copy => (match c.argTypes[0]?, c.args.toList with
      | some t, [x, y] => (match slElem P t with
        | some e => (match zeroD P e, opd G x, opd G y with
          | some zs, some x, some y => some (.copy zs.length x y)
          | _, _, _ => none)
        | none => none)
      | _, _ => none)
    | .builtin .clear => (match c.argTypes[0]?, c.args.toList with
      | some t, [x] => (match slElem P t with
        | some e => (match zeroD P e, opd G x with
          | some zs, some x => some (.clear zs x)
          | _, _ => none)
        | none => none)
      | _, _ => none)
    | .builtin .delete => (match c.argTypes[0]?, c.args.toList with
      | some t, [x, y] => (match P.underlying t with
        | some (.map kt _) => (match opd G x, opd G y, keyT P kt with
          | some x, some y, some s => some (.del s x y)
          | _, _, _ => none)
        | _ => none)
      | _, _ => none)
    | .builtin .max => (match c.args.toList with
      | [x, y] => (match opd G x, opd G y with
        | some x, some y => some (.max x y)
        | _, _ => none)
      | _ => none)
    | .builtin .min => (match c.args.toList with
      | [x, y] => (match opd G x, opd G y with
        | some x, some y => some (.min x y)
        | _, _ => none)
      | _ => none)
    | _ => none)
  | _ => none
def gtmp (all : Array Oper) : Option (Nat × Bool) → Option (Option (Nat × Bool))
  | none => some none
  | some (j, b) => match (all[j]?).bind (·.dst) with
    | some t => some (some (t, b))
    | none => none
def compOper (N : Nat) (all : Array Oper) (frz : Bool) (o : Oper) : Option COper :=
  match compOp P G frz o.op, gtmp all o.guard with
  | some c, some g => (match o.dst with
    | none => some { dst := none, guard := g, op := c }
    | some d => bif Nat.blt d N then some { dst := some d, guard := g, op := c } else none)
  | _, _ => none
/-- A literal of elements of five cells (branches) that may be written later: a row. -/
def rowify : COp → COp
  | .bslice true zs len ps => bif zs.length == 5 && Nat.blt 0 len then .brow zs len ps else .bslice true zs len ps
  | c => c
/-- The operations in the text's order. -/
def plainOps (N : Nat) (all : Array Oper) : Nat → List Oper → Option (List (Nat × COper))
  | _, [] => some []
  | i, o :: r => match compOper P G N all true o, plainOps N all (i + 1) r with
    | some c, some l => some ((i, { c with op := rowify c.op }) :: l)
    | _, _ => none

/-! ### Regions that draw their order -/
/-- What an operation does to memory. -/
inductive Cl where
  | p | r | a | c | w
  deriving DecidableEq
def clOf (pu : Nat → Bool) (o : Op) : Cl :=
  match o with
  | .load .. => .r
  | .lookup .. => .r
  | .slice .. => .r
  | .indexAddr .. => .r
  | .convert .. => .r
  | .alloc _ => .a
  | .box .. => .a
  | .makeMap .. => .a
  | .buildSlice .. => .p
  | .store .. => .w
  | .mapUpdate .. => .w
  | .makeSlice .. => .a
  | .call c => (match c.callee with
    | .value (.func g) => bif pu g then .c else .w
    | .builtin .len => .p
    | .builtin .max => .p
    | .builtin .min => .p
    | _ => .w)
  | _ => .p
/-- For each operation: the numbers of those that come before it in every order, as bits. -/
def ancs : List Oper → List Nat → List Nat
  | [], acc => acc
  | o :: r, acc => ancs r (acc ++ [o.after.toList.foldl (fun s e => bif Region.binds .any e then s ||| 2 ^ e.on ||| acc.getD e.on 0 else s) 0])
def looks (all : Array Oper) (o : Oper) : List Nat := o.looksAt all
/-- The two may come in either order. -/
def freeTmp (all : Array Oper) (x y : Oper) : Bool :=
  (match x.dst with | some d => !((looks all y).contains d) && !(y.dst == some d) | none => true) && (match y.dst with | some d => !((looks all x).contains d) | none => true)
/-- Is a slice literal in line with all that writes? -/
def inLine (pu : Nat → Bool) (anc : List Nat) (ops : List (Nat × Oper)) (i : Nat) : Bool :=
  ops.all fun (j, o) => j == i || (match clOf pu o.op with | .w => (anc.getD i 0).testBit j || (anc.getD j 0).testBit i | .c => (anc.getD i 0).testBit j || (anc.getD j 0).testBit i | _ => true)
def isBs : Op → Bool
  | .buildSlice .. => true
  | _ => false
def classes (pu : Nat → Bool) (anc : List Nat) (ops : List (Nat × Oper)) : List Cl :=
  ops.map fun (i, o) => bif isBs o.op && inLine pu anc ops i then .c else clOf pu o.op
/-- An order: what does not write comes as early as it can. -/
def canon (cs : List Cl) (anc : List Nat) (ops : List (Nat × Oper)) : Nat → Nat → List (Nat × Oper)
  | 0, _ => []
  | f + 1, done =>
    let ready := ops.filter fun (i, o) => !done.testBit i && (anc.getD i 0 &&& done == anc.getD i 0)
    match ready.find? fun (i, _) => match cs.getD i .p with | .c => false | .w => false | _ => true with
    | some (i, o) => (i, o) :: canon cs anc ops f (done ||| 2 ^ i)
    | none => match ready with
      | (i, o) :: _ => (i, o) :: canon cs anc ops f (done ||| 2 ^ i)
      | [] => []
def calm (all : Array Oper) (oq o : Oper) (wr : List Nat) : Bool :=
  (match oq.dst with | some d => !wr.contains d | none => false) && (looks all oq).all (fun t => !wr.contains t && !(o.dst == some t) && !(oq.dst == some t))
def isSt : Op → Bool
  | .store .. => true
  | _ => false
/-- May the two come in either order? some true: if the first is looked at again behind the second. -/
def eitherWay (cq ci : Cl) (mk : Bool) (sk : Bool) : Option Bool :=
  match cq, ci with
  | .p, _ => some false
  | _, .p => some false
  | .r, .r => some false
  | .r, .a => some false
  | .a, .r => some false
  | .a, .a => some false
  | .r, .c => some false
  | .a, .c => some mk
  | .r, .w => some true
  | .a, .w => some true
  | .w, .w => bif sk then some false else none
  | _, _ => none
def isMk : Op → Bool
  | .makeSlice .. => true
  | _ => false
/-- Those of the earlier operations l (the latest first) that have to be looked at again behind (i, o); none: not an order to go through. wr: what the operations between write. sk: an earlier store that may also come later. -/
def checks (cs : List Cl) (all : Array Oper) (a i : Nat) (o : Oper) (sk : Option Nat) : List (Nat × Oper) → List Nat → Option (List Nat)
  | [], _ => some []
  | (q, oq) :: l, wr =>
    match checks cs all a i o sk l (match oq.dst with | some d => d :: wr | none => wr) with
    | none => none
    | some r =>
      bif a.testBit q then some r
      else bif freeTmp all oq o then
        (match eitherWay (cs.getD q .p) (cs.getD i .p) (isMk oq.op) (sk == some q) with
          | some false => some r
          | some true => bif calm all oq o wr then some (q :: r) else none
          | none => none)
      else none
/-- An earlier store that need not come earlier: all else that touches memory comes before both. -/
def pairOf (cs : List Cl) (anc : List Nat) (all : Array Oper) (i : Nat) (o : Oper) (pre : List (Nat × Oper)) : Option (Nat × Operand) :=
  match pre.find? fun (q, oq) => isSt oq.op && isSt o.op && !(anc.getD i 0).testBit q with
  | none => none
  | some (q, oq) => match oq.op with
    | .store _ x _ => bif pre.all fun (r, p) => (r == q || cs.getD r .p == .p || cs.getD r .p == .r || ((anc.getD i 0).testBit r && (anc.getD q 0).testBit r)) && ((anc.getD q 0).testBit r || (match p.dst with | some d => !(looks all oq).contains d | none => true)) then some (q, x) else none
    | _ => none
def chkOf (N : Nat) (all : Array Oper) : List Nat → Option (List (Nat × Option Nat × Option (Nat × Bool) × COp))
  | [] => some []
  | q :: l => match all[q]?, chkOf N all l with
    | some o, some r => (match compOper P G N all false o with
      | some c => some ((q, c.dst, c.guard, c.op) :: r)
      | none => none)
    | _, _ => none
def clOK (pu : Nat → Bool) (c : Cl) (o : COp) : Bool :=
  match c with
  | .p => isPu o
  | .r => isRd o
  | .a => isAl o
  | .c => isSo pu o
  | .w => true
def mkOK (o : Op) (c : COp) : Bool :=
  match c with
  | .mkslice .. => isMk o
  | _ => true
def drawnOps (pu : Nat → Bool) (cs : List Cl) (N : Nat) (all : Array Oper) (anc : List Nat) : List (Nat × Oper) → List (Nat × Oper) → Option (List (Nat × COper))
  | _, [] => some []
  | pre, (i, o) :: r =>
    bif o.after.toList.all (fun e => !Region.binds .any e || pre.any (fun (j, _) => j == e.on)) && !pre.any (fun (j, _) => j == i) then
      (match compOper P G N all (cs.getD i .p == .c) o, drawnOps pu cs N all anc ((i, o) :: pre) r with
      | some c, some l => bif c.op.ts.all (fun t => (looks all o).contains t) && clOK pu (cs.getD i .p) c.op && mkOK o.op c.op then (match checks cs all (anc.getD i 0) i o none pre [] with
        | some q => (match chkOf P G N all q with
          | some q => some ((i, { c with chk := q }) :: l)
          | none => none)
        | none => (match pairOf cs anc all i o pre with
          | some (q, x) => (match checks cs all (anc.getD i 0) i o (some q) pre [], opd G x with
            | some ql, some x => (match chkOf P G N all ql with
              | some ql => some ((i, { c with chk := ql, dis := some x }) :: l)
              | none => none)
            | _, _ => none)
          | none => none)) else none
      | _, _ => none)
    else none
def compReg (pu : Nat → Bool) (N : Nat) (ops : Array Oper) (draw : Bool) : Option (List (Nat × COper)) :=
  match draw with
  | false => plainOps P G N ops 0 ops.toList
  | true =>
    let anc := ancs ops.toList []
    let l := ops.toList.zipIdx.map fun (o, i) => (i, o)
    let cs := classes pu anc l
    let c := canon cs anc l ops.size 0
    bif (List.range ops.size).all (fun i => c.any fun (j, _) => j == i) then drawnOps P G pu cs N ops anc [] c else none
def comp (pu : Nat → Bool) (N : Nat) : Code → CCode
  | .skip => .skip
  | .region _ ops d => (match compReg P G pu N ops d with | some l => .reg ops.size l | none => .bad)
  | .seq a b => .seq (comp pu N a) (comp pu N b)
  | .cond c a b => match opd G c with | some x => .cond x (comp pu N a) (comp pu N b) | none => .bad
  | .block id b => .block id (comp pu N b)
  | .loop b => .loop (comp pu N b)
  | .exit id => .exit id
  | .ret => .ret
  | _ => .bad
def compR : List ResultVar → Option (List (Opd × Option (Option Nat)))
  | [] => some []
  | .tmp t :: l => (compR l).map ((.t t, none) :: ·)
  | .cell a t :: l => match ldSz P t, compR l with
    | some s, some r => some ((.t a, some s) :: r)
    | _, _ => none
def compF (pu : Nat → Bool) (fn : Func) (pure bor frz own : Bool) : Option CFun :=
  match fn.body, compR P fn.results.toList with
  | some b, some r => some { results := r, body := comp P G pu fn.ntmps b, pure, bor, frz, own }
  | _, _ => none
end
end Tm
/- The machine's answers do not depend on its fuel. No statement of the seat is proved here. -/
namespace Tm
open Go
set_option linter.unusedVariables false
set_option linter.unusedSimpArgs false
def Sub (a b : Self) : Prop := ∀ c s, a c s ≠ .bad → b c s = a c s
def SubC (a b : CallF) : Prop := ∀ g args h n r, a g args h n = some r → b g args h n = some r
theorem callA_mono {F : Nat → Option CFun} {a b : Self} (h : Sub a b) : SubC (callA F a) (callA F b) := by
  intro g args hp n r hr
  unfold callA at hr ⊢
  cases hF : F g with
  | none => simp [hF] at hr
  | some cf =>
    simp only [hF] at hr ⊢
    cases hp2 : cf.pure with
    | true =>
      simp only [hp2] at hr ⊢
      cases h1 : argsD cf.bor args hp with
      | none => simp [h1] at hr
      | some p =>
        obtain ⟨as, h2⟩ := p
        simp only [h1] at hr ⊢
        have hne : a cf.body ⟨initE 0 as .lf, .lf, 0⟩ ≠ .bad := by intro e; rw [e] at hr; simp at hr
        rw [h _ _ hne]; exact hr
    | false =>
      simp only [hp2] at hr ⊢
      cases har : arOK cf args with
      | false => simp [har] at hr
      | true =>
        simp only [har] at hr ⊢
        have hne : a cf.body ⟨initE 0 args .lf, hp, n⟩ ≠ .bad := by intro e; rw [e] at hr; simp at hr
        rw [h _ _ hne]; exact hr
theorem doOp_mono {a b : CallF} (h : SubC a b) {o : COp} {s : St} {k : Nat} {r : AV × Heap × Nat} (hr : doOp a o s k = some r) : doOp b o s k = some r := by
  cases o with
  | call g l => exact h _ _ _ _ _ hr
  | callv x l =>
    simp only [doOp] at hr ⊢
    split at hr
    · exact h _ _ _ _ _ hr
    · cases hr
  | _ => exact hr
theorem evOps_mono {a b : CallF} (h : SubC a b) {n0 : Nat} : ∀ {l : List (Nat × COper)} {s s' : St}, evOps a n0 l s = some s' → evOps b n0 l s = some s'
  | [], _, _, hr => hr
  | (i, o) :: l, s, s', hr => by
    simp only [evOps] at hr ⊢
    split at hr
    · cases hr
    · split at hr
      · rename_i hd
        rw [doOp_mono h hd]
        simp only
        split at hr
        · exact evOps_mono h hr
        · cases hr
      · cases hr
    · exact evOps_mono h hr
theorem step_mono {F : Nat → Option CFun} {a b : Self} (h : Sub a b) : Sub (step F a) (step F b) := by
  intro c s hne
  cases c with
  | reg len ops =>
    simp only [step] at hne ⊢
    cases he : evOps (callA F a) s.n ops ⟨s.e, s.h, s.n + len⟩ with
    | none => rw [he] at hne; exact absurd rfl hne
    | some s' => rw [evOps_mono (callA_mono h) he]
  | seq x y =>
    simp only [step] at hne ⊢
    have hx : a x s ≠ .bad := by intro e; rw [e] at hne; exact hne rfl
    rw [h _ _ hx]
    cases hr : a x s with
    | nor s1 => rw [hr] at hne; exact h _ _ hne
    | _ => rfl
  | cond c x y =>
    simp only [step] at hne ⊢
    split at hne
    · exact h _ _ hne
    · exact h _ _ hne
    · exact absurd rfl hne
  | block id x =>
    simp only [step] at hne ⊢
    have hx : a x s ≠ .bad := by intro e; rw [e] at hne; exact hne rfl
    rw [h _ _ hx]
  | loop x =>
    simp only [step] at hne ⊢
    have hx : a x s ≠ .bad := by intro e; rw [e] at hne; exact hne rfl
    rw [h _ _ hx]
    cases hr : a x s with
    | nor s1 => rw [hr] at hne; exact h _ _ hne
    | _ => rfl
  | _ => rfl
theorem ev_mono {F : Nat → Option CFun} : ∀ {k j : Nat}, k ≤ j → Sub (ev F k) (ev F j)
  | 0, j, _ => fun c s h => absurd rfl h
  | k + 1, 0, h => by omega
  | k + 1, j + 1, h => step_mono (ev_mono (by omega))
end Tm
