/- An evaluator of Go functions over a memory of one's own, in which the order inside a statement and a new array's capacity are settled: definitions. What it answers, every run answers (see the texts that follow). -/
import Derived.LoopN
import Derived.Scope
import Derived.Orders
import Derived.Below
import Derived.KernelRfl
namespace Go.Proofs.YtnnajiaaakkjfaaDoor.E
open Go
set_option linter.unusedVariables false

/-- What lies in a block of the call's own: cells ('k' not 0: a row that may have room behind it, of elements of k cells), or a map. -/
inductive AObj where
  | dead
  | row (cells : List Value) (k : Nat)
  | map (es : Array MapEntry) (clk : Nat)

/-- The memory: blocks by numbers, the next number, and the number below which nothing may be written. -/
structure St where
  heap : Nat → AObj
  c : Nat
  lock : Nat

def St.upd (S : St) (i : Nat) (o : AObj) : St := { heap := fun j => if j = i then o else S.heap j, c := S.c, lock := S.lock }
def St.new (S : St) (o : AObj) : St := { heap := fun j => if j = S.c then o else S.heap j, c := S.c + 1, lock := S.lock }
def St.relock (S : St) (l : Nat) : St := { heap := S.heap, c := S.c, lock := l }

/-- An operation that asks nothing of the world. -/
def still (P : Program) {α : Type} : Sem α → Option α
  | .pure a => some a
  | .program k => still P (k P)
  | .mark _ k => still P k
  | _ => none

def flat0 : Value → Bool
  | .bool _ | .int _ _ | .string _ | .float _ _ => true
  | .pointer none | .slice none _ _ | .map none | .nilFunc => true
  | _ => false
/-- What a slot holds of which nothing is known. -/
def junk : Value := .chan none
def notJ : Value → Bool
  | .chan _ => false
  | _ => true
/-- No address in it. -/
def flat : Value → Bool
  | .agg cs => cs.all flat0
  | v => flat0 v
def stillF (P : Program) (m : Sem Value) : Option Value := match still P m with | some v => if flat v then some v else none | none => none
/-- A cell whose addresses are of blocks that were there. -/
def oldV (W : World) : Value → Bool
  | .pointer (some a) => decide (a.block < W.heap.size)
  | .slice (some a) _ _ => decide (a.block < W.heap.size)
  | .map (some r) => decide (r < W.heap.size)
  | v => flat0 v

def oldCells (W : World) (a : Addr) : Nat → Nat → Option (List Value)
  | _, 0 => some []
  | i, n + 1 =>
    match W.cell? (a.add i) with
    | some v => if oldV W v then (match oldCells W a (i + 1) n with | some l => some (v :: l) | none => none) else none
    | none => none

def St.cells (W : World) (S : St) (a : Addr) (n : Nat) : Option (List Value) :=
  if n = 0 then some [] else
  if a.block < W.heap.size then oldCells W a 0 n
  else match S.heap a.block with
    | .row cs _ => if a.off + n ≤ cs.length then some ((cs.drop a.off).take n) else none
    | _ => none

def St.cell (W : World) (S : St) (a : Addr) : Option Value :=
  if a.block < W.heap.size then (match W.cell? a with | some v => if oldV W v then some v else none | none => none)
  else match S.heap a.block with
    | .row cs _ => cs[a.off]?
    | _ => none

def splice : List Value → Nat → List Value → List Value
  | cs, _, [] => cs
  | cs, o, v :: vs => splice (cs.set o v) (o + 1) vs

def storable : Value → Bool
  | .agg _ | .tuple _ | .chan _ => false
  | _ => true

def St.put (S : St) (a : Addr) (vs : List Value) : Option St :=
  if vs.length = 0 then some S else
  if S.lock ≤ a.block then
    match S.heap a.block with
    | .row cs fx => if a.off + vs.length ≤ cs.length then (if vs.all storable then some (S.upd a.block (.row (splice cs a.off vs) fx)) else none) else none
    | _ => none
  else none

/-- May a slice of this block grow in place (none: not known)? -/
def St.fx (W : World) (S : St) (a : Addr) : Option Nat :=
  if a.block < W.heap.size then some 0 else match S.heap a.block with | .row _ k => some k | _ => none

def bnd (x : Option Value) (dflt y : Nat) : Option Nat :=
  match x with
  | none => some dflt
  | some (.int _ i) => if 0 ≤ i ∧ i ≤ (y : Int) then some i.toNat else none
  | some _ => none

section
variable (P : Program) (W : World)

def szOf (t : TypeId) : Option Nat := (P.info? t).map (·.size)

def aLoad (S : St) (t : TypeId) (x : Value) : Option Value :=
  match x with
  | .pointer (some a) =>
    match P.underlying t with
    | some (.struct _) | some (.array _ _) => (match szOf P t with | some n => (match S.cells W a n with | some l => some (.agg l.toArray) | none => none) | none => none)
    | some _ => S.cell W a
    | none => none
  | _ => none

def aStore (S : St) (t : TypeId) (x v : Value) : Option St :=
  match x with
  | .pointer (some a) => if szOf P t = some v.cells.size ∧ notJ v = true then S.put a v.cells.toList else none
  | _ => none

def nilish : Value → Bool
  | .pointer none | .slice none _ _ | .map none | .nilFunc => true
  | _ => false

def isEq : BinOp → Bool
  | .eql | .neq => true
  | _ => false

def aBin (op : BinOp) (t : TypeId) (a b : Value) : Option Value :=
  if (flat a && flat b) || (isEq op && (nilish a || nilish b) && notJ a) then
    stillF P (do eqGuard op t (.const (.bool true)) (.const (.bool true)) a b; binOp op t a b)
  else none

def aUn (op : UnOp) (a : Value) : Option Value := if flat a then stillF P (Op.unary op a) else none

def bytesOfCells : List Value → Option (List UInt8)
  | [] => some []
  | .int .u8 n :: r => (match bytesOfCells r with | some l => some (UInt8.ofNat n.toNat :: l) | none => none)
  | _ => none

def aConv (S : St) (src dst : TypeId) (x : Value) : Option (Value × St) :=
  match x with
  | .slice (some a) n _ =>
    match P.underlying src, P.underlying dst with
    | some (.slice e), some .string =>
      (match P.underlying e with
      | some (.int .u8) => (match S.cells W a n with | some l => (match bytesOfCells l with | some bs => some (.string ⟨bs.toArray⟩, S) | none => none) | none => none)
      | _ => none)
    | _, _ => none
  | .string s =>
    match P.underlying dst with
    | some (.slice e) =>
      (match P.underlying e with
      | some (.int .u8) => if s.size ≤ 2 ^ 62 then some (.slice (some ⟨S.c, 0, none⟩) s.size s.size, S.new (.row (s.data.toList.map fun b => .int .u8 b.toNat) 1)) else none
      | _ => none)
    | _ => (match stillF P (convert src dst x) with | some v => some (v, S) | none => none)
  | x => if flat x then (match stillF P (convert src dst x) with | some v => some (v, S) | none => none) else none

def aFieldAddr (s : TypeId) (x : Value) (f : Nat) : Option Value :=
  match P.underlying s, x with
  | some (.struct fs), .pointer (some a) =>
    match fs[f]? with
    | some fd => (match szOf P fd.type with | some n => if n = 0 then none else some (.pointer (some (a.add fd.offset))) | none => none)
    | none => none
  | _, _ => none

def aIndexAddr (t : TypeId) (x i : Value) : Option Value :=
  match i with
  | .int _ i =>
    match P.underlying t, x with
    | some (.slice e), .slice (some a) len _ => if 0 ≤ i ∧ i < (len : Int) then (match szOf P e with | some n => some (.pointer (some (a.add (i.toNat * n)))) | none => none) else none
    | some (.array len e), .pointer (some a) => if 0 ≤ i ∧ i < (len : Int) then (match szOf P e with | some n => some (.pointer (some (a.add (i.toNat * n)))) | none => none) else none
    | _, _ => none
  | _ => none

def aBounds (len cap : Nat) (lo hi mx : Option Value) : Option (Nat × Nat × Nat) :=
  match bnd mx cap cap with
  | none => none
  | some m =>
    match (match hi, mx with | some v, _ => bnd (some v) 0 m | none, none => if len ≤ m then some len else none | none, some _ => none) with
    | none => none
    | some h => match bnd lo 0 h with | none => none | some l => some (l, h, m)

/-- A slice of which it is known that there is no room behind it, and nothing in it. -/
def isZ (a : Addr) : Bool := a.spot == some 0 && decide (W.heap.size ≤ a.block)

def aSlice (S : St) (t : TypeId) (x : Value) (lo hi mx : Option Value) : Option Value :=
  match x with
  | .slice (some a) len cap =>
    if isZ W a then none else
    match P.underlying t with
    | some (.slice e) =>
      (match szOf P e, S.fx W a, aBounds len cap lo hi mx with
      | some n, some fx, some (l, h, m) => if fx = 0 ∨ fx = n then some (if m = l ∧ fx ≠ 0 ∧ mx.isSome = true then .slice (some ⟨a.block, a.off, some 0⟩) 0 0 else .slice (some (if m = l ∧ fx = 0 then a else a.add (l * n))) (h - l) (m - l)) else none
      | _, _, _ => none)
    | _ => none
  | .pointer (some a) =>
    match P.underlying t with
    | some (.array n e) =>
      (match szOf P e, S.fx W a, aBounds n n lo hi mx with
      | some k, some 0, some (l, h, m) => some (.slice (some (if m = l then a else a.add (l * k))) (h - l) (m - l))
      | _, _, _ => none)
    | _ => none
  | .string _ | .slice none _ _ => if lo.all flat && hi.all flat && mx.all flat then stillF P (Instr.sliceAt t x lo hi mx) else none
  | _ => none

def aLen (S : St) (ts : Array TypeId) (args : Array Value) : Option Value :=
  match ts[0]?, (args[0]? : Option Value) with
  | some t, some (.map (some r)) =>
    (match P.underlying t with
    | some (.map _ _) => if r < W.heap.size then none else (match S.heap r with | .map es _ => some (goInt es.size) | _ => none)
    | _ => none)
  | some _, some x => if notJ x then stillF P (Builtin.len_ ts 0 args) else none
  | _, _ => none

def zeros (n : Nat) (z : List Value) : List Value := (List.range n).flatMap fun _ => z

/-- The cells that an append lays behind, and how many elements they are. -/
def srcCells (S : St) (size : Nat) (x : Value) : Option (Nat × List Value) :=
  match x with
  | .slice (some a) n _ => (match S.cells W a (n * size) with | some l => some (n, l) | none => none)
  | .slice none n _ => if n = 0 then some (0, []) else none
  | .string s => if size = 1 then some (s.size, s.data.toList.map fun b => .int .u8 b.toNat) else none
  | _ => none

def isIntT (t : TypeId) : Bool := match P.underlying t with | some (.int _) => true | _ => false

def srcOf (S : St) (xt : TypeId) (size : Nat) (z x : Value) : Option (Nat × List Value) :=
  if (P.underlying xt).isNone then none else if isIntT P xt then (match x with | .int .i64 n => if 0 ≤ n ∧ n ≤ 2 ^ 46 then some (n.toNat, zeros n.toNat z.cells.toList) else none | _ => none) else srcCells W S size x

def aAppend (S : St) (ts : Array TypeId) (args : Array Value) : Option (Value × St) :=
  match ts[0]?, ts[1]?, (args[0]? : Option Value), (args[1]? : Option Value) with
  | some st, some xt, some (.slice base sLen sCap), some x =>
    match P.underlying st with
    | some (.slice e) =>
      (match P.info? e with
      | some ie =>
        (match ie.zero with
        | some z =>
          if z.cells.size = ie.size ∧ 0 < ie.size ∧ 0 < ie.bytes ∧ flat z = true then
            (match srcOf P W S xt ie.size z x with
            | some (n, new) =>
              if (sLen + n + (sLen + n) / 4 + 512) * ie.bytes ≤ 2 ^ 48 then
                (match base with
                | none =>
                  if sLen = 0 ∧ sCap = 0 then
                    (if n = 0 then some (.slice none 0 0, S) else some (.slice (some ⟨S.c, 0, none⟩) n n, S.new (.row new ie.size)))
                  else none
                | some a =>
                  if isZ W a then (if sLen = 0 ∧ sCap = 0 then (if n = 0 then some (.slice (some a) 0 0, S) else some (.slice (some ⟨S.c, 0, none⟩) n n, S.new (.row new ie.size))) else none) else
                  (match S.fx W a with
                  | some (k + 1) =>
                    (match S.heap a.block with
                    | .row cs _ =>
                      if k + 1 = ie.size ∧ a.off + sLen * ie.size ≤ cs.length ∧ S.lock ≤ a.block ∧ new.all storable = true then
                        some (.slice (some ⟨S.c, 0, none⟩) (sLen + n) (sLen + n), (S.upd a.block .dead).new (.row ((cs.drop a.off).take (sLen * ie.size) ++ new) ie.size))
                      else none
                    | _ => none)
                  | some 0 =>
                    if sLen + n ≤ sCap then
                      (match S.put (a.add (sLen * ie.size)) new with
                      | some S' => some (.slice base (sLen + n) sCap, S')
                      | none => none)
                    else
                      (match S.cells W a (sLen * ie.size) with
                      | some old => some (.slice (some ⟨S.c, 0, none⟩) (sLen + n) (sLen + n), S.new (.row (old ++ new) ie.size))
                      | none => none)
                  | none => none))
              else none
            | none => none)
          else none
        | none => none)
      | none => none)
    | _ => none
  | _, _, _, _ => none

def aMakeSlice (S : St) (t : TypeId) (l c : Value) : Option (Value × St) :=
  match P.underlying t, l, c with
  | some (.slice e), .int .i64 l, .int .i64 c =>
    (match P.info? e with
    | some ie =>
      (match ie.zero with
      | some z =>
        if z.cells.size = ie.size ∧ 0 < ie.size ∧ flat z = true ∧ 0 ≤ l ∧ l ≤ c ∧ c ≤ 2 ^ 47 ∧ ie.bytes * c ≤ 2 ^ 48 then
          some (.slice (some ⟨S.c, 0, none⟩) l.toNat c.toNat, S.new (.row (zeros c.toNat z.cells.toList) 0))
        else none
      | none => none)
    | none => none)
  | _, _, _ => none

def callOk (g : FuncId) : Bool :=
  match P.funcs[g]? with
  | some fn => fn.body.isSome && fn.name != "runtime.NumGoroutine"
  | none => false

abbrev Caller := FuncId → Array Value → St → Option (Value × St)

def aCall (C : Caller) (S : St) (f : Value) (args : Array Value) : Option (Value × St) :=
  match f with
  | .func (.func g) first captured => if callOk P g then C g (first ++ args ++ captured) S else none
  | _ => none

def justV (x : Option Value) (S : St) : Option (Value × St) := match x with | some v => some (v, S) | none => none

def aZero (t : TypeId) : Option Value := match P.info? t with | some i => (match i.zero with | some z => if flat z then some z else none | none => none) | none => none
def aBuild (t : TypeId) (parts : Array (Nat × Value)) : Option Value := match aZero P t with | some _ => if parts.toList.all (fun p => notJ p.2) then still P (Instr.build t parts) else none | none => none

def aBuildSlice (S : St) (t : TypeId) (len : Nat) (parts : Array (Nat × Value)) : Option (Value × St) :=
  match P.underlying t with
  | some (.slice e) =>
    (match szOf P e, aZero P e with
    | some size, some z =>
      if 0 < len * size ∧ len * size ≤ 2 ^ 24 ∧ parts.toList.all (fun p => notJ p.2) = true then
        (match Instr.fill (fun i => some (i * size, size)) ((Array.range (len * size)).map (z.cells[· % z.cells.size]!)) parts.toList with
        | some cells => some (.slice (some ⟨S.c, 0, none⟩) len len, S.new (.row cells.toList 0))
        | none => none)
      else none
    | _, _ => none)
  | _ => none

/-- Maps with keys and elements of whole numbers. -/
def mapGet (es : Array MapEntry) (k : Int) : Option Value :=
  (es.find? fun e => match e.key with | .int _ n => n == k | _ => false).map (·.val)

def aBuiltin (S : St) (b : Builtin) (ts : Array TypeId) (args : Array Value) : Option (Value × St) :=
  match b with
  | .len => justV (aLen P W S ts args) S
  | .append => aAppend P W S ts args
  | .max => if args.all flat then justV (stillF P (Builtin.max_ ts 0 args)) S else none
  | .min => if args.all flat then justV (stillF P (Builtin.min_ ts 0 args)) S else none
  | _ => none

def aPick (c a b : Value) : Option Value := match c with | .bool t => some (if t then a else b) | _ => none
def aAlloc (S : St) (e : TypeId) : Option (Value × St) := match aZero P e with | some z => some (.pointer (some ⟨S.c, 0, none⟩), S.new (.row z.cells.toList 0)) | none => none
def aBox (S : St) (v : Value) : Option (Value × St) := if notJ v then some (.pointer (some ⟨S.c, 0, none⟩), S.new (.row v.cells.toList 0)) else none
def aNil (x : Value) : Option Value := match x with | .pointer (some a) => some (.pointer (some a)) | .func (.func f) u v => some (.func (.func f) u v) | _ => none

/-- One operation. -/
def opStep (C : Caller) (ρ : Operand → Value) (o : Oper) (S : St) : Option (Value × St) :=
  match o.op with
  | .move x | .assign x => some (ρ x, S)
  | .pick c a b => justV (aPick (ρ c) (ρ a) (ρ b)) S
  | .alloc e => aAlloc P S e
  | .box _ x => aBox S (ρ x)
  | .build t parts => justV (aBuild P t (parts.map fun (i, x) => (i, ρ x))) S
  | .buildSlice t len parts => aBuildSlice P S t len (parts.map fun (i, x) => (i, ρ x))
  | .load t a => justV (aLoad P W S t (ρ a)) S
  | .store t a x => (match aStore P S t (ρ a) (ρ x) with | some S' => some (undef, S') | none => none)
  | .nilCheck x => justV (aNil (ρ x)) S
  | .binOp op t x y _ => justV (aBin P op t (ρ x) (ρ y)) S
  | .unOp op _ x => justV (aUn P op (ρ x)) S
  | .convert src dst x => aConv P W S src dst (ρ x)
  | .makeFunc fn first captured => some (.func fn (first.map ρ) (captured.map ρ), S)
  | .makeSlice t l c => aMakeSlice P S t (ρ l) (ρ c)
  | .slice t x lo hi mx => justV (aSlice P W S t (ρ x) (lo.map ρ) (hi.map ρ) (mx.map ρ)) S
  | .fieldAddr s x f => justV (aFieldAddr P s (ρ x) f) S
  | .field t x f => justV (still P (Instr.field t (ρ x) f)) S
  | .indexAddr t x i => justV (aIndexAddr P t (ρ x) (ρ i)) S
  | .index t x i => justV (still P (Instr.index t (ρ x) (ρ i))) S
  | .extract t i => justV (still P (Instr.extract (ρ t) i)) S
  | .call c =>
    (match c.callee with
    | .builtin b => aBuiltin P W S b c.argTypes (c.args.map ρ)
    | .value f => aCall P C S (ρ f) (c.args.map ρ)
    | .invoke _ _ => none)
  | _ => none

def unlock (l : Nat) (x : Option (Value × St)) : Option (Value × St) := match x with | some (v, S) => some (v, S.relock l) | none => none

def Ok (S : St) : Prop := S.lock ≤ S.c ∧ ∀ i, S.c ≤ i → S.heap i = .dead

/-- Is it known whether the operation is wanted? -/
def guardOk (o : Oper) (ops : Array Oper) (tmps : Array Value) : Bool :=
  match o.guard with
  | none => true
  | some (j, _) => match ((ops[j]?).bind (·.dst)).bind (tmps[·]?) with | some v => notJ v | none => true

/-- A row of operations, in the order of the text; 'true' beside one: it may write nothing that was there ahead of it. -/
def opsC (C : Caller) (ops : Array Oper) : List (Oper × Bool) → Act → St → Option (Act × St)
  | [], A, S => some (A, S)
  | (o, q) :: rest, A, S =>
    if guardOk o ops A.tmps = false then none else
    if Region.wanted o (yielded ops A.tmps) then
      match (if q then unlock S.lock (opStep P W C A.eval o (S.relock S.c)) else opStep P W C A.eval o S) with
      | some (v, S') => opsC C ops rest (A.put o.dst v) S'
      | none => none
    else opsC C ops rest (A.put o.dst undef) S

end

/-- Operations that neither read nor write memory. -/
def pureOp : Op → Bool
  | .move _ | .assign _ | .pick .. | .build .. | .nilCheck _ | .binOp .. | .unOp .. | .makeFunc .. | .fieldAddr .. | .field .. | .indexAddr .. | .index .. | .extract .. => true
  | .call { callee := .builtin .max, .. } | .call { callee := .builtin .min, .. } => true
  | _ => false

/-- What each operation comes behind. -/
def befGo : List Oper → List Nat → List Nat
  | [], acc => acc
  | o :: rest, acc => befGo rest (acc ++ [o.after.toList.foldl (fun s e => if Region.binds .any e then s ||| 2 ^ e.on ||| acc.getD e.on 0 else s) 0])
def bef (ops : List Oper) : List Nat := befGo ops []

def clash (ops : Array Oper) (x y : Oper) : Bool :=
  (match x.dst with | some d => (y.looksAt ops).contains d || y.dst == some d | none => false) ||
  (match y.dst with | some d => (x.looksAt ops).contains d | none => false)

def isSelect : Op → Bool
  | .select .. => true
  | _ => false

def regionOk (ops : Array Oper) : Bool :=
  let l := ops.toList.zipIdx
  let b := bef ops.toList
  (l.all fun (o, i) => !isSelect o.op && o.after.toList.all fun e => !Region.binds .any e || decide (e.on < i)) &&
  l.all fun (o, j) => l.all fun (p, i) => !(decide (i < j) && clash ops p o) || (b.getD j 0).testBit i

/-- Is it in order with each operation on memory? -/
def inOrder (ops : Array Oper) (i : Nat) : Bool :=
  let b := bef ops.toList
  ops.toList.zipIdx.all fun (p, j) => pureOp p.op || i == j || (if j < i then (b.getD i 0).testBit j else (b.getD j 0).testBit i)

def flags (ops : Array Oper) (draw : Bool) : List (Oper × Bool) :=
  ops.toList.zipIdx.map fun (o, i) => (o, draw && !pureOp o.op && !inOrder ops i)

/-- Operands that stand for something at any time. -/
def operOk (P : Program) : Operand → Bool
  | .const v => flat v
  | .global g => decide (g < P.globals.size)
  | _ => true
def opOk (P : Program) (o : Oper) : Bool :=
  o.op.operands.all (operOk P) &&
  (match o.op with
   | .convert src _ _ => (P.underlying src).isSome
   | .call { callee := .builtin .append, args, .. } => args.size == 2
   | _ => true)

section
variable (P : Program) (W : World)

def regC (C : Caller) (ops : Array Oper) (draw : Bool) (A : Act) (S : St) : Option (Act × St) :=
  if ops.toList.all (opOk P) && (!draw || regionOk ops) then opsC P W C ops (flags ops draw) A S else none

abbrev Out := Option (Exit × Act × St)

def loopN (body : Act → St → Out) : Nat → Act → St → Out
  | 0, _, _ => none
  | n + 1, A, S =>
    match body A S with
    | some (.normal, A', S') => loopN body n A' S'
    | r => r

/-! Slots that a loop's round writes ahead of reading them: they are forgotten between rounds. -/
def opReads (ops : Array Oper) (o : Oper) : List Tmp := o.looksAt ops
structure Flow where
  ue : List Tmp
  fall : Option (List Tmp)
  exits : List (Nat × List Tmp)
def meet (a b : Option (List Tmp)) : Option (List Tmp) :=
  match a, b with
  | none, x | x, none => x
  | some x, some y => some (x.filter y.contains)
def flowOps (ops : Array Oper) : List Oper → List Tmp → List Tmp → List Tmp × List Tmp
  | [], ue, wr => (ue, wr)
  | o :: l, ue, wr => flowOps ops l (((opReads ops o).filter fun t => !wr.contains t) ++ ue) (match o.dst with | some d => d :: wr | none => wr)
def flow : Code → List Tmp → Flow
  | .region _ ops _, wr => let (ue, wr') := flowOps ops ops.toList [] wr; ⟨ue, some wr', []⟩
  | .seq a b, wr =>
    let fa := flow a wr
    match fa.fall with
    | some wr' => let fb := flow b wr'; ⟨fa.ue ++ fb.ue, fb.fall, fa.exits ++ fb.exits⟩
    | none => fa
  | .cond c a b, wr =>
    let fa := flow a wr
    let fb := flow b wr
    ⟨(match c with | .tmp t => if wr.contains t then [] else [t] | _ => []) ++ fa.ue ++ fb.ue, meet fa.fall fb.fall, fa.exits ++ fb.exits⟩
  | .block id a, wr =>
    let fa := flow a wr
    ⟨fa.ue, (fa.exits.filter (·.1 == id)).foldl (fun s e => meet s (some e.2)) fa.fall, fa.exits.filter (·.1 != id)⟩
  | .loop a, wr => let fa := flow a wr; ⟨fa.ue, none, fa.exits⟩
  | .scope a, wr => flow a wr
  | .exit id, wr => ⟨[], none, [(id, wr)]⟩
  | .ret, _ => ⟨[], none, []⟩
  | _, wr => ⟨[], some wr, []⟩
def writes : Code → List Tmp
  | .region _ ops _ => ops.toList.filterMap (·.dst)
  | .seq a b | .cond _ a b => writes a ++ writes b
  | .block _ a | .loop a | .scope a => writes a
  | _ => []
/-- The slots to forget between the rounds of a loop. -/
def deadIn (c : Code) : List Tmp := let ue := (flow c []).ue; (writes c).filter fun t => !ue.contains t
def clr (ts : List Tmp) (A : Act) : Act := { tmps := ts.foldl (fun a t => a.setIfInBounds t junk) A.tmps, defers := A.defers }
def clrOut (ts : List Tmp) : Out → Out
  | some (.normal, A, S) => some (.normal, clr ts A, S)
  | r => r

abbrev Looper := (Act → St → Out) → Act → St → Out

def codeC (C : Caller) (L : Looper) : Code → Act → St → Out
  | .skip, A, S | .label _, A, S => some (.normal, A, S)
  | .region _ ops draw, A, S => (match regC P W C ops draw A S with | some (A', S') => some (.normal, A', S') | none => none)
  | .seq a b, A, S => (match codeC C L a A S with | some (.normal, A', S') => codeC C L b A' S' | r => r)
  | .cond c a b, A, S => (match A.eval c with | .bool true => codeC C L a A S | .bool false => codeC C L b A S | _ => none)
  | .block id a, A, S => (match codeC C L a A S with | some (.exit i, A', S') => if i = id then some (.normal, A', S') else some (.exit i, A', S') | r => r)
  | .loop a, A, S => L (fun A S => clrOut (deadIn a) (codeC C L a A S)) (clr (deadIn a) A) S
  | .exit id, A, S => some (.exit id, A, S)
  | .scope a, A, S => (match codeC C L a A S with | some (.goto _, _, _) => none | r => r)
  | .ret, A, S => some (.ret, A, S)
  | _, _, _ => none

def resV (S : St) (tmps : Array Value) : ResultVar → Option Value
  | .tmp t => some (tmps.getD t undef)
  | .cell a t => aLoad P W S t (tmps.getD a undef)

def resL (S : St) (tmps : Array Value) : List ResultVar → Option (List Value)
  | [] => some []
  | r :: rs => (match resV P W S tmps r with | some v => (match resL S tmps rs with | some l => some (v :: l) | none => none) | none => none)

def packed : List Value → Value
  | [v] => v
  | l => .tuple l.toArray

def finish (fn : Func) (r : Out) : Option (Value × St) :=
  match r with
  | some (.normal, A, S) | some (.ret, A, S) => (match resL P W S A.tmps fn.results.toList with | some l => some (packed l, S) | none => none)
  | _ => none

def bodyC (C : Caller) (L : Looper) (f : FuncId) (args : Array Value) (S : St) : Option (Value × St) :=
  match P.funcs[f]? with
  | some fn => (match fn.body with
    | some c => finish P W fn (codeC P W C L c { tmps := args ++ Array.replicate (fn.ntmps - args.size) undef, defers := [] } S)
    | none => none)
  | none => none

/-! What a call leaves behind it and nobody can reach any more is forgotten, at the functions G. -/
def flatR : Value → Bool
  | .tuple cs => cs.all flat
  | v => flat v
def Low (S S' : St) : Prop := S'.lock = S.lock ∧ S.c ≤ S'.c ∧ ∀ i, i < S.c → S'.heap i = S.heap i
/-- No address of a block n or above. -/
def vlt0 (n : Nat) : Value → Bool
  | .pointer (some a) => decide (a.block < n)
  | .slice (some a) _ _ => decide (a.block < n)
  | .map (some r) => decide (r < n)
  | .agg _ | .tuple _ | .func .. => false
  | _ => true
def vlt1 (n : Nat) : Value → Bool
  | .func _ a b => a.all (vlt0 n) && b.all (vlt0 n)
  | v => vlt0 n v
def vlt (n : Nat) : Value → Bool
  | .agg cs => cs.all (vlt1 n)
  | v => vlt1 n v
def objLt (n : Nat) : AObj → Bool
  | .row cs _ => cs.all (vlt1 n)
  | _ => true
def Cl (S : St) : Prop := ∀ i, i < S.c → objLt S.c (S.heap i) = true
noncomputable def gcR (args : Array Value) (S : St) (r : Option (Value × St)) : Option (Value × St) :=
  match r with
  | some (v, S') => @ite _ (flatR v = true ∧ Low S S' ∧ Cl S ∧ args.all (vlt S.c) = true) (Classical.propDecidable _) (some (v, S)) (some (v, S'))
  | none => none
noncomputable def gcB (on : Bool) (args : Array Value) (S : St) (r : Option (Value × St)) : Option (Value × St) := match on with | true => gcR args S r | false => r

variable (G : FuncId → Bool)
/-- The evaluator with a bound on the depth of calls and the rounds of each loop. -/
noncomputable def callN : Nat → Caller
  | 0, _, _, _ => none
  | k + 1, f, args, S => gcB (G f) args S (bodyC P W (callN k) (fun b => loopN b k) f args S)

end
end Go.Proofs.YtnnajiaaakkjfaaDoor.E
