/- An evaluator of Go functions over a memory of its own, and its proof over the model for any program: what it answers, the model answers. No condition. -/
import Derived.Below
import Derived.IntWalk
import Derived.KernelRfl
import Derived.Laws.BytesString
import Derived.Laws.Sem
import Derived.Lib.ConvBytes
import Derived.LoopN
import Derived.Orders
import Derived.Scope
set_option linter.unusedVariables false
set_option linter.unusedSimpArgs false
section
namespace Go.Proofs.Yteofdikfdknpbaa.E
open Go
set_option linter.unusedVariables false
inductive AObj where
  | dead
  | row (cells : List Value) (k : Nat)
  | map (es : Array MapEntry) (clk : Nat)
structure St where
  heap : Nat → AObj
  c : Nat
  lock : Nat
def St.upd (S : St) (i : Nat) (o : AObj) : St := { heap := fun j => if j = i then o else S.heap j, c := S.c, lock := S.lock }
def St.new (S : St) (o : AObj) : St := { heap := fun j => if j = S.c then o else S.heap j, c := S.c + 1, lock := S.lock }
def St.relock (S : St) (l : Nat) : St := { heap := S.heap, c := S.c, lock := l }
def still (P : Program) {α : Type} : Sem α → Option α
  | .pure a => some a
  | .program k => still P (k P)
  | .mark _ k => still P k
  | _ => none
def flat0 : Value → Bool
  | .bool _ | .int _ _ | .string _ | .float _ _ => true
  | .pointer none | .slice none _ _ | .map none | .nilFunc => true
  | _ => false
def junk : Value := .chan none
def notJ : Value → Bool
  | .chan _ => false
  | _ => true
def flat : Value → Bool
  | .agg cs => cs.all flat0
  | v => flat0 v
def stillF (P : Program) (m : Sem Value) : Option Value := match still P m with | some v => if flat v then some v else none | none => none
def oldV (W : World) : Value → Bool
  | .pointer (some a) => decide (a.block < W.heap.size)
  | .slice (some a) _ _ => decide (a.block < W.heap.size)
  | .map (some r) => decide (r < W.heap.size)
  | v => flat0 v
def getV (W : World) (v : Value) : Option Value :=
  if oldV W v then some v else match v with | .slice (some _) 0 0 => some (.slice (some ⟨W.heap.size, 0, some 0⟩) 0 0) | _ => none
def oldCells (W : World) (a : Addr) : Nat → Nat → Option (List Value)
  | _, 0 => some []
  | i, n + 1 =>
    match W.cell? (a.add i) with
    | some v => (match getV W v with | some u => (match oldCells W a (i + 1) n with | some l => some (u :: l) | none => none) | none => none)
    | none => none
def St.cells (W : World) (S : St) (a : Addr) (n : Nat) : Option (List Value) :=
  if n = 0 then some [] else
  if a.block < W.heap.size then oldCells W a 0 n
  else match S.heap a.block with
    | .row cs _ => if a.off + n ≤ cs.length then some ((cs.drop a.off).take n) else none
    | _ => none
def St.cell (W : World) (S : St) (a : Addr) : Option Value :=
  if a.block < W.heap.size then (match W.cell? a with | some v => getV W v | none => none)
  else match S.heap a.block with
    | .row cs _ => cs[a.off]?
    | _ => none
def splice : List Value → Nat → List Value → List Value
  | cs, _, [] => cs
  | cs, o, v :: vs => splice (cs.set o v) (o + 1) vs
def storable : Value → Bool
  | .agg _ | .tuple _ | .chan _ => false
  | _ => true
def St.put (S : St) (a : Addr) (vs : List Value) : Option St :=
  if vs.length = 0 then some S else
  if S.lock ≤ a.block then
    match S.heap a.block with
    | .row cs fx => if a.off + vs.length ≤ cs.length then (if vs.all storable then some (S.upd a.block (.row (splice cs a.off vs) fx)) else none) else none
    | _ => none
  else none
def St.fx (W : World) (S : St) (a : Addr) : Option Nat :=
  if a.block < W.heap.size then some 0 else match S.heap a.block with | .row _ k => some k | _ => none
def bnd (x : Option Value) (dflt y : Nat) : Option Nat :=
  match x with
  | none => some dflt
  | some (.int _ i) => if 0 ≤ i ∧ i ≤ (y : Int) then some i.toNat else none
  | some _ => none
section
variable (P : Program) (W : World)
def szOf (t : TypeId) : Option Nat := (P.info? t).map (·.size)
def aLoad (S : St) (t : TypeId) (x : Value) : Option Value :=
  match x with
  | .pointer (some a) =>
    match P.underlying t with
    | some (.struct _) | some (.array _ _) => (match szOf P t with | some n => (match S.cells W a n with | some l => some (.agg l.toArray) | none => none) | none => none)
    | some _ => S.cell W a
    | none => none
  | _ => none
def aStore (S : St) (t : TypeId) (x v : Value) : Option St :=
  match x with
  | .pointer (some a) => if szOf P t = some v.cells.size ∧ notJ v = true then S.put a v.cells.toList else none
  | _ => none
def nilish : Value → Bool
  | .pointer none | .slice none _ _ | .map none | .nilFunc => true
  | _ => false
def isEq : BinOp → Bool
  | .eql | .neq => true
  | _ => false
def aBin (op : BinOp) (t : TypeId) (a b : Value) : Option Value :=
  if (flat a && flat b) || (isEq op && (nilish a || nilish b) && notJ a) then
    stillF P (do eqGuard op t (.const (.bool true)) (.const (.bool true)) a b; binOp op t a b)
  else none
def aUn (op : UnOp) (a : Value) : Option Value := if flat a then stillF P (Op.unary op a) else none
def bytesOfCells : List Value → Option (List UInt8)
  | [] => some []
  | .int .u8 n :: r => (match bytesOfCells r with | some l => some (UInt8.ofNat n.toNat :: l) | none => none)
  | _ => none
def aConv (S : St) (src dst : TypeId) (x : Value) : Option (Value × St) :=
  match x with
  | .slice (some a) n _ =>
    match P.underlying src, P.underlying dst with
    | some (.slice e), some .string =>
      (match P.underlying e with
      | some (.int .u8) => (match S.cells W a n with | some l => (match bytesOfCells l with | some bs => some (.string ⟨bs.toArray⟩, S) | none => none) | none => none)
      | _ => none)
    | _, _ => none
  | .string s =>
    match P.underlying dst with
    | some (.slice e) =>
      (match P.underlying e with
      | some (.int .u8) => if s.size ≤ 2 ^ 62 then some (.slice (some ⟨S.c, 0, none⟩) s.size s.size, S.new (.row (s.data.toList.map fun b => .int .u8 b.toNat) 1)) else none
      | _ => none)
    | _ => (match stillF P (convert src dst x) with | some v => some (v, S) | none => none)
  | x => if flat x then (match stillF P (convert src dst x) with | some v => some (v, S) | none => none) else none
def aFieldAddr (s : TypeId) (x : Value) (f : Nat) : Option Value :=
  match P.underlying s, x with
  | some (.struct fs), .pointer (some a) =>
    match fs[f]? with
    | some fd => (match szOf P fd.type with | some n => if n = 0 then none else some (.pointer (some (a.add fd.offset))) | none => none)
    | none => none
  | _, _ => none
def aIndexAddr (t : TypeId) (x i : Value) : Option Value :=
  match i with
  | .int _ i =>
    match P.underlying t, x with
    | some (.slice e), .slice (some a) len _ => if 0 ≤ i ∧ i < (len : Int) then (match szOf P e with | some n => some (.pointer (some (a.add (i.toNat * n)))) | none => none) else none
    | some (.array len e), .pointer (some a) => if 0 ≤ i ∧ i < (len : Int) then (match szOf P e with | some n => some (.pointer (some (a.add (i.toNat * n)))) | none => none) else none
    | _, _ => none
  | _ => none
def aBounds (len cap : Nat) (lo hi mx : Option Value) : Option (Nat × Nat × Nat) :=
  match bnd mx cap cap with
  | none => none
  | some m =>
    match (match hi, mx with | some v, _ => bnd (some v) 0 m | none, none => if len ≤ m then some len else none | none, some _ => none) with
    | none => none
    | some h => match bnd lo 0 h with | none => none | some l => some (l, h, m)
def isZ (a : Addr) : Bool := a.spot == some 0 && decide (W.heap.size ≤ a.block)
def aSlice (S : St) (t : TypeId) (x : Value) (lo hi mx : Option Value) : Option Value :=
  match x with
  | .slice (some a) len cap =>
    if isZ W a then none else
    match P.underlying t with
    | some (.slice e) =>
      (match szOf P e, S.fx W a, aBounds len cap lo hi mx with
      | some n, some fx, some (l, h, m) => if fx = 0 ∨ fx = n then some (if m = l ∧ fx ≠ 0 ∧ mx.isSome = true then .slice (some ⟨a.block, a.off, some 0⟩) 0 0 else .slice (some (if m = l ∧ fx = 0 then a else a.add (l * n))) (h - l) (m - l)) else none
      | _, _, _ => none)
    | _ => none
  | .pointer (some a) =>
    match P.underlying t with
    | some (.array n e) =>
      (match szOf P e, S.fx W a, aBounds n n lo hi mx with
      | some k, some 0, some (l, h, m) => some (.slice (some (if m = l then a else a.add (l * k))) (h - l) (m - l))
      | _, _, _ => none)
    | _ => none
  | .string _ | .slice none _ _ => if lo.all flat && hi.all flat && mx.all flat then stillF P (Instr.sliceAt t x lo hi mx) else none
  | _ => none
def aLen (S : St) (ts : Array TypeId) (args : Array Value) : Option Value :=
  match ts[0]?, (args[0]? : Option Value) with
  | some t, some (.map (some r)) =>
    (match P.underlying t with
    | some (.map _ _) => if r < W.heap.size then none else (match S.heap r with | .map es _ => some (goInt es.size) | _ => none)
    | _ => none)
  | some _, some x => if notJ x then stillF P (Builtin.len_ ts 0 args) else none
  | _, _ => none
def zeros (n : Nat) (z : List Value) : List Value := (List.range n).flatMap fun _ => z
def srcCells (S : St) (size : Nat) (x : Value) : Option (Nat × List Value) :=
  match x with
  | .slice (some a) n _ => (match S.cells W a (n * size) with | some l => some (n, l) | none => none)
  | .slice none n _ => if n = 0 then some (0, []) else none
  | .string s => if size = 1 then some (s.size, s.data.toList.map fun b => .int .u8 b.toNat) else none
  | _ => none
def isIntT (t : TypeId) : Bool := match P.underlying t with | some (.int _) => true | _ => false
def srcOf (S : St) (xt : TypeId) (size : Nat) (z x : Value) : Option (Nat × List Value) :=
  if (P.underlying xt).isNone then none else if isIntT P xt then (match x with | .int .i64 n => if 0 ≤ n ∧ n ≤ 2 ^ 46 then some (n.toNat, zeros n.toNat z.cells.toList) else none | _ => none) else srcCells W S size x
def aAppend (S : St) (ts : Array TypeId) (args : Array Value) : Option (Value × St) :=
  match ts[0]?, ts[1]?, (args[0]? : Option Value), (args[1]? : Option Value) with
  | some st, some xt, some (.slice base sLen sCap), some x =>
    match P.underlying st with
    | some (.slice e) =>
      (match P.info? e with
      | some ie =>
        (match ie.zero with
        | some z =>
          if z.cells.size = ie.size ∧ 0 < ie.size ∧ 0 < ie.bytes ∧ flat z = true then
            (match srcOf P W S xt ie.size z x with
            | some (n, new) =>
              if (sLen + n + (sLen + n) / 4 + 512) * ie.bytes ≤ 2 ^ 48 then
                (match base with
                | none =>
                  if sLen = 0 ∧ sCap = 0 then
                    (if n = 0 then some (.slice none 0 0, S) else some (.slice (some ⟨S.c, 0, none⟩) n n, S.new (.row new ie.size)))
                  else none
                | some a =>
                  if isZ W a then (if sLen = 0 ∧ sCap = 0 then (if n = 0 then some (.slice (some a) 0 0, S) else some (.slice (some ⟨S.c, 0, none⟩) n n, S.new (.row new ie.size))) else none) else
                  (match S.fx W a with
                  | some (k + 1) =>
                    (match S.heap a.block with
                    | .row cs _ =>
                      if k + 1 = ie.size ∧ a.off + sLen * ie.size ≤ cs.length ∧ S.lock ≤ a.block ∧ new.all storable = true then
                        some (.slice (some ⟨S.c, 0, none⟩) (sLen + n) (sLen + n), (S.upd a.block .dead).new (.row ((cs.drop a.off).take (sLen * ie.size) ++ new) ie.size))
                      else none
                    | _ => none)
                  | some 0 =>
                    if sLen + n ≤ sCap then
                      (match S.put (a.add (sLen * ie.size)) new with
                      | some S' => some (.slice base (sLen + n) sCap, S')
                      | none => none)
                    else
                      (match S.cells W a (sLen * ie.size) with
                      | some old => some (.slice (some ⟨S.c, 0, none⟩) (sLen + n) (sLen + n), S.new (.row (old ++ new) ie.size))
                      | none => none)
                  | none => none))
              else none
            | none => none)
          else none
        | none => none)
      | none => none)
    | _ => none
  | _, _, _, _ => none
def aMakeSlice (S : St) (t : TypeId) (l c : Value) : Option (Value × St) :=
  match P.underlying t, l, c with
  | some (.slice e), .int .i64 l, .int .i64 c =>
    (match P.info? e with
    | some ie =>
      (match ie.zero with
      | some z =>
        if z.cells.size = ie.size ∧ 0 < ie.size ∧ flat z = true ∧ 0 ≤ l ∧ l ≤ c ∧ c ≤ 2 ^ 47 ∧ ie.bytes * c ≤ 2 ^ 48 then
          some (.slice (some ⟨S.c, 0, none⟩) l.toNat c.toNat, S.new (.row (zeros c.toNat z.cells.toList) 0))
        else none
      | none => none)
    | none => none)
  | _, _, _ => none
def callOk (g : FuncId) : Bool :=
  match P.funcs[g]? with
  | some fn => fn.body.isSome && fn.name != "runtime.NumGoroutine"
  | none => false
abbrev Caller := FuncId → Array Value → St → Option (Value × St)
def aCall (C : Caller) (S : St) (f : Value) (args : Array Value) : Option (Value × St) :=
  match f with
  | .func (.func g) first captured => if callOk P g then C g (first ++ args ++ captured) S else none
  | _ => none
def justV (x : Option Value) (S : St) : Option (Value × St) := match x with | some v => some (v, S) | none => none
def aZero (t : TypeId) : Option Value := match P.info? t with | some i => (match i.zero with | some z => if flat z then some z else none | none => none) | none => none
def aBuild (t : TypeId) (parts : Array (Nat × Value)) : Option Value := match aZero P t with | some _ => if parts.toList.all (fun p => notJ p.2) then still P (Instr.build t parts) else none | none => none
def aBuildSlice (S : St) (t : TypeId) (len : Nat) (parts : Array (Nat × Value)) : Option (Value × St) :=
  match P.underlying t with
  | some (.slice e) =>
    (match szOf P e, aZero P e with
    | some size, some z =>
      if len * size ≤ 2 ^ 24 ∧ parts.toList.all (fun p => notJ p.2) = true then
        (match Instr.fill (fun i => some (i * size, size)) ((Array.range (len * size)).map (z.cells[· % z.cells.size]!)) parts.toList with
        | some cells => some (.slice (some ⟨S.c, 0, none⟩) len len, S.new (.row cells.toList 0))
        | none => none)
      else none
    | _, _ => none)
  | _ => none
def aBuiltin (S : St) (b : Builtin) (ts : Array TypeId) (args : Array Value) : Option (Value × St) :=
  match b with
  | .len => justV (aLen P W S ts args) S
  | .append => aAppend P W S ts args
  | .max => if args.all flat then justV (stillF P (Builtin.max_ ts 0 args)) S else none
  | .min => if args.all flat then justV (stillF P (Builtin.min_ ts 0 args)) S else none
  | _ => none
def aPick (c a b : Value) : Option Value := match c with | .bool t => some (if t then a else b) | _ => none
def aAlloc (S : St) (e : TypeId) : Option (Value × St) := match aZero P e with | some z => some (.pointer (some ⟨S.c, 0, none⟩), S.new (.row z.cells.toList 0)) | none => none
def aBox (S : St) (v : Value) : Option (Value × St) := if notJ v then some (.pointer (some ⟨S.c, 0, none⟩), S.new (.row v.cells.toList 0)) else none
def aNil (x : Value) : Option Value := match x with | .pointer (some a) => some (.pointer (some a)) | .func (.func f) u v => some (.func (.func f) u v) | _ => none
def opStep (C : Caller) (ρ : Operand → Value) (o : Oper) (S : St) : Option (Value × St) :=
  match o.op with
  | .move x | .assign x => some (ρ x, S)
  | .pick c a b => justV (aPick (ρ c) (ρ a) (ρ b)) S
  | .alloc e => aAlloc P S e
  | .box _ x => aBox S (ρ x)
  | .build t parts => justV (aBuild P t (parts.map fun (i, x) => (i, ρ x))) S
  | .buildSlice t len parts => aBuildSlice P S t len (parts.map fun (i, x) => (i, ρ x))
  | .load t a => justV (aLoad P W S t (ρ a)) S
  | .store t a x => (match aStore P S t (ρ a) (ρ x) with | some S' => some (undef, S') | none => none)
  | .nilCheck x => justV (aNil (ρ x)) S
  | .binOp op t x y _ => justV (aBin P op t (ρ x) (ρ y)) S
  | .unOp op _ x => justV (aUn P op (ρ x)) S
  | .convert src dst x => aConv P W S src dst (ρ x)
  | .makeFunc fn first captured => some (.func fn (first.map ρ) (captured.map ρ), S)
  | .makeSlice t l c => aMakeSlice P S t (ρ l) (ρ c)
  | .slice t x lo hi mx => justV (aSlice P W S t (ρ x) (lo.map ρ) (hi.map ρ) (mx.map ρ)) S
  | .fieldAddr s x f => justV (aFieldAddr P s (ρ x) f) S
  | .field t x f => justV (still P (Instr.field t (ρ x) f)) S
  | .indexAddr t x i => justV (aIndexAddr P t (ρ x) (ρ i)) S
  | .index t x i => justV (still P (Instr.index t (ρ x) (ρ i))) S
  | .extract t i => justV (still P (Instr.extract (ρ t) i)) S
  | .call c =>
    (match c.callee with
    | .builtin b => aBuiltin P W S b c.argTypes (c.args.map ρ)
    | .value f => aCall P C S (ρ f) (c.args.map ρ)
    | .invoke _ _ => none)
  | _ => none
def unlock (l : Nat) (x : Option (Value × St)) : Option (Value × St) := match x with | some (v, S) => some (v, S.relock l) | none => none
def Ok (S : St) : Prop := S.lock ≤ S.c ∧ ∀ i, S.c ≤ i → S.heap i = .dead
def guardOk (o : Oper) (ops : Array Oper) (tmps : Array Value) : Bool :=
  match o.guard with
  | none => true
  | some (j, _) => match ((ops[j]?).bind (·.dst)).bind (tmps[·]?) with | some v => notJ v | none => true
def opsC (C : Caller) (ops : Array Oper) : List (Oper × Bool) → Act → St → Option (Act × St)
  | [], A, S => some (A, S)
  | (o, q) :: rest, A, S =>
    if guardOk o ops A.tmps = false then none else
    if Region.wanted o (yielded ops A.tmps) then
      match (if q then unlock S.lock (opStep P W C A.eval o (S.relock S.c)) else opStep P W C A.eval o S) with
      | some (v, S') => opsC C ops rest (A.put o.dst v) S'
      | none => none
    else opsC C ops rest (A.put o.dst undef) S
end
def pureOp : Op → Bool
  | .move _ | .assign _ | .pick .. | .build .. | .nilCheck _ | .binOp .. | .unOp .. | .makeFunc .. | .fieldAddr .. | .field .. | .indexAddr .. | .index .. | .extract .. => true
  | .call { callee := .builtin .max, .. } | .call { callee := .builtin .min, .. } => true
  | _ => false
def befGo : List Oper → List Nat → List Nat
  | [], acc => acc
  | o :: rest, acc => befGo rest (acc ++ [o.after.toList.foldl (fun s e => if Region.binds .any e then s ||| 2 ^ e.on ||| acc.getD e.on 0 else s) 0])
def bef (ops : List Oper) : List Nat := befGo ops []
def clash (ops : Array Oper) (x y : Oper) : Bool :=
  (match x.dst with | some d => (y.looksAt ops).contains d || y.dst == some d | none => false) ||
  (match y.dst with | some d => (x.looksAt ops).contains d | none => false)
def isSelect : Op → Bool
  | .select .. => true
  | _ => false
def regionOk (ops : Array Oper) : Bool :=
  let l := ops.toList.zipIdx
  let b := bef ops.toList
  (l.all fun (o, i) => !isSelect o.op && o.after.toList.all fun e => !Region.binds .any e || decide (e.on < i)) &&
  l.all fun (o, j) => l.all fun (p, i) => !(decide (i < j) && clash ops p o) || (b.getD j 0).testBit i
def inOrder (ops : Array Oper) (i : Nat) : Bool :=
  let b := bef ops.toList
  ops.toList.zipIdx.all fun (p, j) => pureOp p.op || i == j || (if j < i then (b.getD i 0).testBit j else (b.getD j 0).testBit i)
def flags (ops : Array Oper) (draw : Bool) : List (Oper × Bool) :=
  ops.toList.zipIdx.map fun (o, i) => (o, draw && !pureOp o.op && !inOrder ops i)
def operOk (P : Program) : Operand → Bool
  | .const v => flat v
  | .global g => decide (g < P.globals.size)
  | _ => true
def opOk (P : Program) (o : Oper) : Bool :=
  o.op.operands.all (operOk P) &&
  (match o.op with
   | .convert src _ _ => (P.underlying src).isSome
   | .call { callee := .builtin .append, args, .. } => args.size == 2
   | _ => true)
section
variable (P : Program) (W : World)
def isLoad : Op → Bool
  | .load .. => true
  | _ => false
def loadAt (ops : Array Oper) (k : Nat) : Bool := match ops[k]? with | some o => isLoad o.op | none => false
def inOrderL (ops : Array Oper) (i : Nat) : Bool :=
  let b := bef ops.toList
  ops.toList.zipIdx.all fun (p, j) => pureOp p.op || isLoad p.op || i == j || (if j < i then (b.getD i 0).testBit j else (b.getD j 0).testBit i)
def flagsL (ops : Array Oper) : List (Oper × Bool) :=
  ops.toList.zipIdx.map fun (o, i) => (o, !pureOp o.op && !isLoad o.op && !inOrderL ops i)
def loudL (ops : Array Oper) (k : Nat) : Bool := match ops[k]? with | some o => !pureOp o.op && !isLoad o.op && inOrderL ops k | none => false
def openL (ops : Array Oper) (i j : Nat) : Bool := !((bef ops.toList).getD j 0).testBit i
def freshL (ops : Array Oper) : Bool :=
  ops.toList.zipIdx.all fun (o, i) => !isLoad o.op || ops.toList.zipIdx.all fun (p, j) => decide (j < i) || (match p.dst with | some d => !(o.looksAt ops).contains d | none => true)
def loadOf (ρ : Operand → Value) (o : Oper) (S : St) : Option Value := match o.op with | .load t a => aLoad P W S t (ρ a) | _ => none
def stores : Code → Bool
  | .region _ ops _ => ops.any fun o => match o.op with | .store .. | .mapUpdate .. => true | _ => false
  | .seq a b | .cond _ a b => stores a || stores b
  | .block _ a | .loop a | .scope a => stores a
  | _ => false
def writer (o : Op) : Bool :=
  match o with
  | .call { callee := .value (.func g), argTypes, .. } =>
    (match argTypes[0]? with | some t => (match P.underlying t with | some (.pointer _) => true | _ => false) | none => false) &&
    (match P.funcs[g]? with | some fn => stores (fn.body.getD .skip) | none => false)
  | _ => false
def wantsL (ops : Array Oper) : Bool := ops.toList.zipIdx.any fun (o, i) => writer P o.op && !inOrder ops i && inOrderL ops i
def backL (ops : Array Oper) (k : Nat) (o : Oper) (H : List (Nat × St)) (A : Act) (S : St) : Prop :=
  isLoad o.op = true → Region.wanted o (yielded ops A.tmps) = true → ∀ x ∈ H, openL ops x.1 k = true → loadOf P W A.eval o x.2 = loadOf P W A.eval o S
def foreL (ops : Array Oper) (k : Nat) (A : Act) (S S' : St) : Prop :=
  loudL ops k = true → ∀ j o, j < k → ops[j]? = some o → isLoad o.op = true → openL ops j k = true → loadOf P W A.eval o S' = loadOf P W A.eval o S
def stepC (C : Caller) (ops : Array Oper) (x : Oper × Bool) (r : Act × St) : Option (Act × St) :=
  if guardOk x.1 ops r.1.tmps = false then none else
  if Region.wanted x.1 (yielded ops r.1.tmps) then
    match (if x.2 then unlock r.2.lock (opStep P W C r.1.eval x.1 (r.2.relock r.2.c)) else opStep P W C r.1.eval x.1 r.2) with
    | some (v, S') => some (r.1.put x.1.dst v, S')
    | none => none
  else some (r.1.put x.1.dst undef, r.2)
open Classical in
noncomputable def opsL (C : Caller) (ops : Array Oper) : List (Oper × Bool) → Nat → List (Nat × St) → Act → St → Option (Act × St)
  | [], _, _, A, S => some (A, S)
  | x :: l, k, H, A, S =>
    match stepC P W C ops x (A, S) with
    | some r => if backL P W ops k x.1 H A S ∧ foreL P W ops k A S r.2 then opsL C ops l (k + 1) (if loudL ops k then (k, S) :: H else H) r.1 r.2 else none
    | none => none
noncomputable def regC (C : Caller) (ops : Array Oper) (draw : Bool) (A : Act) (S : St) : Option (Act × St) :=
  if ops.toList.all (opOk P) && (!draw || regionOk ops) then
    (if draw && wantsL P ops && freshL ops then opsL P W C ops (flagsL ops) 0 [] A S else opsC P W C ops (flags ops draw) A S)
  else none
abbrev Out := Option (Exit × Act × St)
def loopN (body : Act → St → Out) : Nat → Act → St → Out
  | 0, _, _ => none
  | n + 1, A, S =>
    match body A S with
    | some (.normal, A', S') => loopN body n A' S'
    | r => r
def opReads (ops : Array Oper) (o : Oper) : List Tmp := o.looksAt ops
structure Flow where
  ue : List Tmp
  fall : Option (List Tmp)
  exits : List (Nat × List Tmp)
def meet (a b : Option (List Tmp)) : Option (List Tmp) :=
  match a, b with
  | none, x | x, none => x
  | some x, some y => some (x.filter y.contains)
def flowOps (ops : Array Oper) : List Oper → List Tmp → List Tmp → List Tmp × List Tmp
  | [], ue, wr => (ue, wr)
  | o :: l, ue, wr => flowOps ops l (((opReads ops o).filter fun t => !wr.contains t) ++ ue) (match o.dst with | some d => d :: wr | none => wr)
def flow : Code → List Tmp → Flow
  | .region _ ops _, wr => let (ue, wr') := flowOps ops ops.toList [] wr; ⟨ue, some wr', []⟩
  | .seq a b, wr =>
    let fa := flow a wr
    match fa.fall with
    | some wr' => let fb := flow b wr'; ⟨fa.ue ++ fb.ue, fb.fall, fa.exits ++ fb.exits⟩
    | none => fa
  | .cond c a b, wr =>
    let fa := flow a wr
    let fb := flow b wr
    ⟨(match c with | .tmp t => if wr.contains t then [] else [t] | _ => []) ++ fa.ue ++ fb.ue, meet fa.fall fb.fall, fa.exits ++ fb.exits⟩
  | .block id a, wr =>
    let fa := flow a wr
    ⟨fa.ue, (fa.exits.filter (·.1 == id)).foldl (fun s e => meet s (some e.2)) fa.fall, fa.exits.filter (·.1 != id)⟩
  | .loop a, wr => let fa := flow a wr; ⟨fa.ue, none, fa.exits⟩
  | .scope a, wr => flow a wr
  | .exit id, wr => ⟨[], none, [(id, wr)]⟩
  | .ret, _ => ⟨[], none, []⟩
  | _, wr => ⟨[], some wr, []⟩
def writes : Code → List Tmp
  | .region _ ops _ => ops.toList.filterMap (·.dst)
  | .seq a b | .cond _ a b => writes a ++ writes b
  | .block _ a | .loop a | .scope a => writes a
  | _ => []
def deadIn (c : Code) : List Tmp := let ue := (flow c []).ue; (writes c).filter fun t => !ue.contains t
def clr (ts : List Tmp) (A : Act) : Act := { tmps := ts.foldl (fun a t => a.setIfInBounds t junk) A.tmps, defers := A.defers }
def clrOut (ts : List Tmp) : Out → Out
  | some (.normal, A, S) => some (.normal, clr ts A, S)
  | r => r
abbrev Looper := (Act → St → Out) → Act → St → Out
noncomputable def codeC (C : Caller) (L : Looper) : Code → Act → St → Out
  | .skip, A, S | .label _, A, S => some (.normal, A, S)
  | .region _ ops draw, A, S => (match regC P W C ops draw A S with | some (A', S') => some (.normal, A', S') | none => none)
  | .seq a b, A, S => (match codeC C L a A S with | some (.normal, A', S') => codeC C L b A' S' | r => r)
  | .cond c a b, A, S => (match A.eval c with | .bool true => codeC C L a A S | .bool false => codeC C L b A S | _ => none)
  | .block id a, A, S => (match codeC C L a A S with | some (.exit i, A', S') => if i = id then some (.normal, A', S') else some (.exit i, A', S') | r => r)
  | .loop a, A, S => L (fun A S => clrOut (deadIn a) (codeC C L a A S)) (clr (deadIn a) A) S
  | .exit id, A, S => some (.exit id, A, S)
  | .scope a, A, S => (match codeC C L a A S with | some (.goto _, _, _) => none | r => r)
  | .ret, A, S => some (.ret, A, S)
  | _, _, _ => none
def resV (S : St) (tmps : Array Value) : ResultVar → Option Value
  | .tmp t => some (tmps.getD t undef)
  | .cell a t => aLoad P W S t (tmps.getD a undef)
def resL (S : St) (tmps : Array Value) : List ResultVar → Option (List Value)
  | [] => some []
  | r :: rs => (match resV P W S tmps r with | some v => (match resL S tmps rs with | some l => some (v :: l) | none => none) | none => none)
def packed : List Value → Value
  | [v] => v
  | l => .tuple l.toArray
def finish (fn : Func) (r : Out) : Option (Value × St) :=
  match r with
  | some (.normal, A, S) | some (.ret, A, S) => (match resL P W S A.tmps fn.results.toList with | some l => some (packed l, S) | none => none)
  | _ => none
noncomputable def bodyC (C : Caller) (L : Looper) (f : FuncId) (args : Array Value) (S : St) : Option (Value × St) :=
  match P.funcs[f]? with
  | some fn => (match fn.body with
    | some c => finish P W fn (codeC P W C L c { tmps := args ++ Array.replicate (fn.ntmps - args.size) undef, defers := [] } S)
    | none => none)
  | none => none
def flatR : Value → Bool
  | .tuple cs => cs.all flat
  | v => flat v
def Low (S S' : St) : Prop := S'.lock = S.lock ∧ S.c ≤ S'.c ∧ ∀ i, i < S.c → S'.heap i = S.heap i
def vlt0 (n : Nat) : Value → Bool
  | .pointer (some a) => decide (a.block < n)
  | .slice (some a) _ _ => decide (a.block < n)
  | .map (some r) => decide (r < n)
  | .agg _ | .tuple _ | .func .. => false
  | _ => true
def vlt1 (n : Nat) : Value → Bool
  | .func _ a b => a.all (vlt0 n) && b.all (vlt0 n)
  | v => vlt0 n v
def vlt (n : Nat) : Value → Bool
  | .agg cs => cs.all (vlt1 n)
  | v => vlt1 n v
def objLt (n : Nat) : AObj → Bool
  | .row cs _ => cs.all (vlt1 n)
  | _ => true
def Cl (S : St) : Prop := ∀ i, i < S.c → objLt S.c (S.heap i) = true
noncomputable def gcR (args : Array Value) (S : St) (r : Option (Value × St)) : Option (Value × St) :=
  match r with
  | some (v, S') => @ite _ (flatR v = true ∧ Low S S' ∧ Cl S ∧ args.all (vlt S.c) = true) (Classical.propDecidable _) (some (v, S)) (some (v, S'))
  | none => none
noncomputable def gcB (on : Bool) (args : Array Value) (S : St) (r : Option (Value × St)) : Option (Value × St) := match on with | true => gcR args S r | false => r
variable (G : FuncId → Bool)
noncomputable def callN : Nat → Caller
  | 0, _, _, _ => none
  | k + 1, f, args, S => gcB (G f) args S (bodyC P W (callN k) (fun b => loopN b k) f args S)
end
end Go.Proofs.Yteofdikfdknpbaa.E
end
section
namespace Go.Proofs.Yteofdikfdknpbaa.E
open Go Go.RowKit
set_option linter.unusedVariables false
structure Loc where
  blk : Nat
  off : Nat
  esz : Nat
  tot : Nat
abbrev Emb := Nat → Option Loc
def ARel (N : Nat) (φ : Emb) (a a' : Addr) : Prop :=
  ∃ L, φ a.block = some L ∧ a'.block = L.blk ∧ a'.off = L.off + a.off ∧ a'.spot = a.spot ∧ (N ≤ a.block → a.spot = none)
def SRel (N : Nat) (φ : Emb) (a : Addr) (l c : Nat) (a' : Addr) (c' : Nat) : Prop :=
  ∃ L, φ a.block = some L ∧ a'.block = L.blk ∧ a'.spot = a.spot ∧ (N ≤ a.block → a.spot = none) ∧
    ((L.esz = 0 ∧ c' = c ∧ a'.off = L.off + a.off) ∨
     (L.esz ≠ 0 ∧ c ≤ c' ∧ a'.off = L.off + a.off ∧ a'.off + c' * L.esz ≤ L.tot) ∨
     (L.esz ≠ 0 ∧ l = 0 ∧ c = 0 ∧ c' = 0))
inductive VRel (N : Nat) (φ : Emb) : Value → Value → Prop
  | bool (b) : VRel N φ (.bool b) (.bool b)
  | int (k n) : VRel N φ (.int k n) (.int k n)
  | float (k n) : VRel N φ (.float k n) (.float k n)
  | string (s) : VRel N φ (.string s) (.string s)
  | nilPtr : VRel N φ (.pointer none) (.pointer none)
  | ptr {a a'} : ARel N φ a a' → VRel N φ (.pointer (some a)) (.pointer (some a'))
  | nilSl (l c) : VRel N φ (.slice none l c) (.slice none l c)
  | sl {a a' l c c'} : SRel N φ a l c a' c' → VRel N φ (.slice (some a) l c) (.slice (some a') l c')
  | sl0 {b o : Nat} {a' : Addr} : N ≤ b → VRel N φ (.slice (some ⟨b, o, some 0⟩) 0 0) (.slice (some a') 0 0)
  | nilMap : VRel N φ (.map none) (.map none)
  | map {r L} : φ r = some L → L.off = 0 → VRel N φ (.map (some r)) (.map (some L.blk))
  | nilFunc : VRel N φ .nilFunc .nilFunc
  | any (v) : VRel N φ (.chan none) v
  | func (fn) {u u' v v' : Array Value} : u.size = u'.size → (∀ i (h : i < u.size) (h' : i < u'.size), VRel N φ u[i] u'[i]) → v.size = v'.size → (∀ i (h : i < v.size) (h' : i < v'.size), VRel N φ v[i] v'[i]) → VRel N φ (.func fn u v) (.func fn u' v')
  | agg {u u' : Array Value} : u.size = u'.size → (∀ i (h : i < u.size) (h' : i < u'.size), VRel N φ u[i] u'[i]) → VRel N φ (.agg u) (.agg u')
  | tuple {u u' : Array Value} : u.size = u'.size → (∀ i (h : i < u.size) (h' : i < u'.size), VRel N φ u[i] u'[i]) → VRel N φ (.tuple u) (.tuple u')
def LRel (N : Nat) (φ : Emb) (l l' : List Value) : Prop := l.length = l'.length ∧ ∀ (i : Nat) (v : Value), l[i]? = some v → ∃ v', l'[i]? = some v' ∧ VRel N φ v v'
def RRel (N : Nat) (φ : Emb) (u u' : Array Value) : Prop := LRel N φ u.toList u'.toList
def ELe (φ φ' : Emb) : Prop := ∀ i L, φ i = some L → φ' i = some L
theorem ELe.refl (φ : Emb) : ELe φ φ := fun _ _ h => h
theorem ELe.trans {a b c : Emb} (h : ELe a b) (k : ELe b c) : ELe a c := fun i L e => k i L (h i L e)
section
variable {N : Nat} {φ φ' : Emb}
theorem ARel.mono (h : ELe φ φ') {a a' : Addr} (k : ARel N φ a a') : ARel N φ' a a' := let ⟨L, e, r⟩ := k; ⟨L, h _ _ e, r⟩
theorem SRel.mono (h : ELe φ φ') {a a' : Addr} {l c c' : Nat} (k : SRel N φ a l c a' c') : SRel N φ' a l c a' c' := let ⟨L, e, r⟩ := k; ⟨L, h _ _ e, r⟩
theorem VRel.mono (h : ELe φ φ') {v v' : Value} (k : VRel N φ v v') : VRel N φ' v v' := by
  induction k with
  | bool => exact .bool _
  | int => exact .int _ _
  | float => exact .float _ _
  | string => exact .string _
  | nilPtr => exact .nilPtr
  | ptr h1 => exact .ptr (h1.mono h)
  | nilSl => exact .nilSl _ _
  | sl h1 => exact .sl (h1.mono h)
  | sl0 h1 => exact .sl0 h1
  | nilMap => exact .nilMap
  | map h1 h2 => exact .map (h _ _ h1) h2
  | nilFunc => exact .nilFunc
  | any v => exact .any v
  | func fn h1 h2 h3 h4 i1 i2 => exact .func fn h1 i1 h3 i2
  | agg h1 h2 i1 => exact .agg h1 i1
  | tuple h1 h2 i1 => exact .tuple h1 i1
theorem LRel.mono (h : ELe φ φ') {l l' : List Value} (k : LRel N φ l l') : LRel N φ' l l' := ⟨k.1, fun i v e => let ⟨v', e', r⟩ := k.2 i v e; ⟨v', e', r.mono h⟩⟩
theorem LRel.nil : LRel N φ [] [] := ⟨rfl, fun i v e => by simp at e⟩
theorem LRel.cons {v v' : Value} {l l' : List Value} (h : VRel N φ v v') (k : LRel N φ l l') : LRel N φ (v :: l) (v' :: l') := by
  refine ⟨by simp [k.1], fun i u e => ?_⟩
  cases i with
  | zero => simp at e; subst e; exact ⟨v', by simp, h⟩
  | succ i => simp at e; obtain ⟨u', e', r⟩ := k.2 i u e; exact ⟨u', by simpa using e', r⟩
theorem LRel.uncons {v : Value} {l l' : List Value} (h : LRel N φ (v :: l) l') : ∃ v' r, l' = v' :: r ∧ VRel N φ v v' ∧ LRel N φ l r := by
  cases l' with
  | nil => exact absurd h.1 (by simp)
  | cons v' r =>
    refine ⟨v', r, rfl, ?_, by have := h.1; simpa using this, fun i u e => ?_⟩
    · obtain ⟨u, e, k⟩ := h.2 0 v (by simp); simp at e; subst e; exact k
    · obtain ⟨u', e', k⟩ := h.2 (i + 1) u (by simpa using e); exact ⟨u', by simpa using e', k⟩
theorem LRel.of_nil {l' : List Value} (h : LRel N φ [] l') : l' = [] := List.eq_nil_of_length_eq_zero h.1.symm
theorem LRel.append {a a' b b' : List Value} (h : LRel N φ a a') (k : LRel N φ b b') : LRel N φ (a ++ b) (a' ++ b') := by
  induction a generalizing a' with
  | nil => rw [LRel.of_nil h]; exact k
  | cons v l ih => obtain ⟨v', r, rfl, h1, h2⟩ := h.uncons; exact LRel.cons h1 (ih h2)
theorem LRel.take {a a' : List Value} (h : LRel N φ a a') (n : Nat) : LRel N φ (a.take n) (a'.take n) := by
  refine ⟨by simp [h.1], fun i v e => ?_⟩
  rw [List.getElem?_take] at e ⊢
  by_cases hi : i < n
  · rw [if_pos hi] at e ⊢; exact h.2 i v e
  · rw [if_neg hi] at e; cases e
theorem LRel.drop {a a' : List Value} (h : LRel N φ a a') (n : Nat) : LRel N φ (a.drop n) (a'.drop n) := by
  refine ⟨by simp [h.1], fun i v e => ?_⟩
  rw [List.getElem?_drop] at e ⊢
  exact h.2 _ v e
theorem LRel.set {a a' : List Value} (h : LRel N φ a a') (n : Nat) {v v' : Value} (k : VRel N φ v v') : LRel N φ (a.set n v) (a'.set n v') := by
  refine ⟨by simp [h.1], fun i u e => ?_⟩
  rw [List.getElem?_set] at e ⊢
  by_cases hi : n = i
  · rw [if_pos hi] at e ⊢
    by_cases hl : n < a.length
    · rw [if_pos hl] at e; rw [if_pos (h.1 ▸ hl)]; cases e; exact ⟨v', rfl, k⟩
    · rw [if_neg hl] at e; cases e
  · rw [if_neg hi] at e ⊢; exact h.2 i u e
theorem RRel.of_pt {u u' : Array Value} (h : u.size = u'.size) (k : ∀ i (h : i < u.size) (h' : i < u'.size), VRel N φ u[i] u'[i]) : RRel N φ u u' := by
  refine ⟨by simpa using h, fun i v e => ?_⟩
  obtain ⟨hi, e⟩ := List.getElem?_eq_some_iff.1 e
  have hi1 : i < u.size := by simpa using hi
  have hi2 : i < u'.size := h ▸ hi1
  subst e
  exact ⟨u'[i], by rw [List.getElem?_eq_getElem (by simpa using hi2)]; simp, by simpa using k i hi1 hi2⟩
theorem RRel.pt {u u' : Array Value} (h : RRel N φ u u') : ∀ i (h : i < u.size) (h' : i < u'.size), VRel N φ u[i] u'[i] := by
  intro i h1 h2
  obtain ⟨v', e, k⟩ := h.2 i u[i] (by rw [List.getElem?_eq_getElem (by simpa using h1)]; simp)
  rw [List.getElem?_eq_getElem (by simpa using h2)] at e
  simp at e
  rwa [e]
theorem RRel.size {u u' : Array Value} (h : RRel N φ u u') : u.size = u'.size := by simpa using h.1
theorem VRel.agg' {u u' : Array Value} (h : RRel N φ u u') : VRel N φ (.agg u) (.agg u') := .agg h.size h.pt
theorem VRel.tuple' {u u' : Array Value} (h : RRel N φ u u') : VRel N φ (.tuple u) (.tuple u') := .tuple h.size h.pt
theorem VRel.func' (fn : Fn) {u u' v v' : Array Value} (h : RRel N φ u u') (k : RRel N φ v v') : VRel N φ (.func fn u v) (.func fn u' v') := .func fn h.size h.pt k.size k.pt
theorem RRel.mono (h : ELe φ φ') {l l' : Array Value} (k : RRel N φ l l') : RRel N φ' l l' := LRel.mono h k
theorem RRel.getElem? {u u' : Array Value} (h : RRel N φ u u') {i : Nat} {v : Value} (e : u[i]? = some v) : ∃ v', u'[i]? = some v' ∧ VRel N φ v v' := by
  obtain ⟨v', e', k⟩ := h.2 i v (by rw [Array.getElem?_toList]; exact e)
  exact ⟨v', by rw [← Array.getElem?_toList]; exact e', k⟩
theorem undef_rel : VRel N φ undef undef := .tuple rfl fun i h => absurd h (by simp)
theorem RRel.getD {u u' : Array Value} (h : RRel N φ u u') (i : Nat) : VRel N φ (u.getD i undef) (u'.getD i undef) := by
  by_cases hi : i < u.size
  · have hi' := h.size ▸ hi
    simp only [Array.getD, hi, hi', dif_pos]
    exact h.pt i hi hi'
  · have hi' : ¬ i < u'.size := h.size ▸ hi
    simp only [Array.getD, hi, hi', dif_neg, not_false_eq_true]
    exact undef_rel
theorem RRel.set {u u' : Array Value} (h : RRel N φ u u') (i : Nat) {v v' : Value} (k : VRel N φ v v') : RRel N φ (u.setIfInBounds i v) (u'.setIfInBounds i v') := by
  unfold RRel
  rw [Array.toList_setIfInBounds, Array.toList_setIfInBounds]
  exact LRel.set h i k
theorem RRel.append {a a' b b' : Array Value} (h : RRel N φ a a') (k : RRel N φ b b') : RRel N φ (a ++ b) (a' ++ b') := by
  unfold RRel
  rw [Array.toList_append, Array.toList_append]
  exact LRel.append h k
theorem RRel.extract {a a' : Array Value} (h : RRel N φ a a') (i j : Nat) : RRel N φ (a.extract i j) (a'.extract i j) := by
  unfold RRel
  rw [Array.toList_extract, Array.toList_extract]
  exact LRel.take (LRel.drop h _) _
theorem LRel.map {α : Type} {f g : α → Value} (l : List α) (h : ∀ x ∈ l, VRel N φ (f x) (g x)) : LRel N φ (l.map f) (l.map g) := by
  induction l with
  | nil => exact LRel.nil
  | cons x l ih => exact LRel.cons (h x (by simp)) (ih fun y hy => h y (by simp [hy]))
theorem RRel.map {α : Type} {f g : α → Value} (l : Array α) (h : ∀ x ∈ l, VRel N φ (f x) (g x)) : RRel N φ (l.map f) (l.map g) := by
  unfold RRel
  rw [Array.toList_map, Array.toList_map]
  exact LRel.map _ fun x hx => h x (by simpa using hx)
theorem flat0_eq {v v' : Value} (h : flat0 v = true) (k : VRel N φ v v') : v' = v := by
  cases k <;> first | rfl | simp [flat0] at h
theorem flat_eq {v v' : Value} (h : flat v = true) (k : VRel N φ v v') : v' = v := by
  cases k with
  | agg hs hp =>
    rename_i u u'
    simp only [flat, Array.all_eq_true_iff_forall_mem] at h
    congr 1
    refine Array.ext hs.symm fun i h1 h2 => flat0_eq (h _ (Array.getElem_mem h2)) (hp i h2 h1)
  | _ => first | rfl | simp [flat, flat0] at h
theorem flat_notJ {v : Value} (h : flat v = true) : notJ v = true := by
  cases v <;> first | rfl | simp [flat, flat0] at h
theorem flat0_refl {v : Value} (h : flat0 v = true) : VRel N φ v v := by
  cases v with
  | bool => exact .bool _
  | int => exact .int _ _
  | float => exact .float _ _
  | string => exact .string _
  | pointer a => cases a with | none => exact .nilPtr | some _ => simp [flat0] at h
  | slice a => cases a with | none => exact .nilSl _ _ | some _ => simp [flat0] at h
  | map a => cases a with | none => exact .nilMap | some _ => simp [flat0] at h
  | nilFunc => exact .nilFunc
  | _ => simp [flat0] at h
theorem flat_refl {v : Value} (h : flat v = true) : VRel N φ v v := by
  cases v with
  | agg cs =>
    simp only [flat, Array.all_eq_true_iff_forall_mem] at h
    exact .agg rfl fun i h1 h2 => flat0_refl (h _ (Array.getElem_mem h1))
  | _ => exact flat0_refl h
theorem cells_rel {v v' : Value} (hj : notJ v = true) (k : VRel N φ v v') : RRel N φ v.cells v'.cells := by
  cases k with
  | any v => cases hj
  | agg hs hp => exact RRel.of_pt hs hp
  | sl0 h => exact LRel.cons (.sl0 h) LRel.nil
  | _ => exact LRel.cons (by constructor <;> assumption) LRel.nil
end
section
variable {N : Nat} {φ φ' : Emb}
theorem VRel.back (h : ELe φ φ') {v v0 v' : Value} (k : VRel N φ v v0) (q : VRel N φ' v v') : VRel N φ v v' := by
  induction k generalizing v' with
  | bool => cases q; exact .bool _
  | int => cases q; exact .int _ _
  | float => cases q; exact .float _ _
  | string => cases q; exact .string _
  | nilPtr => cases q; exact .nilPtr
  | ptr h1 =>
    cases q with
    | ptr h2 =>
      obtain ⟨L, e, r⟩ := h1
      obtain ⟨L2, e2, r2⟩ := h2
      rw [h _ _ e] at e2
      cases e2
      exact .ptr ⟨L, e, r2⟩
  | nilSl => cases q; exact .nilSl _ _
  | sl h1 =>
    cases q with
    | sl h2 =>
      obtain ⟨L, e, r⟩ := h1
      obtain ⟨L2, e2, r2⟩ := h2
      rw [h _ _ e] at e2
      cases e2
      exact .sl ⟨L, e, r2⟩
    | sl0 h2 => exact .sl0 h2
  | sl0 h1 =>
    cases q with
    | sl h2 =>
      obtain ⟨L, e, r1, r2, r3, r4⟩ := h2
      have := r3 h1
      cases this
    | sl0 h2 => exact .sl0 h2
  | nilMap => cases q; exact .nilMap
  | map h1 h2 =>
    cases q with
    | map h3 h4 =>
      rw [h _ _ h1] at h3
      cases h3
      exact .map h1 h2
  | nilFunc => cases q; exact .nilFunc
  | any v => exact .any v'
  | func fn h1 h2 h3 h4 i1 i2 =>
    cases q with
    | func _ g1 g2 g3 g4 => exact .func fn g1 (fun i a b => i1 i a (by omega) (g2 i a b)) g3 (fun i a b => i2 i a (by omega) (g4 i a b))
  | agg h1 h2 i1 =>
    cases q with
    | agg g1 g2 => exact .agg g1 (fun i a b => i1 i a (by omega) (g2 i a b))
  | tuple h1 h2 i1 =>
    cases q with
    | tuple g1 g2 => exact .tuple g1 (fun i a b => i1 i a (by omega) (g2 i a b))
end
def BRel (N : Nat) (φ : Emb) (w : World) (L : Loc) : AObj → Prop
  | .dead => True
  | .row cs k => ∃ C e fr, w.heap[L.blk]? = some (.cells C e fr) ∧ (∀ j, j < C.size → ¬ (fr.1 ≤ j ∧ j < fr.2)) ∧ L.esz = k ∧ L.tot = C.size ∧
      L.off + cs.length ≤ C.size ∧ ∀ j v, cs[j]? = some v → ∃ v', C[L.off + j]? = some v' ∧ VRel N φ v v'
  | .map es clk => w.heap[L.blk]? = some (.map es clk) ∧ L.off = 0 ∧ (∀ e ∈ es, flat0 e.key = true ∧ flat0 e.val = true)
structure Rel (W : World) (φ : Emb) (S : St) (w : World) : Prop where
  below : Below W.heap.size W w
  base : ∀ i, i < W.heap.size → φ i = some ⟨i, 0, 0, 0⟩
  lockN : W.heap.size ≤ S.lock
  ok : Ok S
  deadB : ∀ i, i < W.heap.size → S.heap i = .dead
  blk : ∀ i L, φ i = some L → W.heap.size ≤ i → W.heap.size ≤ L.blk ∧ L.blk < w.heap.size ∧ BRel W.heap.size φ w L (S.heap i)
  inj : ∀ i j Li Lj, φ i = some Li → φ j = some Lj → W.heap.size ≤ i → W.heap.size ≤ j → i ≠ j → S.heap i ≠ .dead → S.heap j ≠ .dead → Li.blk ≠ Lj.blk
def Touch (φ : Emb) (S : St) (b : Nat) : Prop := ∃ i L, φ i = some L ∧ L.blk = b ∧ S.lock ≤ i ∧ S.heap i ≠ .dead
structure AStep (S S' : St) : Prop where
  c : S.c ≤ S'.c
  lock : S'.lock = S.lock
  keep : ∀ i, i < S.lock → S'.heap i = S.heap i
  dead : ∀ i, i < S.c → S.heap i = .dead → S'.heap i = .dead
  deadC : ∀ i, S'.c ≤ i → S'.heap i = S.heap i
structure Post (W : World) (φ : Emb) (S : St) (w : World) (φ' : Emb) (S' : St) (w' : World) : Prop where
  ext : ELe φ φ'
  rel : Rel W φ' S' w'
  dom : ∀ i L, φ' i = some L → φ i = some L ∨ (S.c ≤ i ∧ i < S'.c)
  size : w.heap.size ≤ w'.heap.size
  f1 : ∀ b, b < w.heap.size → ¬ Touch φ S b → w'.heap[b]? = w.heap[b]?
  f2 : ∀ b, b < w.heap.size → Touch φ' S' b → Touch φ S b
def Free (φ : Emb) (c c' : Nat) : Prop := ∀ i, c ≤ i → i < c' → φ i = none
theorem AStep.refl (S : St) : AStep S S := ⟨Nat.le_refl _, rfl, fun _ _ => rfl, fun _ _ h => h, fun _ _ => rfl⟩
theorem AStep.trans {a b c : St} (h : AStep a b) (k : AStep b c) : AStep a c :=
  ⟨Nat.le_trans h.c k.c, k.lock.trans h.lock, fun i hi => (k.keep i (h.lock ▸ hi)).trans (h.keep i hi), fun i hi hd => k.dead i (Nat.lt_of_lt_of_le hi h.c) (h.dead i hi hd),
    fun i hi => (k.deadC i hi).trans (h.deadC i (Nat.le_trans k.c hi))⟩
theorem AStep.ok {S S' : St} (h : AStep S S') (k : Ok S) : Ok S' :=
  ⟨by rw [h.lock]; exact Nat.le_trans k.1 h.c, fun i hi => (h.deadC i hi).trans (k.2 i (Nat.le_trans h.c hi))⟩
theorem AStep.new (S : St) (o : AObj) (h : S.lock ≤ S.c) : AStep S (S.new o) :=
  ⟨Nat.le_succ _, rfl, fun i hi => if_neg (by omega), fun i hi hd => by show (if i = S.c then o else S.heap i) = _; rw [if_neg (by omega)]; exact hd, fun i hi => if_neg (by have : S.c + 1 ≤ i := hi; omega)⟩
theorem AStep.upd (S : St) (i : Nat) (o : AObj) (ok : Ok S) (h : S.lock ≤ i) (hd : S.heap i ≠ .dead) : AStep S (S.upd i o) :=
  have hc : i < S.c := Nat.lt_of_not_le fun hh => hd (ok.2 i hh)
  ⟨Nat.le_refl _, rfl, fun j hj => if_neg (by omega), fun j hj hh => by show (if j = i then o else S.heap j) = _; rw [if_neg (fun e : j = i => hd (by rw [← e]; exact hh))]; exact hh, fun j hj => if_neg (by have : S.c ≤ j := hj; omega)⟩
section
variable {W : World} {φ φ' φ'' : Emb} {S S' S'' : St} {w w' w'' : World}
theorem Post.refl (h : Rel W φ S w) : Post W φ S w φ S w := ⟨ELe.refl φ, h, fun _ _ e => .inl e, Nat.le_refl _, fun _ _ _ => rfl, fun _ _ h => h⟩
theorem Post.trans (h : Post W φ S w φ' S' w') (hc : S.c ≤ S'.c) (hc' : S'.c ≤ S''.c) (k : Post W φ' S' w' φ'' S'' w'') : Post W φ S w φ'' S'' w'' := by
  refine ⟨ELe.trans h.ext k.ext, k.rel, ?_, Nat.le_trans h.size k.size, ?_, ?_⟩
  · intro i L e
    rcases k.dom i L e with e | ⟨a, b⟩
    · rcases h.dom i L e with e | ⟨a, b⟩
      · exact .inl e
      · exact .inr ⟨a, Nat.lt_of_lt_of_le b hc'⟩
    · exact .inr ⟨Nat.le_trans hc a, b⟩
  · intro b hb ht
    rw [k.f1 b (Nat.lt_of_lt_of_le hb h.size) (fun t => ht (h.f2 b hb t))]
    exact h.f1 b hb ht
  · exact fun b hb t => h.f2 b hb (k.f2 b (Nat.lt_of_lt_of_le hb h.size) t)
theorem Rel.cell_old (h : Rel W φ S w) {a : Addr} (ha : a.block < W.heap.size) : w.cell? a = W.cell? a := h.below.cell ha
theorem oldV_rel (h : Rel W φ S w) {v : Value} (hv : oldV W v = true) : VRel W.heap.size φ v v := by
  cases v with
  | pointer a =>
    cases a with
    | none => exact .nilPtr
    | some a =>
      have hv := of_decide_eq_true hv
      exact .ptr ⟨_, h.base _ hv, rfl, by simp, rfl, fun hh => absurd hv (by omega)⟩
  | slice a l c =>
    cases a with
    | none => exact .nilSl _ _
    | some a =>
      have hv := of_decide_eq_true hv
      exact .sl ⟨_, h.base _ hv, rfl, rfl, fun hh => absurd hv (by omega), .inl ⟨rfl, rfl, by simp⟩⟩
  | map r =>
    cases r with
    | none => exact .nilMap
    | some r =>
      have hv := of_decide_eq_true hv
      exact .map (h.base r hv) rfl
  | _ => exact flat0_refl (by simpa [oldV] using hv)
theorem getV_old {v : Value} (hv : oldV W v = true) : getV W v = some v := if_pos hv
theorem getV_rel (h : Rel W φ S w) {u v : Value} (hv : getV W u = some v) : VRel W.heap.size φ v u := by
  unfold getV at hv
  split at hv
  · rename_i ho
    cases hv
    exact oldV_rel h ho
  · split at hv
    · cases hv
      exact .sl0 (Nat.le_refl _)
    · cases hv
end
end Go.Proofs.Yteofdikfdknpbaa.E
end
section
namespace Go.Proofs.Yteofdikfdknpbaa.E
open Go Go.RowKit
set_option linter.unusedVariables false
theorem still_run {P : Program} {α : Type} : ∀ {m : Sem α} {a : α} (w : World), still P m = some a → m.run P w = .ok a w
  | .pure _, _, w, h => by simp only [still, Option.some.injEq] at h; subst h; rfl
  | .program k, _, w, h => by simp only [still] at h; simp only [Sem.run]; exact still_run w h
  | .mark _ k, _, w, h => by simp only [still] at h; simp only [Sem.run]; exact still_run w h
  | .load .., _, _, h => by simp [still] at h
  | .store .., _, _, h => by simp [still] at h
  | .new .., _, _, h => by simp [still] at h
  | .shape .., _, _, h => by simp [still] at h
  | .freeze .., _, _, h => by simp [still] at h
  | .frozen .., _, _, h => by simp [still] at h
  | .getObj .., _, _, h => by simp [still] at h
  | .setObj .., _, _, h => by simp [still] at h
  | .choose .., _, _, h => by simp [still] at h
  | .sys .., _, _, h => by simp [still] at h
  | .halt .., _, _, h => by simp [still] at h
theorem still_bind {P : Program} {α β : Type} (m : Sem α) (f : α → Sem β) : still P (m >>= f) = (still P m).bind fun a => still P (f a) := by
  show still P (m.bind f) = _
  induction m with
  | program k ih => simp only [Sem.bind, still]; exact ih P
  | mark _ k ih => simp only [Sem.bind, still]; exact ih
  | _ => rfl
theorem still_pure {P : Program} {α : Type} (a : α) : still P (pure a : Sem α) = some a := rfl
theorem run_bind_ok {P : Program} {α β : Type} {m : Sem α} {f : α → Sem β} {w w' : World} {a : α} (h : m.run P w = .ok a w') : (m >>= f).run P w = (f a).run P w' := by
  rw [Sem.run_bind, h]; rfl
theorem runPure {P : Program} {α : Type} (a : α) (w : World) : (pure a : Sem α).run P w = .ok a w := rfl
theorem runLoad {P : Program} {w : World} {a : Addr} {v : Value} (h : w.cell? a = some v) : (load a).run P w = .ok v w := by
  simp only [Go.load, Sem.run, h]
theorem runLoadCellsFrom {P : Program} {w : World} {a : Addr} : ∀ (l : List Value) (i : Nat) (acc : Array Value),
    (∀ (j : Nat) (v : Value), l[j]? = some v → w.cell? (a.add (i + j)) = some v) → (loadCellsFrom a i l.length acc).run P w = .ok (acc ++ l.toArray) w
  | [], i, acc, h => by simp [loadCellsFrom]
  | v :: l, i, acc, h => by
    simp only [List.length_cons, loadCellsFrom]
    rw [run_bind_ok (runLoad (by simpa using h 0 v (by simp))), runLoadCellsFrom l (i + 1) _ (fun j u e => by have := h (j + 1) u (by simpa using e); rwa [show i + 1 + j = i + (j + 1) by omega])]
    simp
theorem runLoadCells {P : Program} {w : World} {a : Addr} {l : List Value} {n : Nat} (hn : l.length = n) (h : ∀ (j : Nat) (v : Value), l[j]? = some v → w.cell? (a.add j) = some v) : (loadCells a n).run P w = .ok l.toArray w := by
  subst hn
  rw [loadCells, runLoadCellsFrom l 0 #[] (fun j v e => by rw [Nat.zero_add]; exact h j v e)]
  simp
section
variable {W : World} {φ : Emb} {S : St} {w : World}
theorem add_block (a : Addr) (n : Nat) : (a.add n).block = a.block := by unfold Addr.add; split <;> rfl
theorem add_off (a : Addr) (n : Nat) : (a.add n).off = a.off + n := by unfold Addr.add; split <;> simp_all
theorem add_spot (a : Addr) (n : Nat) : (a.add n).spot = if n = 0 then a.spot else none := by unfold Addr.add; split <;> simp_all
theorem ARel.add {N : Nat} {a a' : Addr} (h : ARel N φ a a') (n : Nat) : ARel N φ (a.add n) (a'.add n) := by
  obtain ⟨L, h1, h2, h3, h4, h5⟩ := h
  refine ⟨L, by rw [add_block]; exact h1, by rw [add_block]; exact h2, by rw [add_off, add_off, h3]; omega, by rw [add_spot, add_spot, h4], fun hh => ?_⟩
  rw [add_block] at hh
  rw [add_spot, h5 hh]
  split <;> rfl
theorem ARel.old (h : Rel W φ S w) {a a' : Addr} (k : ARel W.heap.size φ a a') (ha : a.block < W.heap.size) : a' = a := by
  obtain ⟨L, h1, h2, h3, h4, h5⟩ := k
  rw [h.base _ ha] at h1
  cases h1
  cases a; cases a'
  simp_all
theorem cell_row {w : World} {b : Nat} {C : Array Value} {e : TypeId} {fr : Nat × Nat} (h : w.heap[b]? = some (.cells C e fr)) (o : Nat) : w.cell? ⟨b, o, none⟩ = C[o]? := by
  unfold World.cell?
  simp [h]
theorem oldCells_spec {a : Addr} : ∀ (n i : Nat) (l : List Value), oldCells W a i n = some l → l.length = n ∧ ∀ (j : Nat) (v : Value), l[j]? = some v → ∃ u, W.cell? (a.add (i + j)) = some u ∧ getV W u = some v
  | 0, i, l, h => by simp only [oldCells, Option.some.injEq] at h; subst h; exact ⟨rfl, fun j v e => by simp at e⟩
  | n + 1, i, l, h => by
    simp only [oldCells] at h
    split at h
    · rename_i v hv
      split at h
      · rename_i x ho
        split at h
        · rename_i r hr
          cases h
          obtain ⟨h1, h2⟩ := oldCells_spec n (i + 1) r hr
          refine ⟨by simp [h1], fun j u e => ?_⟩
          cases j with
          | zero => simp at e; subst e; exact ⟨v, hv, ho⟩
          | succ j => have := h2 j u (by simpa using e); rwa [show i + 1 + j = i + (j + 1) by omega] at this
        · cases h
      · cases h
    · cases h
theorem cells_sound (h : Rel W φ S w) {a a' : Addr} (k : ARel W.heap.size φ a a') {n : Nat} {l : List Value} (e : S.cells W a n = some l) :
    ∃ l', LRel W.heap.size φ l l' ∧ l.length = n ∧ ∀ (j : Nat) (v : Value), l'[j]? = some v → w.cell? (a'.add j) = some v := by
  unfold St.cells at e
  split at e
  · cases e; exact ⟨[], LRel.nil, by simp_all, fun j v e => by simp at e⟩
  split at e
  · rename_i _ ha
    obtain ⟨h1, h2⟩ := oldCells_spec _ _ _ e
    have ea := k.old h ha
    subst ea
    have hw : ∀ j, j < n → ∃ u, W.cell? (a'.add j) = some u ∧ ∃ v, l[j]? = some v ∧ getV W u = some v := fun j hj => by
      obtain ⟨u, q1, q2⟩ := h2 j l[j] (List.getElem?_eq_getElem (by omega))
      rw [Nat.zero_add] at q1
      exact ⟨u, q1, _, List.getElem?_eq_getElem (by omega), q2⟩
    have hb : ∀ m, m ≤ n → ∃ l' : List Value, l'.length = m ∧ ∀ j, j < m → ∃ u, l'[j]? = some u ∧ W.cell? (a'.add j) = some u ∧ ∃ v, l[j]? = some v ∧ getV W u = some v := by
      intro m
      induction m with
      | zero => exact fun _ => ⟨[], rfl, fun j hj => absurd hj (by omega)⟩
      | succ m ih =>
        intro hm
        obtain ⟨l', q1, q2⟩ := ih (by omega)
        obtain ⟨u, q3, q4⟩ := hw m (by omega)
        refine ⟨l' ++ [u], by simp [q1], fun j hj => ?_⟩
        by_cases hjm : j < m
        · obtain ⟨u', q5, q6⟩ := q2 j hjm
          exact ⟨u', by rw [List.getElem?_append_left (by omega)]; exact q5, q6⟩
        · have : j = m := by omega
          subst this
          exact ⟨u, by rw [List.getElem?_append_right (by omega), q1, Nat.sub_self]; rfl, q3, q4⟩
    obtain ⟨l', q1, q2⟩ := hb n (Nat.le_refl _)
    refine ⟨l', ⟨by omega, fun i v hv => ?_⟩, h1, fun j v hv => ?_⟩
    · have hi := (List.getElem?_eq_some_iff.1 hv).1
      obtain ⟨u, q3, q4, v', q5, q6⟩ := q2 i (by omega)
      rw [hv] at q5
      cases q5
      exact ⟨u, q3, getV_rel h q6⟩
    · have hi := (List.getElem?_eq_some_iff.1 hv).1
      obtain ⟨u, q3, q4, _⟩ := q2 j (by omega)
      rw [hv] at q3
      cases q3
      rw [h.cell_old (by rw [add_block]; exact ha)]
      exact q4
  · rename_i _ ha
    split at e
    · rename_i cs kk hh
      split at e
      · rename_i hle
        cases e
        obtain ⟨L, k1, k2, k3, k4, k5⟩ := k
        obtain ⟨b1, b2, b3⟩ := h.blk _ L k1 (by omega)
        rw [hh] at b3
        obtain ⟨C, ee, fr, c1, c2, c3, c4, c5, c6⟩ := b3
        have hsp := k5 (by omega)
        refine ⟨(C.toList.drop (L.off + a.off)).take n, ⟨?_, fun i v hv => ?_⟩, ?_, fun j v hv => ?_⟩
        · simp only [List.length_take, List.length_drop, Array.length_toList]; omega
        · rw [List.getElem?_take] at hv ⊢
          split at hv
          · rename_i hi
            rw [if_pos hi]
            rw [List.getElem?_drop] at hv ⊢
            obtain ⟨v', d1, d2⟩ := c6 _ _ hv
            refine ⟨v', ?_, d2⟩
            rw [Array.getElem?_toList]
            rwa [show L.off + a.off + i = L.off + (a.off + i) by omega]
          · cases hv
        · simp only [List.length_take, List.length_drop]; omega
        · rw [List.getElem?_take] at hv
          split at hv
          · rw [List.getElem?_drop, Array.getElem?_toList] at hv
            have : a'.add j = ⟨L.blk, L.off + a.off + j, none⟩ := by
              cases a' with
              | mk x y z =>
                simp only at k2 k3 k4
                subst k2 k3
                rw [k4, hsp]
                unfold Addr.add
                split
                · rename_i hj; subst hj; rfl
                · rfl
            rw [this, cell_row c1]
            exact hv
          · cases hv
      · cases e
    · cases e
theorem cell_sound (h : Rel W φ S w) {a a' : Addr} (k : ARel W.heap.size φ a a') {v : Value} (e : S.cell W a = some v) :
    ∃ v', VRel W.heap.size φ v v' ∧ w.cell? a' = some v' := by
  unfold St.cell at e
  split at e
  · rename_i ha
    split at e
    · rename_i u hu
      have ea := k.old h ha
      subst ea
      exact ⟨u, getV_rel h e, by rw [h.cell_old ha]; exact hu⟩
    · cases e
  · rename_i ha
    split at e
    · rename_i cs kk hh
      obtain ⟨L, k1, k2, k3, k4, k5⟩ := k
      obtain ⟨b1, b2, b3⟩ := h.blk _ L k1 (by omega)
      rw [hh] at b3
      obtain ⟨C, ee, fr, c1, c2, c3, c4, c5, c6⟩ := b3
      have hsp := k5 (by omega)
      obtain ⟨v', d1, d2⟩ := c6 _ _ e
      refine ⟨v', d2, ?_⟩
      cases a' with
      | mk x y z =>
        simp only at k2 k3 k4
        subst k2 k3
        rw [k4, hsp, cell_row c1]
        exact d1
    · cases e
end
end Go.Proofs.Yteofdikfdknpbaa.E
end
section
namespace Go.Proofs.Yteofdikfdknpbaa.E
open Go Go.RowKit
set_option linter.unusedVariables false
section
variable {W : World} {φ : Emb} {S : St} {w : World}
theorem Rel.of_heap (h : Rel W φ S w) {w' : World} (e1 : w'.heap = w.heap) (e2 : w'.os = w.os) (e3 : w'.tape = w.tape) (e4 : w'.output = w.output) : Rel W φ S w' := by
  refine ⟨⟨e2.trans h.below.os, e3.trans h.below.tape, e4.trans h.below.output, by rw [e1]; exact h.below.size, fun k hk => by rw [e1]; exact h.below.block k hk⟩, h.base, h.lockN, h.ok, h.deadB, fun i L e hi => ?_, h.inj⟩
  obtain ⟨a, b, c⟩ := h.blk i L e hi
  refine ⟨a, by rw [e1]; exact b, ?_⟩
  revert c
  cases S.heap i with
  | dead => exact fun _ => trivial
  | row cs k => unfold BRel; rw [e1]; exact id
  | map es clk => unfold BRel; rw [e1]; exact id
theorem Post.of_heap (h : Rel W φ S w) {w' : World} (e1 : w'.heap = w.heap) (e2 : w'.os = w.os) (e3 : w'.tape = w.tape) (e4 : w'.output = w.output) : Post W φ S w φ S w' :=
  ⟨ELe.refl φ, h.of_heap e1 e2 e3 e4, fun _ _ e => .inl e, by rw [e1]; exact Nat.le_refl _, fun _ _ _ => by rw [e1], fun _ _ h => h⟩
theorem Post.drew (h : Rel W φ S w) : Post W φ S w φ S { w with drawn := w.drawn + 1 } := Post.of_heap h rfl rfl rfl rfl
theorem ne_old (h : Rel W φ S w) {i : Nat} (hd : S.heap i ≠ .dead) : W.heap.size ≤ i := Nat.le_of_not_lt fun hh => hd (h.deadB i hh)
theorem BRel.mono {N : Nat} {φ φ' : Emb} (hle : ELe φ φ') {w : World} {L : Loc} {o : AObj} (h : BRel N φ w L o) : BRel N φ' w L o := by
  cases o with
  | dead => trivial
  | row cs k => obtain ⟨C, e, fr, h1, h2, h3, h4, h5, h6⟩ := h; exact ⟨C, e, fr, h1, h2, h3, h4, h5, fun j v hv => let ⟨v', a, b⟩ := h6 j v hv; ⟨v', a, b.mono hle⟩⟩
  | map es clk => exact h
theorem BRel.heap {N : Nat} {φ : Emb} {w w' : World} {L : Loc} {o : AObj} (h : BRel N φ w L o) (e : w'.heap[L.blk]? = w.heap[L.blk]?) : BRel N φ w' L o := by
  cases o with
  | dead => trivial
  | row cs k => unfold BRel; rw [e]; exact h
  | map es clk => unfold BRel; rw [e]; exact h
theorem post_write (h : Rel W φ S w) {i : Nat} {L : Loc} (hφ : φ i = some L) (hl : S.lock ≤ i) (hd : S.heap i ≠ .dead) {o : AObj} {w' : World}
    (hs : w'.heap.size = w.heap.size) (ho : ∀ b, b ≠ L.blk → w'.heap[b]? = w.heap[b]?) (e2 : w'.os = w.os) (e3 : w'.tape = w.tape) (e4 : w'.output = w.output) (hb : BRel W.heap.size φ w' L o) :
    Post W φ S w φ (S.upd i o) w' := by
  have hN := ne_old h hd
  obtain ⟨b1, b2, b3⟩ := h.blk i L hφ hN
  have hic : i < S.c := Nat.lt_of_not_le fun hh => hd (h.ok.2 i hh)
  refine ⟨ELe.refl φ, ⟨⟨e2.trans h.below.os, e3.trans h.below.tape, e4.trans h.below.output, by rw [hs]; exact h.below.size, fun k hk => by rw [ho k (by omega)]; exact h.below.block k hk⟩, h.base, h.lockN, ⟨h.ok.1, fun j hj => ?_⟩, fun j hj => ?_, fun j Lj ej hj => ?_, fun j k Lj Lk ej ek hj hk hne dj dk => ?_⟩, fun _ _ e => .inl e, Nat.le_of_eq hs.symm, fun b hb ht => ho b fun e => ht ⟨i, L, hφ, e.symm, hl, hd⟩, fun b hb ht => ?_⟩
  · have hj : S.c ≤ j := hj
    show (if j = i then o else S.heap j) = _; rw [if_neg (by omega)]; exact h.ok.2 j hj
  · show (if j = i then o else S.heap j) = _; rw [if_neg (by omega)]; exact h.deadB j hj
  · obtain ⟨a1, a2, a3⟩ := h.blk j Lj ej hj
    refine ⟨a1, by rw [hs]; exact a2, ?_⟩
    show BRel _ _ _ _ (if j = i then o else S.heap j)
    split
    · rename_i e; subst e; rw [hφ] at ej; cases ej; exact hb
    · rename_i e
      by_cases dj : S.heap j = .dead
      · rw [dj]; trivial
      · exact a3.heap (ho _ (h.inj j i Lj L ej hφ hj hN e dj hd))
  · have key : ∀ m, (if m = i then o else S.heap m) ≠ .dead → m = i ∨ S.heap m ≠ .dead := fun m hm => by
      by_cases e : m = i
      · exact .inl e
      · rw [if_neg e] at hm; exact .inr hm
    have cj : S.heap j ≠ .dead := by rcases key j dj with e | e; (· rw [e]; exact hd); exact e
    have ck : S.heap k ≠ .dead := by rcases key k dk with e | e; (· rw [e]; exact hd); exact e
    exact h.inj j k Lj Lk ej ek hj hk hne cj ck
  · obtain ⟨j, Lj, ej, eb, hj, dj⟩ := ht
    refine ⟨j, Lj, ej, eb, hj, ?_⟩
    have dj : (if j = i then o else S.heap j) ≠ .dead := dj
    by_cases e : j = i
    · rw [e]; exact hd
    · rwa [if_neg e] at dj
theorem setCell_heap_ne (w : World) (a : Addr) (v : Value) {b : Nat} (h : b ≠ a.block) : (w.setCell a v).heap[b]? = w.heap[b]? := Below.heap_setCell w a v b h
theorem setCell_heap_eq {w : World} {b o : Nat} {C : Array Value} {e : TypeId} {fr : Nat × Nat} (h : w.heap[b]? = some (.cells C e fr)) (v : Value) :
    (w.setCell ⟨b, o, none⟩ v).heap[b]? = some (.cells (C.setIfInBounds o v) e fr) := by
  simp only [World.setCell, Array.getElem?_modify, if_true, h]
  rfl
theorem setCell_size (w : World) (a : Addr) (v : Value) : (w.setCell a v).heap.size = w.heap.size := by simp [World.setCell]
theorem store_one (h : Rel W φ S w) {i o : Nat} {L : Loc} {cs : List Value} {k : Nat} (hφ : φ i = some L) (hh : S.heap i = .row cs k) (hl : S.lock ≤ i) (ho : o < cs.length) {v v' : Value} (hv : VRel W.heap.size φ v v') :
    (∃ u, w.cell? ⟨L.blk, L.off + o, none⟩ = some u) ∧ w.frozen? ⟨L.blk, L.off + o, none⟩ = false ∧
    Post W φ S w φ (S.upd i (.row (cs.set o v) k)) (w.setCell ⟨L.blk, L.off + o, none⟩ v') := by
  have hd : S.heap i ≠ .dead := by rw [hh]; exact fun e => by cases e
  have hN := ne_old h hd
  obtain ⟨b1, b2, b3⟩ := h.blk i L hφ hN
  rw [hh] at b3
  obtain ⟨C, e, fr, c1, c2, c3, c4, c5, c6⟩ := b3
  refine ⟨⟨C[L.off + o]'(by omega), by rw [cell_row c1, Array.getElem?_eq_getElem]⟩, ?_, ?_⟩
  · unfold World.frozen?
    dsimp only
    rw [c1]
    have := c2 (L.off + o) (by omega)
    cases hx : (decide (fr.1 ≤ L.off + o) && decide (L.off + o < fr.2)) with
    | false => exact hx
    | true => simp only [Bool.and_eq_true, decide_eq_true_eq] at hx; exact (this hx).elim
  · refine post_write h hφ hl hd (setCell_size _ _ _) (fun b hb => setCell_heap_ne _ _ _ hb) rfl rfl rfl ?_
    refine ⟨C.setIfInBounds (L.off + o) v', e, fr, setCell_heap_eq c1 v', by simpa using c2, c3, by simpa using c4, by simpa using c5, fun j u hu => ?_⟩
    rw [List.getElem?_set] at hu
    by_cases hj : o = j
    · subst hj
      rw [if_pos rfl, if_pos ho] at hu
      cases hu
      exact ⟨v', by rw [Array.getElem?_setIfInBounds_self]; rw [if_pos (by omega)], hv⟩
    · rw [if_neg hj] at hu
      obtain ⟨u', a, b⟩ := c6 j u hu
      exact ⟨u', by rw [Array.getElem?_setIfInBounds_ne (by omega)]; exact a, b⟩
theorem runStore {P : Program} {w : World} {a : Addr} {v u : Value} (hs : storable v = true) (hc : w.cell? a = some u) (hf : w.frozen? a = false) : (store a v).run P w = .ok () (w.setCell a v) := by
  cases v <;> first | (simp [storable] at hs; done) | (simp only [Go.store, Sem.run, hc]; rw [if_neg (by rw [hf]; exact Bool.false_ne_true)])
theorem storable_rel {N : Nat} {v v' : Value} (hv : VRel N φ v v') (hs : storable v = true) : storable v' = true := by
  cases hv <;> first | rfl | simp [storable] at hs
theorem store_all {P : Program} : ∀ (vs : List Value) {vs' : List Value} (S : St) (w : World) (i o j : Nat) (L : Loc) (cs : List Value) (k : Nat) (a' : Addr), Rel W φ S w → φ i = some L → S.heap i = .row cs k → S.lock ≤ i →
    o + vs.length ≤ cs.length → LRel W.heap.size φ vs vs' → vs.all storable = true → (∀ m, a'.add (j + m) = ⟨L.blk, L.off + (o + m), none⟩) →
    ∃ w', (storeCells a' vs' j).run P w = .ok () w' ∧ Post W φ S w φ (S.upd i (.row (splice cs o vs) k)) w' ∧ w'.heap.size = w.heap.size
  | [], vs', S, w, i, o, j, L, cs, k, a', h, hφ, hh, hl, hle, hv, hs, ha => by
    rw [LRel.of_nil hv]
    refine ⟨w, rfl, ?_, rfl⟩
    have e : S.upd i (.row (splice cs o []) k) = S := by
      cases S with
      | mk hp c lk =>
        simp only [St.upd, splice]
        congr 1
        funext m
        split
        · rename_i e; subst e; exact hh.symm
        · rfl
    rw [e]
    exact Post.refl h
  | v :: vs, vs', S, w, i, o, j, L, cs, k, a', h, hφ, hh, hl, hle, hv, hs, ha => by
    obtain ⟨v', r, rfl, hv1, hv2⟩ := hv.uncons
    simp only [List.length_cons] at hle
    simp only [List.all_cons, Bool.and_eq_true] at hs
    obtain ⟨⟨u, hu⟩, hf, hp⟩ := store_one (o := o) h hφ hh hl (by omega) hv1
    have ha0 := ha 0
    rw [Nat.add_zero, Nat.add_zero] at ha0
    have hlen : o + 1 + vs.length ≤ (cs.set o v).length := by rw [List.length_set]; omega
    obtain ⟨w2, r2, p2, s2⟩ := store_all (P := P) vs (S.upd i (.row (cs.set o v) k)) _ i (o + 1) (j + 1) L (cs.set o v) k a' hp.rel hφ (by simp [St.upd]) hl hlen hv2 hs.2 (fun m => by rw [show j + 1 + m = j + (m + 1) by omega, ha, show o + 1 + m = o + (m + 1) by omega])
    refine ⟨w2, ?_, ?_, by rw [s2]; exact setCell_size _ _ _⟩
    · simp only [storeCells]
      rw [ha0, run_bind_ok (runStore (storable_rel hv1 hs.1) hu hf)]
      exact r2
    · have e : (S.upd i (.row (cs.set o v) k)).upd i (.row (splice (cs.set o v) (o + 1) vs) k) = S.upd i (.row (splice cs o (v :: vs)) k) := by
        simp only [St.upd, splice]
        congr 1
        funext m
        split <;> rfl
      rw [e] at p2
      exact hp.trans (Nat.le_refl _) (Nat.le_refl _) p2
theorem addr_of {a a' : Addr} {L : Loc} (k2 : a'.block = L.blk) (k3 : a'.off = L.off + a.off) (k4 : a'.spot = none) (m : Nat) : a'.add m = ⟨L.blk, L.off + (a.off + m), none⟩ := by
  cases a' with
  | mk x y z =>
    simp only at k2 k3 k4
    subst k2 k3 k4
    unfold Addr.add
    split
    · rename_i hm; subst hm; rfl
    · simp only [Nat.add_assoc]
theorem put_sound {P : Program} (h : Rel W φ S w) {a a' : Addr} (k : ARel W.heap.size φ a a') {vs vs' : List Value} (hv : LRel W.heap.size φ vs vs') {S' : St} (e : S.put a vs = some S') :
    ∃ w', (storeCells a' vs').run P w = .ok () w' ∧ Post W φ S w φ S' w' ∧ AStep S S' := by
  unfold St.put at e
  split at e
  · rename_i h0
    cases e
    have : vs = [] := List.eq_nil_of_length_eq_zero h0
    subst this
    rw [LRel.of_nil hv]
    exact ⟨w, rfl, Post.refl h, AStep.refl S⟩
  split at e
  · rename_i hl
    split at e
    · rename_i cs kk hh
      split at e
      · rename_i hle
        split at e
        · rename_i hs
          cases e
          have hd : S.heap a.block ≠ .dead := by rw [hh]; exact fun e => by cases e
          obtain ⟨L, k1, k2, k3, k4, k5⟩ := k
          have hsp := k5 (ne_old h hd)
          obtain ⟨w', r, p, _⟩ := store_all (P := P) vs S w a.block a.off 0 L cs kk a' h k1 hh hl hle hv hs (fun m => by rw [Nat.zero_add]; exact addr_of k2 k3 (k4.trans hsp) m)
          exact ⟨w', r, p, AStep.upd S _ _ h.ok hl hd⟩
        · cases e
      · cases e
    · cases e
  · cases e
def Emb.ext (φ : Emb) (i : Nat) (L : Loc) : Nat → Option Loc := fun j => if j = i then some L else φ j
theorem ext_le {i : Nat} {L : Loc} (hf : φ i = none) : ELe φ (Emb.ext φ i L) := fun j M e => by
  unfold Emb.ext
  rw [if_neg (fun e2 => by rw [e2, hf] at e; cases e)]
  exact e
theorem heap_alloc_eq (w : World) (o : Obj) : (w.alloc o).heap[w.heap.size]? = some o := by
  show (w.heap.push o)[w.heap.size]? = _
  simp
theorem post_new (h : Rel W φ S w) (hf : φ S.c = none) {o : AObj} {ob : Obj} {L : Loc} (hL : L.blk = w.heap.size) (hb : BRel W.heap.size φ (w.alloc ob) L o) :
    Post W φ S w (Emb.ext φ S.c L) (S.new o) (w.alloc ob) := by
  have hNw : W.heap.size ≤ w.heap.size := h.below.size
  have hNc : W.heap.size ≤ S.c := Nat.le_trans h.lockN h.ok.1
  have hsz : (w.alloc ob).heap.size = w.heap.size + 1 := by show (w.heap.push ob).size = _; simp
  have hle := ext_le (L := L) hf
  refine ⟨hle, ⟨h.below.alloc hNw ob, fun i hi => by unfold Emb.ext; rw [if_neg (by omega)]; exact h.base i hi, h.lockN, ⟨Nat.le_succ_of_le h.ok.1, fun j hj => ?_⟩, fun j hj => ?_, fun j Lj ej hj => ?_, fun j k Lj Lk ej ek hj hk hne dj dk => ?_⟩, fun i M e => ?_, by rw [hsz]; omega, fun b hb2 _ => Below.heap_alloc _ _ _ hb2, fun b hb2 ht => ?_⟩
  · have hj : S.c + 1 ≤ j := hj
    show (if j = S.c then o else S.heap j) = _; rw [if_neg (by omega)]; exact h.ok.2 j (by omega)
  · show (if j = S.c then o else S.heap j) = _; rw [if_neg (by omega)]; exact h.deadB j hj
  · show _ ∧ _ ∧ BRel _ _ _ _ (if j = S.c then o else S.heap j)
    unfold Emb.ext at ej
    split at ej
    · rename_i e; cases ej; rw [if_pos e]; exact ⟨by omega, by omega, hb.mono hle⟩
    · rename_i e
      rw [if_neg e]
      obtain ⟨a1, a2, a3⟩ := h.blk j Lj ej hj
      exact ⟨a1, by omega, (a3.heap (Below.heap_alloc _ _ _ a2)).mono hle⟩
  · have dj : (if j = S.c then o else S.heap j) ≠ .dead := dj
    have dk : (if k = S.c then o else S.heap k) ≠ .dead := dk
    unfold Emb.ext at ej ek
    split at ej
    · rename_i e1
      cases ej
      rw [if_neg (by omega)] at ek
      have := (h.blk k Lk ek hk).2.1
      omega
    · rename_i e1
      rw [if_neg e1] at dj
      split at ek
      · rename_i e2
        cases ek
        have := (h.blk j Lj ej hj).2.1
        omega
      · rename_i e2
        rw [if_neg e2] at dk
        exact h.inj j k Lj Lk ej ek hj hk hne dj dk
  · unfold Emb.ext at e
    split at e
    · rename_i e1; subst e1; exact .inr ⟨Nat.le_refl _, Nat.lt_succ_self _⟩
    · exact .inl e
  · obtain ⟨j, Lj, ej, eb, hj, dj⟩ := ht
    have dj : (if j = S.c then o else S.heap j) ≠ .dead := dj
    unfold Emb.ext at ej
    split at ej
    · cases ej; omega
    · rename_i e1; rw [if_neg e1] at dj; exact ⟨j, Lj, ej, eb, hj, dj⟩
theorem post_move (h : Rel W φ S w) {i : Nat} {L L' : Loc} (hφ : φ i = some L) (hl : S.lock ≤ i) (hd : S.heap i ≠ .dead) (hf : φ S.c = none) {o : AObj} {w' : World}
    (hs : w'.heap.size = w.heap.size) (ho : ∀ b, b ≠ L.blk → w'.heap[b]? = w.heap[b]?) (e2 : w'.os = w.os) (e3 : w'.tape = w.tape) (e4 : w'.output = w.output) (hL : L'.blk = L.blk) (hb : BRel W.heap.size φ w' L' o) :
    Post W φ S w (Emb.ext φ S.c L') ((S.upd i .dead).new o) w' := by
  have p1 := post_write h hφ hl hd (o := .dead) hs ho e2 e3 e4 trivial
  have hN := ne_old h hd
  have hNc : W.heap.size ≤ S.c := Nat.le_trans h.lockN h.ok.1
  have hic : i < S.c := Nat.lt_of_not_le fun hh => hd (h.ok.2 i hh)
  have hle := ext_le (L := L') hf
  have R := p1.rel
  obtain ⟨q1, q2, q3⟩ := h.blk i L hφ hN
  have hin : ∀ j, S.heap j ≠ .dead → j ≠ i → ∀ Lj, φ j = some Lj → W.heap.size ≤ j → Lj.blk ≠ L.blk := fun j dj hne Lj ej hj => h.inj j i Lj L ej hφ hj hN hne dj hd
  have hhp : ∀ j, ((S.upd i .dead).new o).heap j = if j = S.c then o else if j = i then .dead else S.heap j := fun j => rfl
  refine ⟨hle, ⟨R.below, fun j hj => by unfold Emb.ext; rw [if_neg (by omega)]; exact h.base j hj, h.lockN, ⟨Nat.le_succ_of_le h.ok.1, fun j hj => ?_⟩, fun j hj => ?_, fun j Lj ej hj => ?_, fun j k Lj Lk ej ek hj hk hne dj dk => ?_⟩, fun j M e => ?_, by rw [hs]; exact Nat.le_refl _, p1.f1, fun b hb2 ht => ?_⟩
  · have hj : S.c + 1 ≤ j := hj
    rw [hhp, if_neg (by omega)]; exact R.ok.2 j (show S.c ≤ j by omega)
  · rw [hhp, if_neg (by omega)]; exact R.deadB j hj
  · rw [hhp]
    unfold Emb.ext at ej
    split at ej
    · rename_i e; cases ej; rw [if_pos e]; exact ⟨by omega, by omega, hb.mono hle⟩
    · rename_i e
      rw [if_neg e]
      obtain ⟨a1, a2, a3⟩ := R.blk j Lj ej hj
      exact ⟨a1, a2, a3.mono hle⟩
  · rw [hhp] at dj dk
    unfold Emb.ext at ej ek
    split at ej
    · rename_i e1
      cases ej
      rw [if_neg (by omega)] at ek
      rw [if_neg (by omega)] at dk
      split at dk
      · exact (dk rfl).elim
      · rename_i e3; rw [hL]; exact (hin k dk e3 Lk ek hk).symm
    · rename_i e1
      rw [if_neg e1] at dj
      split at dj
      · exact (dj rfl).elim
      rename_i e3
      split at ek
      · cases ek; rw [hL]; exact hin j dj e3 Lj ej hj
      · rename_i e2
        rw [if_neg e2] at dk
        split at dk
        · exact (dk rfl).elim
        · exact h.inj j k Lj Lk ej ek hj hk hne dj dk
  · unfold Emb.ext at e
    split at e
    · rename_i e1; subst e1; exact .inr ⟨Nat.le_refl _, Nat.lt_succ_self _⟩
    · exact .inl e
  · obtain ⟨j, Lj, ej, eb, hj, dj⟩ := ht
    rw [hhp] at dj
    unfold Emb.ext at ej
    split at ej
    · cases ej; rw [hL] at eb; exact ⟨i, L, hφ, eb, hl, hd⟩
    · rename_i e1
      rw [if_neg e1] at dj
      split at dj
      · exact (dj rfl).elim
      · exact ⟨j, Lj, ej, eb, hj, dj⟩
end
end Go.Proofs.Yteofdikfdknpbaa.E
end
section
namespace Go.Proofs.Yteofdikfdknpbaa.E
open Go Go.RowKit
set_option linter.unusedVariables false
section
variable {P : Program} {W : World} {φ : Emb} {S : St} {w : World}
theorem run_und {t : TypeId} {d : TypeDesc} (h : P.underlying t = some d) (w : World) : (underlying t).run P w = .ok d w := by
  unfold underlying program
  simp only [Sem.run_bind]
  simp only [Sem.run, Result.andThen_ok, h]
  rfl
theorem run_info {t : TypeId} {i : TypeInfo} (h : P.info? t = some i) (w : World) : (typeInfo t).run P w = .ok i w := by
  unfold typeInfo program
  simp only [Sem.run_bind]
  simp only [Sem.run, Result.andThen_ok, h]
  rfl
theorem run_size {t : TypeId} {n : Nat} (h : szOf P t = some n) (w : World) : (sizeOf t).run P w = .ok n w := by
  unfold szOf at h
  cases hi : P.info? t with
  | none => rw [hi] at h; cases h
  | some i =>
    rw [hi] at h
    cases h
    unfold sizeOf
    rw [run_bind_ok (run_info hi w)]
    rfl
theorem run_zero {t : TypeId} {i : TypeInfo} {z : Value} (h : P.info? t = some i) (hz : i.zero = some z) (w : World) : (zeroValue t).run P w = .ok z w := by
  unfold zeroValue
  rw [run_bind_ok (run_info h w)]
  simp only [hz]
  rfl
theorem aZero_spec {t : TypeId} {z : Value} (h : aZero P t = some z) : ∃ i, P.info? t = some i ∧ i.zero = some z ∧ flat z = true := by
  unfold aZero at h
  split at h
  · rename_i i hi
    split at h
    · rename_i u hu
      split at h
      · cases h; exact ⟨i, hi, hu, ‹_›⟩
      · cases h
    · cases h
  · cases h
theorem run_newRow (e : TypeId) (C : Array Value) (w : World) : (newRow e C).run P w = .ok ⟨w.heap.size, 0, none⟩ (w.alloc (.cells C e)) := rfl
def aggT (d : TypeDesc) : Bool := match d with | .struct _ | .array _ _ => true | _ => false
theorem und_agg {t : TypeId} {d : TypeDesc} (h : P.underlying t = some d) (w : World) : (isAgg t).run P w = .ok (aggT d) w := by
  unfold isAgg
  rw [run_bind_ok (run_und h w)]
  cases d <;> rfl
theorem stillF_spec {m : Sem Value} {v : Value} (h : stillF P m = some v) : still P m = some v ∧ flat v = true := by
  unfold stillF at h
  split at h
  · split at h
    · cases h; exact ⟨‹_›, ‹_›⟩
    · cases h
  · cases h
def Does (P : Program) (W : World) (φ : Emb) (S : St) (w : World) (m : Sem Value) (v : Value) (S' : St) : Prop :=
  ∃ φ' v' w', m.run P w = .ok v' w' ∧ VRel W.heap.size φ' v v' ∧ Post W φ S w φ' S' w' ∧ AStep S S'
theorem Does.same (h : Rel W φ S w) {m : Sem Value} {v v' : Value} (hr : m.run P w = .ok v' w) (hv : VRel W.heap.size φ v v') : Does P W φ S w m v S :=
  ⟨φ, v', w, hr, hv, Post.refl h, AStep.refl S⟩
theorem Does.stillF (h : Rel W φ S w) {m : Sem Value} {v : Value} (hs : stillF P m = some v) : Does P W φ S w m v S :=
  Does.same h (still_run w (stillF_spec hs).1) (flat_refl (stillF_spec hs).2)
theorem load_run (h : Rel W φ S w) {t : TypeId} {x x' v : Value} (hx : VRel W.heap.size φ x x') (e : aLoad P W S t x = some v) : ∃ v', (Instr.loadAt t x').run P w = .ok v' w ∧ VRel W.heap.size φ v v' := by
  unfold aLoad at e
  split at e
  rotate_left
  · cases e
  rename_i a
  cases hx with
  | ptr ha =>
    rename_i a'
    have hsure : (Instr.loadAt t (.pointer (some a'))).run P w = (loadVar t a').run P w := by
      unfold Instr.loadAt Instr.sureAddr
      rw [run_bind_ok rfl]
    have agg : ∀ d, P.underlying t = some d → (aggT d) = true → (match szOf P t with | some n => (match S.cells W a n with | some l => some (.agg l.toArray) | none => none) | none => none) = some v → ∃ v', (Instr.loadAt t (.pointer (some a'))).run P w = .ok v' w ∧ VRel W.heap.size φ v v' := by
      intro d hd hb e
      split at e
      · rename_i n hn
        split at e
        · rename_i l hl
          cases e
          obtain ⟨l', h1, h2, h3⟩ := cells_sound h ha hl
          refine ⟨.agg l'.toArray, ?_, VRel.agg' h1⟩
          rw [hsure]
          unfold loadVar
          rw [run_bind_ok (und_agg hd w), hb]
          simp only [if_true]
          rw [run_bind_ok (run_size hn w), run_bind_ok (runLoadCells (h1.1.symm.trans h2) h3)]
          rfl
        · cases e
      · cases e
    split at e
    · exact agg _ ‹_› rfl e
    · exact agg _ ‹_› rfl e
    · rename_i d hns hna hd
      obtain ⟨v', h1, h2⟩ := cell_sound h ha e
      refine ⟨v', ?_, h1⟩
      rw [hsure]
      unfold loadVar
      rw [run_bind_ok (und_agg hd w)]
      have hb : (aggT d) = false := by cases d <;> first | rfl | exact (hns _ rfl).elim | exact (hna _ _ rfl).elim
      rw [hb]
      simp only [Bool.false_eq_true, if_false]
      exact runLoad h2
    · cases e
theorem does_load (h : Rel W φ S w) {t : TypeId} {x x' v : Value} (hx : VRel W.heap.size φ x x') (e : aLoad P W S t x = some v) : Does P W φ S w (Instr.loadAt t x') v S :=
  let ⟨v', a, b⟩ := load_run h hx e
  Does.same h a b
theorem does_store (h : Rel W φ S w) {t : TypeId} {x x' v v' : Value} (hx : VRel W.heap.size φ x x') (hv : VRel W.heap.size φ v v') {S' : St} (e : aStore P S t x v = some S') :
    ∃ w', (Instr.storeAt t x' v').run P w = .ok () w' ∧ Post W φ S w φ S' w' ∧ AStep S S' := by
  unfold aStore at e
  split at e
  rotate_left
  · cases e
  rename_i a
  split at e
  · rename_i hsz
    obtain ⟨hsz, hj⟩ := hsz
    cases hx with
    | ptr ha =>
      rename_i a'
      obtain ⟨w', r, p, q⟩ := put_sound (P := P) h ha (vs' := v'.cells.toList) (cells_rel hj hv) e
      refine ⟨w', ?_, p, q⟩
      unfold Instr.storeAt Instr.sureAddr
      rw [run_bind_ok rfl]
      unfold storeVar
      have hs' : v'.cells.size = v.cells.size := (cells_rel hj hv).size.symm
      rw [run_bind_ok (run_size hsz w)]
      simp only [hs', ne_eq, not_true_eq_false, if_false]
      exact r
  · cases e
theorem new_fresh (h : Rel W φ S w) (hf : φ S.c = none) {cs cs' : List Value} (k : Nat) (e : TypeId) (C : Array Value) (hr : LRel W.heap.size φ cs cs') (hC : ∀ (j : Nat) (v : Value), cs'[j]? = some v → C[j]? = some v) (hsz : cs.length ≤ C.size) :
    Post W φ S w (Emb.ext φ S.c ⟨w.heap.size, 0, k, C.size⟩) (S.new (.row cs k)) (w.alloc (.cells C e)) := by
  refine post_new h hf rfl ⟨C, e, (0, 0), heap_alloc_eq _ _, fun j hj hh => by have := hh.2; simp at this, rfl, rfl, by rw [Nat.zero_add]; exact hsz, fun j v hv => ?_⟩
  obtain ⟨v', e1, e2⟩ := hr.2 j v hv
  exact ⟨v', by rw [Nat.zero_add]; exact hC j v' e1, e2⟩
theorem ext_ptr {N : Nat} {i b k n : Nat} : ARel N (Emb.ext φ i ⟨b, 0, k, n⟩) ⟨i, 0, none⟩ ⟨b, 0, none⟩ :=
  ⟨⟨b, 0, k, n⟩, if_pos rfl, rfl, rfl, rfl, fun _ => rfl⟩
theorem does_box (h : Rel W φ S w) (hf : φ S.c = none) (e : TypeId) {x x' : Value} (hj : notJ x = true) (hx : VRel W.heap.size φ x x') :
    Does P W φ S w (Instr.box e x') (.pointer (some ⟨S.c, 0, none⟩)) (S.new (.row x.cells.toList 0)) := by
  refine ⟨_, .pointer (some ⟨w.heap.size, 0, none⟩), w.alloc (.cells x'.cells e), ?_, .ptr ext_ptr, new_fresh h hf 0 e x'.cells (cells_rel hj hx) (fun j v hv => by rwa [Array.getElem?_toList] at hv) (by have := (cells_rel hj hx).size; simp; omega), AStep.new S _ h.ok.1⟩
  unfold Instr.box newVar
  rw [run_bind_ok (run_newRow e x'.cells w)]
  rfl
theorem does_alloc (h : Rel W φ S w) (hf : φ S.c = none) {e : TypeId} {z : Value} (hz : aZero P e = some z) :
    Does P W φ S w (Instr.alloc e true (.tuple #[])) (.pointer (some ⟨S.c, 0, none⟩)) (S.new (.row z.cells.toList 0)) := by
  obtain ⟨i, h1, h2, h3⟩ := aZero_spec hz
  obtain ⟨φ', v', w', r, rest⟩ := does_box (P := P) h hf e (flat_notJ h3) (flat_refl (N := W.heap.size) (φ := φ) h3)
  refine ⟨φ', v', w', ?_, rest⟩
  rw [← r]
  unfold Instr.alloc Instr.box
  rw [run_bind_ok (run_zero h1 h2 w)]
theorem fill_rel {N : Nat} (pl : Nat → Option (Nat × Nat)) : ∀ (ps ps' : List (Nat × Value)) (c c' r : Array Value), ps.all (fun p => notJ p.2) = true → ps.map (·.1) = ps'.map (·.1) → LRel N φ (ps.map (·.2)) (ps'.map (·.2)) → RRel N φ c c' → Instr.fill pl c ps = some r →
    ∃ r', Instr.fill pl c' ps' = some r' ∧ RRel N φ r r'
  | [], ps', c, c', r, hj, h1, h2, h3, e => by
    have : ps' = [] := by cases ps' with | nil => rfl | cons _ _ => simp at h1
    subst this
    simp only [Instr.fill, Option.some.injEq] at e ⊢
    subst e
    exact ⟨c', rfl, h3⟩
  | (i, v) :: ps, ps', c, c', r, hj, h1, h2, h3, e => by
    simp only [List.all_cons, Bool.and_eq_true] at hj
    cases ps' with
    | nil => simp at h1
    | cons p ps' =>
      obtain ⟨i', v'⟩ := p
      simp only [List.map_cons, List.cons.injEq] at h1
      obtain ⟨rfl, h1⟩ := h1
      simp only [List.map_cons] at h2
      obtain ⟨u, q, e2, hv, h2⟩ := h2.uncons
      simp only [List.cons.injEq] at e2
      obtain ⟨rfl, rfl⟩ := e2
      simp only [Instr.fill] at e ⊢
      split at e
      · cases e
      · rename_i off size hp
        have hsz : v'.cells.size = v.cells.size := (cells_rel hj.1 hv).size.symm
        have hc : c'.size = c.size := h3.size.symm
        rw [hsz, hc]
        split at e
        · cases e
        · rename_i hok
          rw [if_neg hok]
          refine fill_rel pl ps ps' _ _ r hj.2 h1 h2 ?_ e
          have key : ∀ (l l' : List Value) (n : Nat) (d d' : Array Value), LRel N φ l l' → RRel N φ d d' →
              RRel N φ ((l.zipIdx n).foldl (fun cs (x : Value × Nat) => cs.setIfInBounds (off + x.2) x.1) d) ((l'.zipIdx n).foldl (fun cs (x : Value × Nat) => cs.setIfInBounds (off + x.2) x.1) d') := by
            intro l
            induction l with
            | nil => intro l' n d d' hl hd; rw [LRel.of_nil hl]; exact hd
            | cons x l ih =>
              intro l' n d d' hl hd
              obtain ⟨x', r', rfl, hx, hl⟩ := hl.uncons
              simp only [List.zipIdx_cons, List.foldl_cons]
              exact ih _ _ _ _ hl (hd.set _ hx)
          have := key v.cells.toList v'.cells.toList 0 c c' (cells_rel hj.1 hv) h3
          have two : ∀ (a : Array Value) (d : Array Value), a.zipIdx.foldl (fun cs (x : Value × Nat) => cs.setIfInBounds (off + x.2) x.1) d = (a.toList.zipIdx 0).foldl (fun cs (x : Value × Nat) => cs.setIfInBounds (off + x.2) x.1) d := by
            intro a d
            rw [← Array.foldl_toList, Array.toList_zipIdx]
          rw [← two, ← two] at this
          exact this
theorem flat_cells {z : Value} (h : flat z = true) : RRel W.heap.size φ z.cells z.cells := cells_rel (flat_notJ h) (flat_refl h)
theorem does_build (h : Rel W φ S w) {t : TypeId} {ps ps' : Array (Nat × Value)} {v : Value} (h1 : ps.toList.map (·.1) = ps'.toList.map (·.1)) (h2 : LRel W.heap.size φ (ps.toList.map (·.2)) (ps'.toList.map (·.2)))
    (e : aBuild P t ps = some v) : Does P W φ S w (Instr.build t ps') v S := by
  unfold aBuild at e
  split at e
  rotate_left
  · cases e
  rename_i z hz
  split at e
  rotate_left
  · cases e
  rename_i hj
  obtain ⟨i, z1, z2, z3⟩ := aZero_spec hz
  have sz : still P (zeroValue t) = some z := by
    unfold zeroValue typeInfo program
    simp only [still_bind, still, Option.bind_some, z1, still_pure, z2]
  unfold Instr.build at e
  rw [still_bind, sz, Option.bind_some, still_bind] at e
  cases hu : still P (underlying t) with
  | none => rw [hu] at e; cases e
  | some d =>
    rw [hu, Option.bind_some] at e
    have main : ∀ (pl : Nat → Option (Nat × Nat)), (match Instr.fill pl z.cells ps.toList with | some c => some (Value.agg c) | none => none) = some v → ∃ r', Instr.fill pl z.cells ps'.toList = some r' ∧ VRel W.heap.size φ v (.agg r') := by
      intro pl e
      split at e
      · rename_i r hr
        cases e
        obtain ⟨r', a, b⟩ := fill_rel pl _ _ _ _ r hj h1 h2 (flat_cells z3) hr
        exact ⟨r', a, VRel.agg' b⟩
      · cases e
    cases d with
    | struct fs =>
      dsimp only at e
      rw [still_bind] at e
      cases hm : still P (fs.mapM fun f => do pure (f.offset, ← sizeOf f.type)) with
      | none => rw [hm] at e; cases e
      | some pls =>
        rw [hm, Option.bind_some] at e
        obtain ⟨r', a, b⟩ := main (fun j => pls[j]?) (by
          split at e
          · rename_i c hc; rw [hc]; exact e
          · cases e)
        refine Does.same h ?_ b
        unfold Instr.build
        rw [run_bind_ok (still_run w sz), run_bind_ok (still_run w hu)]
        dsimp only
        rw [run_bind_ok (still_run w hm), a]
        rfl
    | array len el =>
      dsimp only at e
      rw [still_bind] at e
      cases hm : still P (sizeOf el) with
      | none => rw [hm] at e; cases e
      | some n =>
        rw [hm, Option.bind_some] at e
        obtain ⟨r', a, b⟩ := main (fun i => some (i * n, n)) (by
          split at e
          · rename_i c hc; rw [hc]; exact e
          · cases e)
        refine Does.same h ?_ b
        unfold Instr.build
        rw [run_bind_ok (still_run w sz), run_bind_ok (still_run w hu)]
        dsimp only
        rw [run_bind_ok (still_run w hm), a]
        rfl
    | _ => cases e
end
end Go.Proofs.Yteofdikfdknpbaa.E
end
section
namespace Go.Proofs.Yteofdikfdknpbaa.E
open Go Go.RowKit
set_option linter.unusedVariables false
section
variable {P : Program} {W : World} {φ : Emb} {S : St} {w : World}
theorem still_und (t : TypeId) : still P (underlying t) = P.underlying t := by
  unfold underlying program
  rw [still_bind]
  simp only [still, Option.bind_some]
  cases P.underlying t <;> rfl
theorem still_info (t : TypeId) : still P (typeInfo t) = P.info? t := by
  unfold typeInfo program
  rw [still_bind]
  simp only [still, Option.bind_some]
  cases P.info? t <;> rfl
theorem still_size (t : TypeId) : still P (sizeOf t) = szOf P t := by
  unfold sizeOf szOf
  rw [still_bind, still_info]
  cases P.info? t <;> rfl
theorem eqGuard_const (op : BinOp) (t : TypeId) (x y x' y' : Operand) (a b : Value) (h : a ≠ .nilIface) : eqGuard op t x y a b = eqGuard op t x' y' a b := by
  unfold eqGuard
  cases a <;> first | exact (h rfl).elim | rfl | (cases b <;> rfl)
theorem notIface {a : Value} (h : flat a = true) : a ≠ .nilIface := fun e => by subst e; simp [flat, flat0] at h
theorem eqIn_nilish_left (n : Nat) {t : TypeId} {a b b' : Value} (ha : nilish a = true) (hb : VRel W.heap.size φ b b') {r : Bool} (e : still P (Op.equalIn (n + 1) t a b) = some r) : still P (Op.equalIn (n + 1) t a b') = some r := by
  simp only [Op.equalIn] at *
  rw [still_bind, still_und] at *
  cases hd : P.underlying t with
  | none => rw [hd] at e; cases e
  | some d =>
    rw [hd, Option.bind_some] at e
    rw [Option.bind_some]
    cases a <;> first | (simp [nilish] at ha; done) | skip
    case pointer p =>
      cases p with
      | some _ => simp [nilish] at ha
      | none =>
        cases hb <;> first | exact e | skip
        all_goals (cases d <;> first | exact e | (simp [still, unsupported, stuck] at e; done))
    case slice p l c =>
      cases p with
      | some _ => simp [nilish] at ha
      | none =>
        cases hb <;> first | exact e | skip
        all_goals (cases d <;> first | exact e | (simp [still, unsupported, stuck] at e; done))
    case map p =>
      cases p with
      | some _ => simp [nilish] at ha
      | none =>
        cases hb <;> first | exact e | skip
        all_goals (cases d <;> first | exact e | (simp [still, unsupported, stuck] at e; done))
    case nilFunc =>
      cases hb <;> first | exact e | skip
      all_goals (cases d <;> first | exact e | (simp [still, unsupported, stuck] at e; done))
theorem eqIn_nilish_right (n : Nat) {t : TypeId} {a a' b : Value} (hb : nilish b = true) (ha : VRel W.heap.size φ a a') {r : Bool} (e : still P (Op.equalIn (n + 1) t a b) = some r) : still P (Op.equalIn (n + 1) t a' b) = some r := by
  simp only [Op.equalIn] at *
  rw [still_bind, still_und] at *
  cases hd : P.underlying t with
  | none => rw [hd] at e; cases e
  | some d =>
    rw [hd, Option.bind_some] at e
    rw [Option.bind_some]
    cases b <;> first | (simp [nilish] at hb; done) | skip
    case pointer p =>
      cases p with
      | some _ => simp [nilish] at hb
      | none =>
        cases ha <;> first | exact e | skip
        all_goals (cases d <;> first | exact e | (simp [still, unsupported, stuck] at e; done))
    case slice p l c =>
      cases p with
      | some _ => simp [nilish] at hb
      | none =>
        cases ha <;> first | exact e | skip
        all_goals (cases d <;> first | exact e | (simp [still, unsupported, stuck] at e; done))
    case map p =>
      cases p with
      | some _ => simp [nilish] at hb
      | none =>
        cases ha <;> first | exact e | skip
        all_goals (cases d <;> first | exact e | (simp [still, unsupported, stuck] at e; done))
    case nilFunc =>
      cases ha <;> first | exact e | skip
      all_goals (cases d <;> first | exact e | (simp [still, unsupported, stuck] at e; done))
theorem eq_nilish_left {t : TypeId} {a b b' : Value} (ha : nilish a = true) (hb : VRel W.heap.size φ b b') {r : Bool} (e : still P (Op.equal t a b) = some r) : still P (Op.equal t a b') = some r := eqIn_nilish_left 9999 ha hb e
theorem eq_nilish_right {t : TypeId} {a a' b : Value} (hb : nilish b = true) (ha : VRel W.heap.size φ a a') {r : Bool} (e : still P (Op.equal t a b) = some r) : still P (Op.equal t a' b) = some r := eqIn_nilish_right 9999 hb ha e
theorem nilish_flat {a : Value} (h : nilish a = true) : flat a = true := by
  cases a with
  | pointer p => cases p <;> simp_all [nilish, flat, flat0]
  | slice p => cases p <;> simp_all [nilish, flat, flat0]
  | map p => cases p <;> simp_all [nilish, flat, flat0]
  | nilFunc => rfl
  | _ => simp [nilish] at h
end
end Go.Proofs.Yteofdikfdknpbaa.E
end
section
namespace Go.Proofs.Yteofdikfdknpbaa.E
open Go Go.RowKit
set_option linter.unusedVariables false
section
variable {P : Program} {W : World} {φ : Emb} {S : St} {w : World}
theorem does_bin (h : Rel W φ S w) {op : BinOp} {t : TypeId} {x y : Operand} {a a' b b' v : Value} (ha : VRel W.heap.size φ a a') (hb : VRel W.heap.size φ b b') (e : aBin P op t a b = some v) :
    Does P W φ S w (do eqGuard op t x y a' b'; binOp op t a' b') v S := by
  unfold aBin at e
  split at e
  rotate_left
  · cases e
  rename_i hc
  obtain ⟨e, hv⟩ := stillF_spec e
  have key : still P (do eqGuard op t (.const (.bool true)) (.const (.bool true)) a' b'; binOp op t a' b') = some v ∧ a' ≠ .nilIface := by
    by_cases hff : (flat a && flat b) = true
    · simp only [Bool.and_eq_true] at hff
      rw [flat_eq hff.1 ha, flat_eq hff.2 hb]
      exact ⟨e, notIface hff.1⟩
    · rw [Bool.or_eq_true] at hc
      have hc := hc.resolve_left hff
      simp only [Bool.and_eq_true, Bool.or_eq_true] at hc
      obtain ⟨⟨hop, hn⟩, hja⟩ := hc
      have gone : ∀ a b : Value, (nilish a = true ∨ nilish b = true) → a ≠ .nilIface → (eqGuard op t (.const (.bool true)) (.const (.bool true)) a b : Sem Unit) = pure () := by
        intro a b hn hni
        unfold eqGuard
        cases a <;> first | exact (hni rfl).elim | (split <;> rfl) | skip
        cases b <;> first | (simp [nilish] at hn; done) | (split <;> rfl)
      have ni : a ≠ .nilIface ∧ a' ≠ .nilIface := by
        rcases hn with hn | hn
        · have := nilish_flat hn
          rw [flat_eq this ha]
          exact ⟨notIface this, notIface this⟩
        · cases ha <;> first | (cases hja; done) | (constructor <;> (intro hh; cases hh))
      have hn' : nilish a' = true ∨ nilish b' = true := by
        rcases hn with hn | hn
        · exact .inl (by rw [flat_eq (nilish_flat hn) ha]; exact hn)
        · exact .inr (by rw [flat_eq (nilish_flat hn) hb]; exact hn)
      refine ⟨?_, ni.2⟩
      rw [gone a b hn ni.1] at e
      rw [gone a' b' hn' ni.2]
      have par : ∀ r, still P (Op.equal t a b) = some r → still P (Op.equal t a' b') = some r := by
        intro r er
        rcases hn with hn | hn
        · rw [flat_eq (nilish_flat hn) ha]; exact eq_nilish_left hn hb er
        · rw [flat_eq (nilish_flat hn) hb]; exact eq_nilish_right hn ha er
      have shape : ∀ a b : Value, (nilish a = true ∨ nilish b = true) → (binOp .eql t a b = do pure (.bool (← Op.equal t a b))) ∧ (binOp .neq t a b = do pure (.bool (!(← Op.equal t a b)))) := by
        intro a b hn
        cases a <;> first | exact ⟨rfl, rfl⟩ | (cases b <;> first | exact ⟨rfl, rfl⟩ | (simp [nilish] at hn; done))
      show still P (binOp op t a' b') = some v
      have e : still P (binOp op t a b) = some v := e
      cases op <;> first | (simp [isEq] at hop; done) | skip
      · rw [(shape a b hn).1, still_bind] at e
        rw [(shape a' b' hn').1, still_bind]
        cases hr : still P (Op.equal t a b) with
        | none => rw [hr] at e; cases e
        | some r => rw [hr] at e; rw [par r hr]; exact e
      · rw [(shape a b hn).2, still_bind] at e
        rw [(shape a' b' hn').2, still_bind]
        cases hr : still P (Op.equal t a b) with
        | none => rw [hr] at e; cases e
        | some r => rw [hr] at e; rw [par r hr]; exact e
  refine Does.same h (still_run w ?_) (flat_refl hv)
  rw [eqGuard_const op t x y _ _ a' b' key.2]
  exact key.1
theorem does_un (h : Rel W φ S w) {op : UnOp} {a a' v : Value} (ha : VRel W.heap.size φ a a') (e : aUn P op a = some v) : Does P W φ S w (Op.unary op a') v S := by
  unfold aUn at e
  split at e
  · rw [flat_eq ‹_› ha]; exact Does.stillF h e
  · cases e
theorem bytes_spec : ∀ {l : List Value} {bs : List UInt8}, bytesOfCells l = some bs → ∃ ns : List Int, l = ns.map (Value.int .u8) ∧ bs = ns.map fun n => UInt8.ofNat n.toNat
  | [], bs, h => by simp only [bytesOfCells, Option.some.injEq] at h; subst h; exact ⟨[], rfl, rfl⟩
  | v :: l, bs, h => by
    cases v with
    | int k n =>
      cases k with
      | u8 =>
        simp only [bytesOfCells] at h
        split at h
        · rename_i r hr
          cases h
          obtain ⟨ns, e1, e2⟩ := bytes_spec hr
          exact ⟨n :: ns, by rw [e1]; rfl, by rw [e2]; rfl⟩
        · cases h
      | _ => simp [bytesOfCells] at h
    | _ => simp [bytesOfCells] at h
theorem push_bytes (ns : List Int) : ∀ s : ByteArray, ns.foldl (fun r n => r.push (UInt8.ofNat n.toNat)) s = ⟨s.data ++ (ns.map fun n => UInt8.ofNat n.toNat).toArray⟩ := by
  induction ns with
  | nil => intro s; simp
  | cons n ns ih => intro s; rw [List.foldl_cons, ih]; simp [ByteArray.push]
theorem ints_rel {N : Nat} {ns : List Int} {l' : List Value} (h : LRel N φ (ns.map (Value.int .u8)) l') : l' = ns.map (Value.int .u8) := by
  induction ns generalizing l' with
  | nil => exact LRel.of_nil h
  | cons n ns ih =>
    obtain ⟨v', r, rfl, h1, h2⟩ := LRel.uncons (v := .int .u8 n) (l := ns.map (Value.int .u8)) h
    cases h1
    rw [ih h2]
    rfl
theorem AStep.newOk {S : St} (h : Rel W φ S w) (o : AObj) : AStep S (S.new o) := AStep.new S o h.ok.1
theorem does_conv (h : Rel W φ S w) {src dst : TypeId} {x x' v : Value} {S' : St} (hx : VRel W.heap.size φ x x') (hsrc : ∃ u, P.underlying src = some u) (e : aConv P W S src dst x = some (v, S')) (hf : S.c < S'.c → φ S.c = none) :
    Does P W φ S w (convert src dst x') v S' := by
  unfold aConv at e
  split at e
  · rename_i a n c
    split at e
    · rename_i el hs hd
      split at e
      · rename_i he
        split at e
        · rename_i l hl
          split at e
          · rename_i bs hbs
            cases e
            cases hx with
            | sl hsl =>
              rename_i a' c'
              obtain ⟨ns, rfl, rfl⟩ := bytes_spec hbs
              by_cases hn : n = 0
              · subst hn
                have hns : ns = [] := by
                  unfold St.cells at hl
                  rw [if_pos rfl] at hl
                  cases ns with
                  | nil => rfl
                  | cons _ _ => simp at hl
                subst hns
                refine Does.same h ?_ (.string _)
                rw [run_convert_bytes_string w src dst el _ _ _ hs he hd, run_bytesToString w _ 0 c' [] (by rfl)]
                rfl
              · obtain ⟨L, k1, k2, k3, k4, k5⟩ := hsl
                have hoff : a'.off = L.off + a.off := by
                  rcases k5 with k | k | k
                  · exact k.2.2
                  · exact k.2.2.1
                  · exact (hn k.2.1).elim
                obtain ⟨l', r1, r2, r3⟩ := cells_sound h (a := a) (a' := a') ⟨L, k1, k2, hoff, k3, k4⟩ hl
                refine Does.same h ?_ (.string _)
                rw [run_convert_bytes_string w src dst el _ _ _ hs he hd, run_bytesToString w _ n c' ns (by
                  have := ints_rel r1
                  subst this
                  exact runLoadCells (r1.1.symm.trans r2) r3), push_bytes]
                simp
            | sl0 hb =>
              rename_i b o a'
              obtain ⟨ns, rfl, rfl⟩ := bytes_spec hbs
              have hns : ns = [] := by
                unfold St.cells at hl
                rw [if_pos rfl] at hl
                cases ns with
                | nil => rfl
                | cons _ _ => simp at hl
              subst hns
              refine Does.same h ?_ (.string _)
              rw [run_convert_bytes_string w src dst el _ _ _ hs he hd, run_bytesToString w _ 0 0 [] (by rfl)]
              rfl
          · cases e
        · cases e
      · cases e
    · cases e
  · rename_i s
    cases hx
    split at e
    · rename_i el hd
      split at e
      · rename_i he
        split at e
        · rename_i hle
          cases e
          obtain ⟨u, hs⟩ := hsrc
          have hfree := hf (Nat.lt_succ_self _)
          have hrun := Lib.run_convert_string_bytes (P := P) w src dst el s hs hd he
          have hcap : s.size ≤ grownCap w s.size 0 el := Nat.le_add_right _ _
          have hbs : (Lib.bytesCells w el s).size = grownCap w s.size 0 el := by
            have hd : s.data.size = s.size := rfl
            unfold Lib.bytesCells
            simp only [Array.size_append, Array.size_map, Array.size_replicate, hd]
            omega
          have hpost : Post W φ S w (Emb.ext φ S.c ⟨w.heap.size, 0, 1, (Lib.bytesCells w el s).size⟩) (S.new (.row (s.data.toList.map fun b => .int .u8 b.toNat) 1)) (Lib.bytesWorld w el s) := by
            have p := new_fresh h hfree (cs := s.data.toList.map fun b => .int .u8 b.toNat) 1 el (Lib.bytesCells w el s) (LRel.map _ fun b _ => .int _ _) (fun j u hu => by
              unfold Lib.bytesCells
              have hlt : j < (s.data.map fun b => Value.int .u8 b.toNat).size := by
                have := (List.getElem?_eq_some_iff.1 hu).1
                simpa using this
              rw [Array.getElem?_append_left hlt, ← Array.getElem?_toList, Array.toList_map]
              exact hu) (by rw [hbs]; simp only [List.length_map, Array.length_toList]; exact hcap)
            have same : ∀ b, b ≠ w.heap.size → (Lib.bytesWorld w el s).heap[b]? = (w.alloc (.cells (Lib.bytesCells w el s) el)).heap[b]? := by
              intro b hb
              rcases Nat.lt_or_ge b w.heap.size with hlt | hge
              · rw [Lib.bytesWorld_at_old w el s b hlt, Below.heap_alloc _ _ _ hlt]
              · rw [Array.getElem?_eq_none (by rw [Lib.bytesWorld_size]; omega), Array.getElem?_eq_none (by show (w.heap.push _).size ≤ b; simp; omega)]
            have q := post_write p.rel (i := S.c) (L := ⟨w.heap.size, 0, 1, (Lib.bytesCells w el s).size⟩) (o := .row (s.data.toList.map fun b => .int .u8 b.toNat) 1) (w' := Lib.bytesWorld w el s) (if_pos rfl) h.ok.1 (by show (if S.c = S.c then _ else _) ≠ _; rw [if_pos rfl]; exact fun e => by cases e)
              (by rw [Lib.bytesWorld_size]; show _ = (w.heap.push _).size; simp) same rfl rfl rfl ?_
            · have e : (S.new (.row (s.data.toList.map fun b => .int .u8 b.toNat) 1)).upd S.c (.row (s.data.toList.map fun b => .int .u8 b.toNat) 1) = S.new (.row (s.data.toList.map fun b => .int .u8 b.toNat) 1) := by
                simp only [St.new, St.upd]
                congr 1
                funext m
                split <;> rfl
              rw [e] at q
              exact p.trans (Nat.le_succ _) (Nat.le_refl _) q
            · refine ⟨Lib.bytesCells w el s, el, _, Lib.bytesWorld_at_new w el s, fun j hj hh => by have := hh.1; omega, rfl, rfl, by rw [hbs]; simp only [List.length_map, Array.length_toList, Nat.zero_add]; exact hcap, fun j u hu => ?_⟩
              have hlt : j < (s.data.map fun b => Value.int .u8 b.toNat).size := by
                have := (List.getElem?_eq_some_iff.1 hu).1
                simpa using this
              refine ⟨u, ?_, ?_⟩
              · rw [Nat.zero_add]
                unfold Lib.bytesCells
                rw [Array.getElem?_append_left hlt, ← Array.getElem?_toList, Array.toList_map]
                exact hu
              · obtain ⟨hx, e⟩ := List.getElem?_eq_some_iff.1 hu
                rw [List.getElem_map] at e
                subst e
                exact .int _ _
          exact ⟨_, _, _, hrun, .sl ⟨_, if_pos rfl, rfl, rfl, fun _ => rfl,   .inr (.inl ⟨Nat.one_ne_zero, hcap, rfl, by rw [hbs]; simp⟩)⟩, hpost, AStep.newOk h _⟩
        · cases e
      · cases e
    · split at e
      · cases e; exact Does.stillF h ‹_›
      · cases e
  · split at e
    · split at e
      · cases e; rw [flat_eq ‹_› hx]; exact Does.stillF h ‹_›
      · cases e
    · cases e
theorem still_agg (t : TypeId) : still P (isAgg t) = (P.underlying t).map aggT := by
  unfold isAgg
  rw [still_bind, still_und]
  cases P.underlying t with
  | none => rfl
  | some d => cases d <;> rfl
theorem part_rel (h : Rel W φ S w) {t : TypeId} {cs cs' : Array Value} {off : Nat} {v : Value} (hr : RRel W.heap.size φ cs cs') (e : still P (part t cs off) = some v) : ∃ v', still P (part t cs' off) = some v' ∧ VRel W.heap.size φ v v' := by
  unfold part at *
  rw [still_bind, still_agg] at *
  cases hu : P.underlying t with
  | none => rw [hu] at e; cases e
  | some d =>
    rw [hu] at e
    simp only [Option.map_some, Option.bind_some] at e ⊢
    split at e
    · rename_i hb
      rw [if_pos hb]
      rw [still_bind, still_size] at *
      cases hn : szOf P t with
      | none => rw [hn] at e; cases e
      | some n =>
        rw [hn] at e
        simp only [Option.bind_some, still_pure, Option.some.injEq] at e ⊢
        subst e
        exact ⟨_, rfl, VRel.agg' (hr.extract _ _)⟩
    · rename_i hb
      rw [if_neg hb]
      split at e
      · rename_i u hu2
        obtain ⟨v', a, b⟩ := hr.getElem? hu2
        rw [still_pure] at e
        cases e
        rw [a]
        exact ⟨v', rfl, b⟩
      · cases e
theorem does_field (h : Rel W φ S w) {t : TypeId} {x x' v : Value} {f : Nat} (hx : VRel W.heap.size φ x x') (e : still P (Instr.field t x f) = some v) : Does P W φ S w (Instr.field t x' f) v S := by
  have : ∃ v', still P (Instr.field t x' f) = some v' ∧ VRel W.heap.size φ v v' := by
    unfold Instr.field at *
    rw [still_bind, still_und] at *
    cases hu : P.underlying t with
    | none => rw [hu] at e; cases e
    | some d =>
      rw [hu, Option.bind_some] at e
      rw [Option.bind_some]
      cases d with
      | struct fs =>
        dsimp only at *
        split at e
        · rename_i fd hfd
          try rw [hfd]
          try dsimp only
          rw [still_bind] at *
          cases hx with
          | agg hs hp => exact part_rel h (RRel.of_pt hs hp) e
          | _ => cases e
        · cases e
      | _ => cases e
  obtain ⟨v', a, b⟩ := this
  exact Does.same h (still_run w a) b
theorem does_index (h : Rel W φ S w) {t : TypeId} {x x' i i' v : Value} (hx : VRel W.heap.size φ x x') (hi : VRel W.heap.size φ i i') (e : still P (Instr.index t x i) = some v) : Does P W φ S w (Instr.index t x' i') v S := by
  have hb0 : ∀ (k : IntKind) (n : Int) (m : Nat) (c : BoundsCode), still P (boundsPanic k n m c : Sem Value) = none := by
    intro k n m c
    unfold boundsPanic
    dsimp only
    split <;> rw [still_bind]
    · rfl
    · rw [still_pure]; rfl
  have : ∃ v', still P (Instr.index t x' i') = some v' ∧ VRel W.heap.size φ v v' := by
    unfold Instr.index at *
    cases hi with
    | int k n =>
      simp only [asIntOf] at *
      rw [still_bind, still_pure, Option.bind_some] at *
      dsimp only at *
      rw [still_bind, still_und] at *
      cases hu : P.underlying t with
      | none => rw [hu] at e; cases e
      | some d =>
        rw [hu, Option.bind_some] at e
        rw [Option.bind_some]
        cases d with
        | array len el =>
          cases hx with
          | agg hs hp =>
            dsimp only at *
            split at e
            · rename_i hlt
              rw [if_pos hlt]
              rw [still_bind, still_size] at *
              cases hn : szOf P el with
              | none => rw [hn] at e; cases e
              | some m =>
                rw [hn, Option.bind_some] at e
                rw [Option.bind_some]
                exact part_rel h (RRel.of_pt hs hp) e
            · rw [hb0] at e; cases e
          | _ => cases e
        | string =>
          cases hx with
          | string s =>
            dsimp only at *
            split at e
            · rename_i b hb
              try rw [hb]
              rw [still_pure] at e
              cases e
              exact ⟨_, rfl, .int _ _⟩
            · rw [hb0] at e; cases e
          | _ => cases e
        | _ => cases e
    | _ => cases e
  obtain ⟨v', a, b⟩ := this
  exact Does.same h (still_run w a) b
theorem does_extract (h : Rel W φ S w) {x x' v : Value} {i : Nat} (hx : VRel W.heap.size φ x x') (e : still P (Instr.extract x i) = some v) : Does P W φ S w (Instr.extract x' i) v S := by
  cases hx with
  | tuple hs hp =>
    simp only [Instr.extract] at e
    split at e
    · rename_i u hu
      rw [still_pure] at e
      cases e
      obtain ⟨v', a, b⟩ := (RRel.of_pt hs hp).getElem? hu
      refine Does.same h ?_ b
      simp only [Instr.extract, a]
      rfl
    · cases e
  | _ => cases e
theorem does_fieldAddr (h : Rel W φ S w) {s : TypeId} {x x' v : Value} {f : Nat} (hx : VRel W.heap.size φ x x') (e : aFieldAddr P s x f = some v) : Does P W φ S w (Instr.fieldAt s x' f) v S := by
  unfold aFieldAddr at e
  split at e
  · rename_i fs a hu
    split at e
    · rename_i fd hfd
      split at e
      · rename_i n hn
        split at e
        · cases e
        · rename_i hn0
          cases e
          cases hx with
          | ptr ha =>
            rename_i a'
            refine Does.same h (v' := .pointer (some (a'.add fd.offset))) ?_ (.ptr (ha.add _))
            unfold Instr.fieldAt
            rw [run_bind_ok (run_und hu w)]
            dsimp only
            rw [hfd]
            dsimp only [Instr.sureAddr]
            rw [run_bind_ok (runPure _ _)]
            unfold fieldPlace
            simp only [Sem.run_bind, run_size hn, Result.andThen_ok, if_neg hn0]
            rfl
      · cases e
    · cases e
  · cases e
theorem does_indexAddr (h : Rel W φ S w) {t : TypeId} {x x' i i' v : Value} (hx : VRel W.heap.size φ x x') (hi : VRel W.heap.size φ i i') (e : aIndexAddr P t x i = some v) : Does P W φ S w (Instr.indexAt t x' i') v S := by
  unfold aIndexAddr at e
  split at e
  · rename_i k n
    cases hi
    split at e
    · rename_i el a len c hu
      split at e
      · rename_i hlt
        split at e
        · rename_i m hm
          cases e
          cases hx with
          | sl hsl =>
            rename_i a' c'
            obtain ⟨L, k1, k2, k3, k4, k5⟩ := hsl
            have hoff : a'.off = L.off + a.off := by
              rcases k5 with k | k | k
              · exact k.2.2
              · exact k.2.2.1
              · have := hlt.2; rw [k.2.1] at this; omega
            have ha : ARel W.heap.size φ a a' := ⟨L, k1, k2, hoff, k3, k4⟩
            refine Does.same h (v' := .pointer (some (a'.add (n.toNat * m)))) ?_ (.ptr (ha.add _))
            unfold Instr.indexAt
            simp only [asIntOf, Sem.run_bind, Sem.run_pure, Result.andThen_ok, run_und hu]
            simp only [if_pos hlt, Sem.run_bind, run_size hm, Result.andThen_ok]
            rfl
          | sl0 hb => exact absurd hlt.2 (by have := hlt.1; simp at *; omega)
        · cases e
      · cases e
    · rename_i len el a hu
      split at e
      · rename_i hlt
        split at e
        · rename_i m hm
          cases e
          cases hx with
          | ptr ha =>
            rename_i a'
            refine Does.same h (v' := .pointer (some (a'.add (n.toNat * m)))) ?_ (.ptr (ha.add _))
            unfold Instr.indexAt
            simp only [asIntOf, Sem.run_bind, Sem.run_pure, Result.andThen_ok, run_und hu, Instr.sureAddr]
            simp only [if_pos hlt, Sem.run_bind, run_size hm, Result.andThen_ok]
            rfl
        · cases e
      · cases e
    · cases e
  · cases e
end
end Go.Proofs.Yteofdikfdknpbaa.E
end
section
namespace Go.Proofs.Yteofdikfdknpbaa.E
open Go Go.RowKit
set_option linter.unusedVariables false
section
variable {P : Program} {W : World} {φ : Emb} {S : St} {w : World}
theorem bnd_run {x x' : Option Value} {dflt y y' r : Nat} (hx : ∀ v, x = some v → ∃ v', x' = some v' ∧ VRel W.heap.size φ v v') (c : BoundsCode) (hy : y ≤ y') (e : bnd x dflt y = some r) {v : Value} (hv : x = some v) :
    ∃ v', x' = some v' ∧ (Instr.sliceBound v' y' c).run P w = .ok r w ∧ r ≤ y := by
  obtain ⟨v', e1, e2⟩ := hx v hv
  subst hv
  unfold bnd at e
  split at e
  · contradiction
  · rename_i k n heq
    cases heq
    cases e2
    split at e
    · rename_i hlt
      cases e
      refine ⟨_, e1, ?_, by omega⟩
      unfold Instr.sliceBound
      simp only [asIntOf, Sem.run_bind, Sem.run_pure, Result.andThen_ok]
      rw [if_pos ⟨hlt.1, by omega⟩]
      rfl
    · cases e
  · cases e
def gb (x : Option Value) (d y : Nat) (c : BoundsCode) : Sem Nat := match x with | some v => Instr.sliceBound v y c | none => pure d
theorem gb_run {x x' : Option Value} {d d' y y' r : Nat} (hx : ∀ v, x = some v → ∃ v', x' = some v' ∧ VRel W.heap.size φ v v') (nx : x = none → x' = none) (c : BoundsCode) (hy : y ≤ y') (e : bnd x d y = some r) :
    (gb x' d' y' c).run P w = .ok (if x.isSome then r else d') w ∧ (x.isSome = true → r ≤ y) ∧ (x = none → r = d) := by
  cases x with
  | none => rw [nx rfl]; simp only [bnd, Option.some.injEq] at e; exact ⟨rfl, fun h => (by cases h), fun _ => e.symm⟩
  | some v =>
    obtain ⟨v', a, b, d⟩ := bnd_run (P := P) (w := w) hx c hy e rfl
    rw [a]
    exact ⟨b, fun _ => d, fun h => (by cases h)⟩
def gh (len : Nat) (x mx : Option Value) (y : Nat) (c1 c2 : BoundsCode) : Sem Nat :=
  match x, mx with
  | some v, some _ => Instr.sliceBound v y c1
  | some v, none => Instr.sliceBound v y c2
  | none, none => pure len
  | none, some _ => stuck "Slice: max without high"
theorem sliceBounds_eq (isS : Bool) (len cap : Nat) (lo hi mx : Option Value) : Instr.sliceBounds isS len cap lo hi mx =
    (gb mx cap cap (if isS then .slice3Acap else .slice3Alen)).bind fun m => (gh len hi mx m .slice3B (if isS then .sliceAcap else .sliceAlen)).bind fun h => (gb lo 0 h (if mx.isSome then .slice3C else .sliceB)).bind fun l => .pure (l, h, m) := by
  cases lo <;> cases hi <;> cases mx <;> rfl
theorem bounds_run {len cap cap' l h m : Nat} {isS : Bool} {lo lo' hi hi' mx mx' : Option Value} (hlo : ∀ v, lo = some v → ∃ v', lo' = some v' ∧ VRel W.heap.size φ v v') (nlo : lo = none → lo' = none)
    (hhi : ∀ v, hi = some v → ∃ v', hi' = some v' ∧ VRel W.heap.size φ v v') (nhi : hi = none → hi' = none) (hmx : ∀ v, mx = some v → ∃ v', mx' = some v' ∧ VRel W.heap.size φ v v') (nmx : mx = none → mx' = none)
    (hc : cap ≤ cap') (e : aBounds len cap lo hi mx = some (l, h, m)) :
    ∃ m', (Instr.sliceBounds isS len cap' lo' hi' mx').run P w = .ok (l, h, m') w ∧ l ≤ h ∧ h ≤ m ∧ m ≤ cap ∧ (mx.isSome = true → m' = m) ∧ (mx = none → m = cap ∧ m' = cap') := by
  unfold aBounds at e
  split at e
  · cases e
  rename_i m0 hm
  split at e
  · cases e
  rename_i h0 hh
  split at e
  · cases e
  rename_i l0 hl
  simp only [Option.some.injEq, Prod.mk.injEq] at e
  obtain ⟨e1, e2, e3⟩ := e
  subst e1 e2 e3
  obtain ⟨a1, a2, a3⟩ := gb_run (P := P) (w := w) (d' := cap') hmx nmx (if isS then .slice3Acap else .slice3Alen) hc hm
  obtain ⟨c1, c2, c3⟩ := gb_run (P := P) (w := w) (d' := 0) hlo nlo (if mx'.isSome then .slice3C else .sliceB) (Nat.le_refl h0) hl
  have c1' : (gb lo' 0 h0 (if mx'.isSome then .slice3C else .sliceB)).run P w = .ok l0 w := by
    rw [c1]
    cases lo with
    | none => rw [c3 rfl]; rfl
    | some _ => rfl
  have hlh : l0 ≤ h0 := by
    cases lo with
    | none => rw [c3 rfl]; exact Nat.zero_le _
    | some _ => exact c2 rfl
  have hmc : m0 ≤ cap := by
    cases mx with
    | none => rw [a3 rfl]; exact Nat.le_refl _
    | some _ => exact a2 rfl
  have hmm : m0 ≤ (if mx.isSome then m0 else cap') := by split <;> omega
  have b1 : (gh len hi' mx' (if mx.isSome then m0 else cap') .slice3B (if isS then .sliceAcap else .sliceAlen)).run P w = .ok h0 w ∧ h0 ≤ m0 := by
    cases hi with
    | none =>
      cases mx with
      | none =>
        rw [nhi rfl, nmx rfl]
        dsimp only at hh
        split at hh
        · cases hh; exact ⟨rfl, by assumption⟩
        · cases hh
      | some _ => cases hh
    | some v =>
      dsimp only at hh
      cases mx with
      | none =>
        obtain ⟨v', a, b, d⟩ := bnd_run (P := P) (w := w) hhi (if isS then .sliceAcap else .sliceAlen) hmm hh rfl
        rw [a, nmx rfl]
        exact ⟨b, d⟩
      | some x =>
        obtain ⟨v', a, b, d⟩ := bnd_run (P := P) (w := w) hhi .slice3B hmm hh rfl
        obtain ⟨x', a', _⟩ := hmx x rfl
        rw [a, a']
        exact ⟨b, d⟩
  refine ⟨if mx.isSome then m0 else cap', ?_, hlh, b1.2, hmc, fun h => if_pos h, fun h => ⟨a3 h, by rw [h]; rfl⟩⟩
  rw [sliceBounds_eq, Sem.run_bind', a1, Result.andThen_ok, Sem.run_bind', b1.1, Result.andThen_ok, Sem.run_bind', c1']
  rfl
theorem isZ_mk {b o : Nat} (h : W.heap.size ≤ b) : isZ W ⟨b, o, some 0⟩ = true := by
  unfold isZ; simp [h]
theorem fx_spec (h : Rel W φ S w) {a : Addr} {k : Nat} {L : Loc} (hφ : φ a.block = some L) (e : S.fx W a = some k) : L.esz = k ∧ (k ≠ 0 → W.heap.size ≤ a.block ∧ ∃ cs, S.heap a.block = .row cs k) := by
  unfold St.fx at e
  split at e
  · rename_i hb
    cases e
    rw [h.base _ hb] at hφ
    cases hφ
    exact ⟨rfl, fun h => absurd rfl h⟩
  · rename_i hb
    split at e
    · rename_i cs kk hh
      cases e
      obtain ⟨b1, b2, b3⟩ := h.blk _ L hφ (by omega)
      rw [hh] at b3
      obtain ⟨C, ee, fr, c1, c2, c3, c4, c5, c6⟩ := b3
      exact ⟨c3, fun _ => ⟨by omega, cs, hh⟩⟩
    · cases e
theorem all_flat {x : Option Value} (h : x.all flat = true) {x' : Option Value} (hx : ∀ v, x = some v → ∃ v', x' = some v' ∧ VRel W.heap.size φ v v') (nx : x = none → x' = none) : x' = x := by
  cases x with
  | none => exact nx rfl
  | some v =>
    obtain ⟨v', a, b⟩ := hx v rfl
    rw [a, flat_eq (by simpa using h) b]
theorem does_slice (h : Rel W φ S w) {t : TypeId} {x x' v : Value} {lo lo' hi hi' mx mx' : Option Value} (hx : VRel W.heap.size φ x x') (hlo : ∀ v, lo = some v → ∃ v', lo' = some v' ∧ VRel W.heap.size φ v v') (nlo : lo = none → lo' = none)
    (hhi : ∀ v, hi = some v → ∃ v', hi' = some v' ∧ VRel W.heap.size φ v v') (nhi : hi = none → hi' = none) (hmx : ∀ v, mx = some v → ∃ v', mx' = some v' ∧ VRel W.heap.size φ v v') (nmx : mx = none → mx' = none)
    (e : aSlice P W S t x lo hi mx = some v) : Does P W φ S w (Instr.sliceAt t x' lo' hi' mx') v S := by
  have flatcase : flat x = true → (if lo.all flat && hi.all flat && mx.all flat then stillF P (Instr.sliceAt t x lo hi mx) else none) = some v → Does P W φ S w (Instr.sliceAt t x' lo' hi' mx') v S := by
    intro hfx e
    split at e
    · rename_i hc
      simp only [Bool.and_eq_true] at hc
      rw [flat_eq hfx hx, all_flat hc.1.1 hlo nlo, all_flat hc.1.2 hhi nhi, all_flat hc.2 hmx nmx]
      exact Does.stillF h e
    · cases e
  unfold aSlice at e
  split at e
  · rename_i a len cap
    split at e
    · cases e
    rename_i hZ
    split at e
    · rename_i el hu
      split at e
      · rename_i n kx l hh m hn hfx hb
        split at e
        rotate_left
        · cases e
        rename_i hkn
        cases e
        have fits : ∀ {o c t mm : Nat}, l ≤ mm → mm ≤ c → kx = n → o + c * kx ≤ t → o + l * n + (mm - l) * kx ≤ t := by
          intro o c t mm h1 h2 h3 h4
          subst h3
          have e1 : l * kx + (mm - l) * kx = mm * kx := by rw [← Nat.add_mul]; congr 1; omega
          have e2 : mm * kx ≤ c * kx := Nat.mul_le_mul_right _ h2
          omega
        cases hx with
        | sl0 hNb => exact absurd (isZ_mk hNb) hZ
        | sl hsl =>
          rename_i a' c'
          obtain ⟨L, k1, k2, k3, k4, k5⟩ := hsl
          obtain ⟨f1, f2⟩ := fx_spec h k1 hfx
          have hcc : cap ≤ c' := by rcases k5 with k | k | k <;> omega
          obtain ⟨m', r1, r2, r3, r4, r5, r6⟩ := bounds_run (P := P) (w := w) (isS := true) hlo nlo hhi nhi hmx nmx hcc hb
          refine Does.same h (v' := .slice (if m' = l then some a' else (some a').map (·.add (l * n))) (hh - l) (m' - l)) ?_ ?_
          · unfold Instr.sliceAt
            rw [run_bind_ok (run_und hu w)]
            dsimp only
            unfold Instr.slice
            rw [run_bind_ok (run_und hu w)]
            dsimp only
            rw [run_bind_ok r1]
            dsimp only
            rw [run_bind_ok (run_size hn w)]
            rfl
          · have e2 : (if m' = l then some a' else (some a').map (·.add (l * n))) = some (if m' = l then a' else a'.add (l * n)) := by split <;> rfl
            rw [e2]
            by_cases hk : kx = 0
            · have hc' : c' = cap ∧ a'.off = L.off + a.off := by
                rcases k5 with k | k | k
                · exact k.2
                · exact (k.1 (f1.trans hk)).elim
                · exact (k.1 (f1.trans hk)).elim
              have hmm : m' = m := by
                cases mx with
                | none => have := r6 rfl; omega
                | some _ => exact r5 rfl
              have ha : ARel W.heap.size φ a a' := ⟨L, k1, k2, hc'.2, k3, k4⟩
              rw [hmm]
              rw [if_neg (fun h => h.2.1 hk)]
              by_cases hml : m = l
              · rw [if_pos ⟨hml, hk⟩, if_pos hml]
                exact .sl ⟨L, k1, k2, k3, k4, .inl ⟨f1.trans hk, rfl, hc'.2⟩⟩
              · rw [if_neg (fun h => hml h.1), if_neg hml]
                obtain ⟨L2, q1, q2, q3, q4, q5⟩ := ha.add (l * n)
                rw [add_block, k1] at q1
                cases q1
                exact .sl ⟨L, by rw [add_block]; exact k1, q2, q4, q5, .inl ⟨f1.trans hk, rfl, q3⟩⟩
            · have hL : L.esz ≠ 0 := by rw [f1]; exact hk
              have hNa := (f2 hk).1
              have k5 := k5.resolve_left (fun k => hL k.1)
              cases mx with
              | some mv =>
                have hmm := r5 rfl
                rw [hmm]
                by_cases hml : m = l
                · rw [if_pos ⟨hml, hk, rfl⟩, if_pos hml]
                  have hl0 : hh - l = 0 ∧ m - l = 0 := by omega
                  rw [hl0.1, hl0.2]
                  exact .sl0 hNa
                · rw [if_neg (fun h => hml h.1), if_neg (fun h => hml h.1), if_neg hml]
                  rcases k5 with k | k
                  · obtain ⟨L2, q1, q2, q3, q4, q5⟩ := ARel.add (φ := φ) (a := a) (a' := a') ⟨L, k1, k2, k.2.2.1, k3, k4⟩ (l * n)
                    rw [add_block, k1] at q1
                    cases q1
                    refine .sl ⟨L, by rw [add_block]; exact k1, q2, q4, q5, ?_⟩
                    by_cases hz : m - l = 0
                    · refine .inr (.inr ⟨hL, by omega, hz, hz⟩)
                    · refine .inr (.inl ⟨hL, Nat.le_refl _, q3, ?_⟩)
                      rw [add_off, f1]
                      exact fits (by omega) (by omega) (hkn.resolve_left hk) (f1 ▸ k.2.2.2)
                  · omega
              | none =>
                obtain ⟨hm1, hm2⟩ := r6 rfl
                rw [if_neg (fun h => by have := h.2.2; cases this), if_neg (fun h => hk h.2)]
                subst hm1 hm2
                rcases k5 with k | k
                · obtain ⟨L2, q1, q2, q3, q4, q5⟩ := ARel.add (φ := φ) (a := a) (a' := a') ⟨L, k1, k2, k.2.2.1, k3, k4⟩ (l * n)
                  rw [add_block, k1] at q1
                  cases q1
                  by_cases hml : m' = l
                  · rw [if_pos hml]
                    have hl0 : hh - l = 0 ∧ m - l = 0 ∧ m' - l = 0 := by omega
                    rw [hl0.1, hl0.2.1, hl0.2.2]
                    exact .sl ⟨L, by rw [add_block]; exact k1, k2, by rw [k3, add_spot, k4 hNa]; split <;> rfl, q5, .inr (.inr ⟨hL, rfl, rfl, rfl⟩)⟩
                  · rw [if_neg hml]
                    refine .sl ⟨L, by rw [add_block]; exact k1, q2, q4, q5, .inr (.inl ⟨hL, by omega, q3, ?_⟩)⟩
                    rw [add_off, f1]
                    exact fits (by omega) (Nat.le_refl _) (hkn.resolve_left hk) (f1 ▸ k.2.2.2)
                · have hl0 : hh - l = 0 ∧ m - l = 0 ∧ m' - l = 0 := by omega
                  rw [hl0.1, hl0.2.1, hl0.2.2]
                  refine .sl ⟨L, by rw [add_block]; exact k1, by split <;> simp [add_block, k2], ?_, fun hh => by rw [add_spot, k4 hNa]; split <;> rfl, .inr (.inr ⟨hL, rfl, rfl, rfl⟩)⟩
                  rw [add_spot, k4 hNa]
                  split
                  · rw [k3, k4 hNa]; split <;> rfl
                  · rw [add_spot, k3, k4 hNa]
      · cases e
    · cases e
  · rename_i a
    split at e
    · rename_i n el hu
      split at e
      · rename_i k l hh m hn hfx hb
        cases e
        cases hx with
        | ptr ha =>
          rename_i a'
          obtain ⟨m', r1, r2, r3, r4, r5, r6⟩ := bounds_run (P := P) (w := w) (isS := false) hlo nlo hhi nhi hmx nmx (Nat.le_refl _) hb
          have hmm : m' = m := by
            cases mx with
            | none => have := r6 rfl; omega
            | some _ => exact r5 rfl
          subst hmm
          obtain ⟨L, k1, k2, k3, k4, k5⟩ := ha
          obtain ⟨f1, f2⟩ := fx_spec h k1 hfx
          refine Does.same h (v' := .slice (some (if m' = l then a' else a'.add (l * k))) (hh - l) (m' - l)) ?_ ?_
          · unfold Instr.sliceAt
            rw [run_bind_ok (run_und hu w)]
            dsimp only [Instr.sureAddr]
            rw [run_bind_ok (runPure _ _), run_bind_ok r1]
            dsimp only
            rw [run_bind_ok (run_size hn w)]
            rfl
          · by_cases hml : m' = l
            · rw [if_pos hml, if_pos hml]
              exact .sl ⟨L, k1, k2, k4, k5, .inl ⟨f1, rfl, k3⟩⟩
            · rw [if_neg hml, if_neg hml]
              obtain ⟨L2, q1, q2, q3, q4, q5⟩ := ARel.add (φ := φ) (a := a) (a' := a') ⟨L, k1, k2, k3, k4, k5⟩ (l * k)
              rw [add_block, k1] at q1
              cases q1
              exact .sl ⟨L, by rw [add_block]; exact k1, q2, q4, q5, .inl ⟨f1, rfl, q3⟩⟩
      · cases e
    · cases e
  · cases hx; exact flatcase rfl e
  · cases hx; exact flatcase rfl e
  · cases e
end
end Go.Proofs.Yteofdikfdknpbaa.E
end
section
namespace Go.Proofs.Yteofdikfdknpbaa.E
open Go Go.RowKit
set_option linter.unusedVariables false
section
variable {P : Program} {W : World} {φ : Emb} {S : St} {w : World}
def Src (P : Program) (xt e : TypeId) (size bytes : Nat) (z x : Value) (n : Nat) (new : Array Value) (w : World) : Prop :=
  ∃ d, P.underlying xt = some d ∧
    (((∃ k, d = .int k) ∧ x = .int .i64 n ∧ n ≤ 2 ^ 46 ∧ n * bytes ≤ 2 ^ 48 ∧ new = Builtin.zeroCells z.cells n) ∨
     ((∀ k, d ≠ .int k) ∧ (Builtin.lenOf x).run P w = .ok n w ∧ (Builtin.firstCells size n x).run P w = .ok new w))
theorem zeroCells_nil (z : Array Value) (n : Nat) (h : n * z.size = 0) : Builtin.zeroCells z n = #[] := by
  unfold Builtin.zeroCells
  rw [h]; simp
theorem append_room {ts : Array TypeId} {ty st xt e : TypeId} {ie : TypeInfo} {z : Value} {base : Option Addr} {sLen sCap n : Nat} {x : Value} {new : Array Value}
    (t0 : ts[0]? = some st) (t1 : ts[1]? = some xt) (h1 : P.underlying st = some (.slice e)) (h2 : P.info? e = some ie) (hz : ie.zero = some z) (hzs : z.cells.size = ie.size)
    (hs : Src P xt e ie.size ie.bytes z x n new w) (hle : sLen + n ≤ sCap) {w' : World} (hst : ∀ a, base = some a → (storeCells (a.add (sLen * ie.size)) new.toList).run P w = .ok () w') (hb : base = none → w' = w) :
    (Builtin.append_ ts ty #[.slice base sLen sCap, x]).run P w = .ok (.slice base (sLen + n) sCap) w' := by
  obtain ⟨d, hd, hs⟩ := hs
  have hsz := run_size (P := P) (t := e) (n := ie.size) (by unfold szOf; rw [h2]; rfl) w
  unfold Builtin.append_
  have a0 : (#[Value.slice base sLen sCap, x] : Array Value)[0]? = some (.slice base sLen sCap) := rfl
  have a1 : (#[Value.slice base sLen sCap, x] : Array Value)[1]? = some x := rfl
  rw [t0, t1, a0, a1]
  try dsimp only
  rw [run_bind_ok (run_und h1 w)]
  try dsimp only
  rw [run_bind_ok hsz]
  rw [run_bind_ok (run_und hd w), run_bind_ok (runPure _ _)]
  rcases hs with ⟨⟨k, rfl⟩, rfl, b1, b2, hnew⟩ | ⟨hz0, hlen, hnew⟩
  · have hw : IntKind.i64.wrap (n : Int) = n := IntWalk.i64_in _ (by omega)
    have c1 : ¬ ((n : Int) < 0) := by omega
    have c2 : ¬ ((n : Int) * (ie.bytes : Int) > 2 ^ 48) := by
      have : ((n * ie.bytes : Nat) : Int) ≤ ((2 ^ 48 : Nat) : Int) := Int.ofNat_le.2 b2
      simp only [Int.natCast_mul] at this
      omega
    try dsimp only
    rw [if_pos rfl, run_bind_ok (show (asInt (.int .i64 n)).run P w = .ok (n : Int) w from rfl)]
    try dsimp only
    rw [hw, if_neg c1, run_bind_ok (run_info h2 w), if_neg c2, run_bind_ok (runPure _ _)]
    have hz1 : (if n * ie.size = 0 then pure #[] else do pure (Builtin.zeroCells (← zeroValue e).cells n) : Sem (Array Value)).run P w = .ok new w := by
      by_cases h0 : n * ie.size = 0
      · rw [if_pos h0, hnew, zeroCells_nil z.cells n (by rw [hzs]; exact h0)]; rfl
      · rw [if_neg h0, run_bind_ok (run_zero h2 hz w), hnew]; rfl
    rw [Int.toNat_natCast, if_pos hle, if_neg (show ¬ (!true) = true by decide), run_bind_ok hz1]
    cases base with
    | none => rw [hb rfl]; rfl
    | some a => dsimp only; rw [run_bind_ok (hst a rfl)]; rfl
  · cases d <;> first | exact absurd rfl (hz0 _) | skip
    all_goals
      try dsimp only
      rw [if_neg Bool.false_ne_true, run_bind_ok hlen]
      try dsimp only
      rw [if_pos hle, if_pos (show (!false) = true from rfl), run_bind_ok hnew]
      cases base with
      | none => rw [hb rfl]; rfl
      | some a => dsimp only; rw [run_bind_ok (hst a rfl)]; rfl
theorem nextcap_le (need old : Nat) (h : old < need) : Builtin.nextslicecap need old ≤ need + need / 4 + 512 := by
  unfold Builtin.nextslicecap
  split
  · omega
  split
  · omega
  have key : ∀ r c, c < need → Builtin.growBy need r c ≤ need + need / 4 + 512 := by
    intro r
    induction r with
    | zero => intro c hc; simp only [Builtin.growBy]; omega
    | succ r ih =>
      intro c hc
      simp only [Builtin.growBy]
      rw [if_neg (by omega)]
      by_cases h2 : c + (c + 768) / 4 < need
      · exact ih _ h2
      · cases r with
        | zero => simp only [Builtin.growBy]; omega
        | succ r => simp only [Builtin.growBy]; rw [if_pos (by omega)]; omega
  exact key 4 old h
theorem run_ask (m : Nat) (w : World) : (askRoom m).run P w = .ok () w := by
  unfold askRoom
  split <;> rfl
theorem run_cap (need old : Nat) (e : TypeId) (w : World) : (choose (.appendCap need old e)).run P w = .ok ((Question.appendCap need old e).cut (w.tape w.drawn (.appendCap need old e))) { w with drawn := w.drawn + 1 } := rfl
theorem append_grow {ts : Array TypeId} {ty st xt e : TypeId} {ie : TypeInfo} {z : Value} {base : Option Addr} {sLen sCap n : Nat} {x : Value} {old new : Array Value}
    (t0 : ts[0]? = some st) (t1 : ts[1]? = some xt) (h1 : P.underlying st = some (.slice e)) (h2 : P.info? e = some ie) (hz : ie.zero = some z) (hzs : z.cells.size = ie.size)
    (hs : ∀ w' : World, w'.heap = w.heap → Src P xt e ie.size ie.bytes z x n new w') (hlt : ¬ sLen + n ≤ sCap) (hb : 0 < ie.bytes) (hsz2 : (sLen + n + (sLen + n) / 4 + 512) * ie.bytes ≤ 2 ^ 48)
    (hold : (Builtin.firstCells ie.size sLen (.slice base sLen sCap)).run P { w with drawn := w.drawn + 1 } = .ok old { w with drawn := w.drawn + 1 }) :
    ∃ cap, sLen + n ≤ cap ∧ (Builtin.append_ ts ty #[.slice base sLen sCap, x]).run P w =
      .ok (.slice (some ⟨w.heap.size, 0, none⟩) (sLen + n) cap) (World.alloc { w with drawn := w.drawn + 1 } (.cells (old ++ new ++ Builtin.zeroCells z.cells (cap - (sLen + n))) e)) := by
  obtain ⟨d, hd, hs0⟩ := hs w rfl
  refine ⟨(Question.appendCap (sLen + n) sCap e).cut (w.tape w.drawn (.appendCap (sLen + n) sCap e)), Nat.le_add_right _ _, ?_⟩
  have hsz := run_size (P := P) (t := e) (n := ie.size) (by unfold szOf; rw [h2]; rfl)
  have hcap := nextcap_le (sLen + n) sCap (by omega)
  have hnot : ¬ (Builtin.nextslicecap (sLen + n) sCap * ie.bytes > 2 ^ 48) := by
    have := Nat.mul_le_mul_right ie.bytes hcap
    omega
  have hmax : ¬ (((sLen + n : Nat) : Int) > IntKind.i64.max) := by
    have h48 : sLen + n ≤ 2 ^ 48 := by
      have := Nat.mul_le_mul_left (sLen + n + (sLen + n) / 4 + 512) hb
      omega
    have : IntKind.i64.max = 9223372036854775807 := by decide
    rw [this]
    omega
  have a0 : (#[Value.slice base sLen sCap, x] : Array Value)[0]? = some (.slice base sLen sCap) := rfl
  have a1 : (#[Value.slice base sLen sCap, x] : Array Value)[1]? = some x := rfl
  unfold Builtin.append_
  rw [t0, t1, a0, a1]
  dsimp only
  rw [run_bind_ok (run_und h1 w)]
  dsimp only
  rw [run_bind_ok (hsz w)]
  rw [run_bind_ok (run_und hd w), run_bind_ok (runPure _ _)]
  rcases hs0 with ⟨⟨k, rfl⟩, rfl, b1, b2, hnew⟩ | ⟨hz0, hlen, hnew⟩
  · have hw : IntKind.i64.wrap (n : Int) = n := IntWalk.i64_in _ (by omega)
    have c1 : ¬ ((n : Int) < 0) := by omega
    have c2 : ¬ ((n : Int) * (ie.bytes : Int) > 2 ^ 48) := by
      have : ((n * ie.bytes : Nat) : Int) ≤ ((2 ^ 48 : Nat) : Int) := Int.ofNat_le.2 b2
      simp only [Int.natCast_mul] at this
      omega
    try dsimp only
    rw [if_pos rfl, run_bind_ok (show (asInt (.int .i64 n)).run P w = .ok (n : Int) w from rfl)]
    try dsimp only
    rw [hw, if_neg c1, run_bind_ok (run_info h2 w), if_neg c2, run_bind_ok (runPure _ _)]
    have hz1 : ∀ w : World, (if n * ie.size = 0 then pure #[] else do pure (Builtin.zeroCells (← zeroValue e).cells n) : Sem (Array Value)).run P w = .ok new w := by
      intro w
      by_cases h0 : n * ie.size = 0
      · rw [if_pos h0, hnew, zeroCells_nil z.cells n (by rw [hzs]; exact h0)]; rfl
      · rw [if_neg h0, run_bind_ok (run_zero h2 hz w), hnew]; rfl
    rw [Int.toNat_natCast, if_neg hlt, run_bind_ok (run_info h2 w), if_neg (fun h => hmax h.1), run_bind_ok (run_info h2 w), if_neg hnot, run_bind_ok (run_cap _ _ _ w), run_bind_ok (run_info h2 _), run_bind_ok (run_ask _ _), run_bind_ok hold,
      if_neg (show ¬ (!true) = true by decide), run_bind_ok (hz1 _), run_bind_ok (run_zero h2 hz _), run_bind_ok (run_newRow _ _ _)]
    rfl
  · obtain ⟨d', hd', hs1⟩ := hs { w with drawn := w.drawn + 1 } rfl
    rw [hd] at hd'
    cases hd'
    rcases hs1 with ⟨⟨k, rfl⟩, _, _, _, _⟩ | ⟨_, hlen1, hnew1⟩
    · exact absurd rfl (hz0 k)
    cases d <;> first | exact absurd rfl (hz0 _) | skip
    all_goals
      try dsimp only
      rw [if_neg Bool.false_ne_true, run_bind_ok hlen]
      try dsimp only
      rw [if_neg hlt, run_bind_ok (run_info h2 w), if_neg (fun h => hmax h.1), run_bind_ok (run_info h2 w), if_neg hnot, run_bind_ok (run_cap _ _ _ w), run_bind_ok (run_info h2 _), run_bind_ok (run_ask _ _), run_bind_ok hold,
        if_pos (show (!false) = true from rfl), run_bind_ok hnew1, run_bind_ok (run_zero h2 hz _), run_bind_ok (run_newRow _ _ _)]
      rfl
theorem zeros_length (n : Nat) (z : List Value) : (zeros n z).length = n * z.length := by
  induction n with
  | zero => simp [zeros]
  | succ n ih =>
    unfold zeros at *
    rw [List.range_succ, List.flatMap_append, List.length_append, ih]
    simp [Nat.succ_mul]
theorem zeroCells_eq (z : Array Value) (n : Nat) (hz : 0 < z.size) : (Builtin.zeroCells z n).toList = zeros n z.toList := by
  have hl : (zeros n z.toList).length = n * z.size := by rw [zeros_length, Array.length_toList]
  refine List.ext_getElem? fun i => ?_
  have key : ∀ (n i : Nat), i < n * z.size → (zeros n z.toList)[i]? = z[i % z.size]? := by
    intro n
    induction n with
    | zero => intro i hi; omega
    | succ n ih =>
      intro i hi
      have e : zeros (n + 1) z.toList = zeros n z.toList ++ z.toList := by
        unfold zeros
        rw [List.range_succ, List.flatMap_append]
        simp
      rw [e]
      have hl : (zeros n z.toList).length = n * z.size := by rw [zeros_length, Array.length_toList]
      by_cases h : i < n * z.size
      · rw [List.getElem?_append_left (by omega)]; exact ih i h
      · rw [List.getElem?_append_right (by omega), hl, Array.getElem?_toList]
        have : i % z.size = i - n * z.size := by
          rw [Nat.succ_mul] at hi
          have : i = (i - n * z.size) + n * z.size := by omega
          rw [this, Nat.add_mul_mod_self_right, Nat.mod_eq_of_lt (by omega)]
          omega
        rw [this]
  rcases Nat.lt_or_ge i (n * z.size) with h | h
  · rw [key n i h]
    unfold Builtin.zeroCells
    rw [Array.getElem?_toList]
    simp only [Array.getElem?_map, Array.getElem?_range, h, if_true, Option.map_some]
    have hm := Nat.mod_lt i hz
    rw [Array.getElem?_eq_getElem hm, getElem!_pos z (i % z.size) hm]
  · rw [List.getElem?_eq_none (l := zeros n z.toList) (by omega)]
    unfold Builtin.zeroCells
    rw [Array.getElem?_toList]
    simp only [Array.getElem?_map, Array.getElem?_range]
    rw [if_neg (by omega)]
    rfl
theorem zeroCells_size (z : Array Value) (n : Nat) : (Builtin.zeroCells z n).size = n * z.size := by
  unfold Builtin.zeroCells
  simp
theorem cells_len {a : Addr} {n : Nat} {l : List Value} (e : S.cells W a n = some l) : l.length = n := by
  unfold St.cells at e
  split at e
  · cases e; simp_all
  split at e
  · exact (oldCells_spec _ _ _ e).1
  · split at e
    · split at e
      · cases e; simp only [List.length_take, List.length_drop]; omega
      · cases e
    · cases e
theorem src_sound (h : Rel W φ S w) {xt e : TypeId} {size bytes : Nat} {z x x' : Value} {n : Nat} {new : List Value} (hx : VRel W.heap.size φ x x') (hz : flat z = true) (hzs : z.cells.size = size) (hp : 0 < size)
    (es : srcOf P W S xt size z x = some (n, new)) (hb : n * bytes ≤ 2 ^ 48) :
    ∃ new' : Array Value, LRel W.heap.size φ new new'.toList ∧ new.length = n * size ∧ ∀ w' : World, w'.heap = w.heap → Src P xt e size bytes z x' n new' w' := by
  unfold srcOf at es
  cases hd : P.underlying xt with
  | none => rw [hd] at es; cases es
  | some d =>
    rw [hd, if_neg (by simp)] at es
    unfold isIntT at es
    rw [hd] at es
    by_cases hi : ∃ k, d = .int k
    · obtain ⟨k, rfl⟩ := hi
      rw [if_pos rfl] at es
      split at es
      · rename_i m
        split at es
        · rename_i hm
          simp only [Option.some.injEq, Prod.mk.injEq] at es
          obtain ⟨rfl, rfl⟩ := es
          cases hx
          refine ⟨Builtin.zeroCells z.cells m.toNat, ?_, ?_, fun w' _ => ⟨_, hd, .inl ⟨⟨k, rfl⟩, ?_, by omega, hb, rfl⟩⟩⟩
          · rw [zeroCells_eq _ _ (by omega)]
            have hf := flat_cells (W := W) (φ := φ) hz
            unfold zeros
            generalize List.range m.toNat = l
            induction l with
            | nil => exact LRel.nil
            | cons _ l ih => rw [List.flatMap_cons]; exact LRel.append hf ih
          · rw [zeros_length, Array.length_toList, hzs]
          · congr 1; omega
        · cases es
      · cases es
    · have hk : ∀ k, d ≠ .int k := fun k e => hi ⟨k, e⟩
      have es : srcCells W S size x = some (n, new) := by
        cases d <;> first | exact es | exact absurd rfl (hk _)
      unfold srcCells at es
      split at es
      · rename_i a m c _
        split at es
        · rename_i l hl
          simp only [Option.some.injEq, Prod.mk.injEq] at es
          obtain ⟨rfl, rfl⟩ := es
          have hlen := cells_len hl
          cases hx with
          | sl0 hb =>
            have : l = [] := List.eq_nil_of_length_eq_zero (by rw [hlen]; omega)
            subst this
            refine ⟨#[], LRel.nil, by simp, fun w' _ => ⟨d, hd, .inr ⟨hk, rfl, ?_⟩⟩⟩
            simp only [Builtin.firstCells, Nat.zero_mul]
            exact runLoadCells (l := []) rfl (fun j v hv => by simp at hv)
          | sl hsl =>
            rename_i a' c'
            by_cases hm : m = 0
            · subst hm
              have : l = [] := List.eq_nil_of_length_eq_zero (by rw [hlen]; omega)
              subst this
              refine ⟨#[], LRel.nil, by simp, fun w' _ => ⟨d, hd, .inr ⟨hk, rfl, ?_⟩⟩⟩
              simp only [Builtin.firstCells, Nat.zero_mul]
              exact runLoadCells (l := []) rfl (fun j v hv => by simp at hv)
            · obtain ⟨L, k1, k2, k3, k4, k5⟩ := hsl
              have hoff : a'.off = L.off + a.off := by
                rcases k5 with k | k | k
                · exact k.2.2
                · exact k.2.2.1
                · exact (hm k.2.1).elim
              obtain ⟨l', r1, r2, r3⟩ := cells_sound h (a := a) (a' := a') ⟨L, k1, k2, hoff, k3, k4⟩ hl
              refine ⟨l'.toArray, r1, hlen, fun w' hw' => ⟨d, hd, .inr ⟨hk, rfl, ?_⟩⟩⟩
              simp only [Builtin.firstCells]
              refine runLoadCells (r1.1.symm.trans r2) (fun j v hv => ?_)
              have := r3 j v hv
              unfold World.cell? at this ⊢
              rwa [hw']
        · cases es
      · split at es
        · rename_i hm
          simp only [Option.some.injEq, Prod.mk.injEq] at es
          obtain ⟨rfl, rfl⟩ := es
          subst hm
          cases hx
          exact ⟨#[], LRel.nil, by simp, fun w' _ => ⟨d, hd, .inr ⟨hk, rfl, rfl⟩⟩⟩
        · cases es
      · rename_i s _
        split at es
        · rename_i h1
          simp only [Option.some.injEq, Prod.mk.injEq] at es
          obtain ⟨rfl, rfl⟩ := es
          cases hx
          have hs : (s.extract 0 s.size) = s := ByteArray.extract_zero_size
          refine ⟨s.data.map fun b => .int .u8 b.toNat, ?_, ?_, fun w' _ => ⟨d, hd, .inr ⟨hk, rfl, ?_⟩⟩⟩
          · rw [Array.toList_map]; exact LRel.map _ fun b _ => .int _ _
          · simp only [List.length_map, Array.length_toList]; rw [h1, Nat.mul_one]; rfl
          · simp only [Builtin.firstCells, hs]; rfl
        · cases es
      · cases es
end
end Go.Proofs.Yteofdikfdknpbaa.E
end
section
namespace Go.Proofs.Yteofdikfdknpbaa.E
open Go Go.RowKit
set_option linter.unusedVariables false
section
variable {P : Program} {W : World} {φ : Emb} {S : St} {w : World}
theorem store_raw {b : Nat} {e : TypeId} {fr : Nat × Nat} (a' : Addr) : ∀ (vs : List Value) (w : World) (C : Array Value) (o j : Nat), w.heap[b]? = some (.cells C e fr) → (∀ j, j < C.size → ¬ (fr.1 ≤ j ∧ j < fr.2)) →
    o + vs.length ≤ C.size → vs.all storable = true → (∀ m, a'.add (j + m) = ⟨b, o + m, none⟩) →
    ∃ w' C', (storeCells a' vs j).run P w = .ok () w' ∧ w'.heap.size = w.heap.size ∧ (∀ k, k ≠ b → w'.heap[k]? = w.heap[k]?) ∧ w'.os = w.os ∧ w'.tape = w.tape ∧ w'.output = w.output ∧
      w'.heap[b]? = some (.cells C' e fr) ∧ C'.size = C.size ∧ (∀ k, k < o → C'[k]? = C[k]?) ∧ (∀ k v, vs[k]? = some v → C'[o + k]? = some v)
  | [], w, C, o, j, h, hf, hle, hs, ha => ⟨w, C, rfl, rfl, fun _ _ => rfl, rfl, rfl, rfl, h, rfl, fun _ _ => rfl, fun k v hv => by simp at hv⟩
  | v :: vs, w, C, o, j, h, hf, hle, hs, ha => by
    simp only [List.length_cons] at hle
    simp only [List.all_cons, Bool.and_eq_true] at hs
    have ha0 := ha 0
    rw [Nat.add_zero, Nat.add_zero] at ha0
    have hc : w.cell? ⟨b, o, none⟩ = some (C[o]'(by omega)) := by rw [cell_row h, Array.getElem?_eq_getElem]
    have hfz : w.frozen? ⟨b, o, none⟩ = false := by
      unfold World.frozen?
      dsimp only
      rw [h]
      have := hf o (by omega)
      cases hx : (decide (fr.1 ≤ o) && decide (o < fr.2)) with
      | false => exact hx
      | true => simp only [Bool.and_eq_true, decide_eq_true_eq] at hx; exact (this hx).elim
    obtain ⟨w', C', r, e1, e2, e3, e4, e5, e6, e7, e8, e9⟩ := store_raw a' vs (w.setCell ⟨b, o, none⟩ v) (C.setIfInBounds o v) (o + 1) (j + 1) (setCell_heap_eq h v) (by simpa using hf) (by simp; omega) hs.2
      (fun m => by rw [show j + 1 + m = j + (m + 1) by omega, ha, show o + 1 + m = o + (m + 1) by omega])
    refine ⟨w', C', ?_, by rw [e1]; exact setCell_size _ _ _, fun k hk => by rw [e2 k hk]; exact setCell_heap_ne _ _ _ hk, e3, e4, e5, e6, by rw [e7]; simp, fun k hk => ?_, fun k u hu => ?_⟩
    · simp only [storeCells]
      rw [ha0, run_bind_ok (runStore hs.1 hc hfz)]
      exact r
    · rw [e8 k (by omega), Array.getElem?_setIfInBounds_ne (by omega)]
    · cases k with
      | zero =>
        simp at hu
        subst hu
        rw [Nat.add_zero, e8 o (by omega), Array.getElem?_setIfInBounds_self, if_pos (by omega)]
      | succ k => rw [show o + (k + 1) = o + 1 + k by omega]; exact e9 k u (by simpa using hu)
theorem all_storable {N : Nat} : ∀ {l l' : List Value}, LRel N φ l l' → l.all storable = true → l'.all storable = true
  | [], l', h, _ => by rw [LRel.of_nil h]; rfl
  | v :: l, l', h, hs => by
    obtain ⟨v', r, rfl, h1, h2⟩ := h.uncons
    simp only [List.all_cons, Bool.and_eq_true] at hs ⊢
    exact ⟨storable_rel h1 hs.1, all_storable h2 hs.2⟩
theorem ok_new {S : St} (h : Rel W φ S w) {i : Nat} (hl : S.lock ≤ i) (hd : S.heap i ≠ .dead) (o : AObj) : AStep S ((S.upd i .dead).new o) :=
  (AStep.upd S i .dead h.ok hl hd).trans (AStep.new _ _ h.ok.1)
theorem grown_post (h : Rel W φ S w) (hf : φ S.c = none) {e : TypeId} {size n sLen cap : Nat} {old' new' : Array Value} {old new : List Value} {z : Value} (ho : LRel W.heap.size φ old old'.toList) (hn : LRel W.heap.size φ new new'.toList)
    (lo : old.length = sLen * size) (ln : new.length = n * size) (hz : z.cells.size = size) (hs : size ≠ 0) (hc : sLen + n ≤ cap) :
    ∃ φ', VRel W.heap.size φ' (.slice (some ⟨S.c, 0, none⟩) (sLen + n) (sLen + n)) (.slice (some ⟨w.heap.size, 0, none⟩) (sLen + n) cap) ∧
      Post W φ S w φ' (S.new (.row (old ++ new) size)) (World.alloc { w with drawn := w.drawn + 1 } (.cells (old' ++ new' ++ Builtin.zeroCells z.cells (cap - (sLen + n))) e)) := by
  have hlo := ho.1
  have hln := hn.1
  simp only [Array.length_toList] at hlo hln
  have hsz : (old' ++ new' ++ Builtin.zeroCells z.cells (cap - (sLen + n))).size = cap * size := by
    rw [Array.size_append, Array.size_append, zeroCells_size, hz, ← hlo, ← hln, lo, ln, ← Nat.add_mul, ← Nat.add_mul]
    congr 1
    omega
  have p := (Post.drew h).rel
  have q := new_fresh (w := { w with drawn := w.drawn + 1 }) p hf (cs := old ++ new) (cs' := old'.toList ++ new'.toList) size e (old' ++ new' ++ Builtin.zeroCells z.cells (cap - (sLen + n))) (LRel.append ho hn) (fun j v hv => by
    rw [← Array.getElem?_toList, Array.toList_append, Array.toList_append]
    rw [List.getElem?_append_left (List.getElem?_eq_some_iff.1 hv).1]
    exact hv) (by rw [hsz, List.length_append, lo, ln, ← Nat.add_mul]; exact Nat.mul_le_mul_right _ hc)
  refine ⟨_, .sl ⟨_, if_pos rfl, rfl, rfl, fun _ => rfl, .inr (.inl ⟨hs, hc, rfl, ?_⟩)⟩, (Post.drew h).trans (Nat.le_refl _) (Nat.le_succ _) q⟩
  exact (by rw [hsz, Nat.zero_add]; exact Nat.le_refl _ : 0 + cap * size ≤ (old' ++ new' ++ Builtin.zeroCells z.cells (cap - (sLen + n))).size)
theorem does_append (h : Rel W φ S w) {ts : Array TypeId} {ty : TypeId} {args args' : Array Value} (hargs : RRel W.heap.size φ args args') (hn2 : args.size = 2) {v : Value} {S' : St} (e : aAppend P W S ts args = some (v, S')) (hf : S.c < S'.c → φ S.c = none) :
    Does P W φ S w (Builtin.append_ ts ty args') v S' := by
  unfold aAppend at e
  split at e
  rotate_left
  · cases e
  rename_i st xt base sLen sCap x t0 t1 a0 a1
  split at e
  rotate_left
  · cases e
  rename_i el hu
  split at e
  rotate_left
  · cases e
  rename_i ie hi
  split at e
  rotate_left
  · cases e
  rename_i z hz
  split at e
  rotate_left
  · cases e
  rename_i hzz
  obtain ⟨hzs, hp, hbp, hfz⟩ := hzz
  split at e
  rotate_left
  · cases e
  rename_i n new hsrc
  split at e
  rotate_left
  · cases e
  rename_i hbound
  obtain ⟨s', b0, hs'⟩ := hargs.getElem? a0
  obtain ⟨x', b1, hx'⟩ := hargs.getElem? a1
  have hargs' : args' = #[s', x'] := by
    have hsz := hargs.size
    rw [hn2] at hsz
    refine Array.ext (by rw [← hsz]; rfl) fun i h1 h2 => ?_
    have hi2 : i < 2 := by rw [← hsz] at h1; exact h1
    have : i = 0 ∨ i = 1 := by omega
    rcases this with rfl | rfl
    · rw [Array.getElem?_eq_getElem h1] at b0; cases b0; rfl
    · rw [Array.getElem?_eq_getElem h1] at b1; cases b1; rfl
  subst hargs'
  have hnb : n * ie.bytes ≤ 2 ^ 48 := Nat.le_trans (Nat.mul_le_mul_right _ (by omega)) hbound
  obtain ⟨new', hnew, hnl, hSrc⟩ := src_sound h hx' hfz hzs hp hsrc hnb
  have hs0 : ie.size ≠ 0 := by omega
  cases base with
  | none =>
    dsimp only at e
    by_cases hnil : sLen = 0 ∧ sCap = 0
    rotate_left
    · rw [if_neg hnil] at e; cases e
    rw [if_pos hnil] at e
    obtain ⟨rfl, rfl⟩ := hnil
    cases hs'
    by_cases hn0 : n = 0
    · rw [if_pos hn0] at e
      cases e
      subst hn0
      refine Does.same h ?_ (.nilSl _ _)
      exact append_room (ty := ty) t0 t1 hu hi hz hzs (hSrc w rfl) (by omega) (fun a ha => by cases ha) (fun _ => rfl)
    · rw [if_neg hn0] at e
      cases e
      have hfree := hf (Nat.lt_succ_self _)
      obtain ⟨cap, hc, hrun⟩ := append_grow (ty := ty) (base := none) (sLen := 0) (sCap := 0) (old := #[]) t0 t1 hu hi hz hzs hSrc (by omega) hbp hbound rfl
      obtain ⟨φ', hv, hpost⟩ := grown_post (e := el) (sLen := 0) h hfree (old := []) (old' := #[]) LRel.nil hnew (by simp) hnl hzs hs0 hc
      rw [Nat.zero_add] at hv
      rw [Nat.zero_add] at hrun
      exact ⟨φ', _, _, by rw [hrun, Nat.zero_add], hv, hpost, AStep.newOk h _⟩
  | some a =>
    dsimp only at e
    by_cases hZ : isZ W a = true
    · rw [if_pos hZ] at e
      split at e
      rotate_left
      · cases e
      rename_i hnil
      obtain ⟨rfl, rfl⟩ := hnil
      have hZ' : a.spot = some 0 ∧ W.heap.size ≤ a.block := by unfold isZ at hZ; simpa using hZ
      have hcap : ∃ a', s' = .slice (some a') 0 0 := by
        cases hs' with
        | sl0 hNb => exact ⟨_, rfl⟩
        | sl hsl =>
          obtain ⟨L, k1, k2, k3, k4, k5⟩ := hsl
          have := k4 hZ'.2
          rw [hZ'.1] at this
          cases this
      obtain ⟨a', rfl⟩ := hcap
      by_cases hn0 : n = 0
      · rw [if_pos hn0] at e
        cases e
        subst hn0
        have hnew0 : new = [] := List.eq_nil_of_length_eq_zero (by rw [hnl]; omega)
        subst hnew0
        have hnew0' : new'.toList = [] := LRel.of_nil hnew
        refine Does.same h (append_room (ty := ty) (base := some a') t0 t1 hu hi hz hzs (hSrc w rfl) (by omega) (w' := w) (fun b hb => by cases hb; rw [hnew0']; rfl) (fun hb => by cases hb)) ?_
        obtain ⟨b, o, sp⟩ := a
        obtain ⟨h1, h2⟩ := hZ'
        dsimp only at h1 h2
        subst h1
        exact .sl0 h2
      · rw [if_neg hn0] at e
        cases e
        have hfree := hf (Nat.lt_succ_self _)
        obtain ⟨cap, hc, hrun⟩ := append_grow (ty := ty) (base := some a') (sLen := 0) (sCap := 0) (old := #[]) t0 t1 hu hi hz hzs hSrc (by omega) hbp hbound (by
          simp only [Builtin.firstCells, Nat.zero_mul]
          exact runLoadCells (l := []) rfl (fun j v hv => by simp at hv))
        obtain ⟨φ', hv, hpost⟩ := grown_post (e := el) (sLen := 0) h hfree (old := []) (old' := #[]) LRel.nil hnew (by simp) hnl hzs hs0 hc
        rw [Nat.zero_add] at hv
        rw [Nat.zero_add] at hrun
        exact ⟨φ', _, _, by rw [hrun, Nat.zero_add], hv, hpost, AStep.newOk h _⟩
    rw [if_neg hZ] at e
    cases hfx : S.fx W a with
    | none => rw [hfx] at e; cases e
    | some kf =>
    rw [hfx] at e
    cases kf with
    | succ k =>
      dsimp only at e
      split at e
      rotate_left
      · cases e
      rename_i cs kk hcs
      split at e
      rotate_left
      · cases e
      rename_i hcond
      obtain ⟨hk, hle, hlock, hst⟩ := hcond
      cases e
      have hd : S.heap a.block ≠ .dead := by rw [hcs]; exact fun e => by cases e
      have hfree := hf (Nat.lt_succ_self _)
      cases hs' with
      | sl0 hNb => exact absurd (isZ_mk hNb) hZ
      | sl hsl =>
        rename_i a' c'
        obtain ⟨L, k1, k2, k3, k4, k5⟩ := hsl
        obtain ⟨f1, f2⟩ := fx_spec h k1 hfx
        have hN := ne_old h hd
        have hsp := k4 hN
        obtain ⟨q1, q2, q3⟩ := h.blk _ L k1 hN
        rw [hcs] at q3
        obtain ⟨C, ee, fr, c1, c2, c3, c4, c5, c6⟩ := q3
        have hL : L.esz = ie.size := f1.trans hk
        have hL0 : L.esz ≠ 0 := by rw [hL]; exact hs0
        by_cases hroom : sLen + n ≤ c'
        · rcases k5 with k | k | k
          · exact (hL0 k.1).elim
          · obtain ⟨_, hcc, hoff, htot⟩ := k
            have hlen' : (sLen + n) * ie.size ≤ c' * ie.size := Nat.mul_le_mul_right _ hroom
            rw [hL, c4] at htot
            rw [Nat.add_mul] at hlen'
            obtain ⟨w', C', r, e1, e2, e3, e4, e5, e6, e7, e8, e9⟩ := store_raw (P := P) (a'.add (sLen * ie.size)) new'.toList w C (L.off + a.off + sLen * ie.size) 0 c1 c2 (by rw [← hnew.1, hnl]; omega) (all_storable hnew hst) (fun m => by
              rw [Nat.zero_add, addr_of (a := ⟨a.block, a.off + sLen * ie.size, none⟩) (L := L) (by rw [add_block]; exact k2) (by rw [add_off, hoff]; dsimp only; omega) (by rw [add_spot, k3, hsp]; split <;> rfl) m]
              congr 1
              dsimp only
              omega)
            have hrun := append_room (ty := ty) (base := some a') (sLen := sLen) (sCap := c') t0 t1 hu hi hz hzs (hSrc w rfl) hroom (w' := w') (fun b hb => by cases hb; exact r) (fun hb => by cases hb)
            have hpost := post_move h k1 hlock hd hfree (L' := ⟨L.blk, a'.off, ie.size, C'.size⟩) (o := .row ((cs.drop a.off).take (sLen * ie.size) ++ new) ie.size) e1 e2 e3 e4 e5 rfl ?_
            · refine ⟨_, _, w', hrun, .sl ⟨⟨L.blk, a'.off, ie.size, C'.size⟩, if_pos rfl, k2, k3.trans hsp, fun _ => rfl, .inr (.inl ⟨hs0, hroom, ?_, ?_⟩)⟩, hpost, ok_new h hlock hd _⟩
              · show a'.off = a'.off + 0
                rfl
              · show a'.off + c' * ie.size ≤ C'.size
                rw [e7]; exact htot
            · have hlt : (List.take (sLen * ie.size) (List.drop a.off cs)).length = sLen * ie.size := by simp only [List.length_take, List.length_drop]; omega
              refine ⟨C', ee, fr, e6, by rw [e7]; exact c2, rfl, rfl, ?_, fun j u hu2 => ?_⟩
              · show a'.off + _ ≤ _
                rw [List.length_append, hlt, hnl, e7, hoff]
                omega
              · show ∃ v', C'[a'.off + j]? = some v' ∧ _
                rcases Nat.lt_or_ge j (sLen * ie.size) with hj | hj
                · rw [List.getElem?_append_left (by rw [hlt]; exact hj), List.getElem?_take, if_pos hj, List.getElem?_drop] at hu2
                  obtain ⟨v', d1, d2⟩ := c6 _ _ hu2
                  refine ⟨v', ?_, d2⟩
                  rw [e8 _ (by rw [hoff]; omega), hoff, ← d1]
                  congr 1
                  omega
                · rw [List.getElem?_append_right (by rw [hlt]; exact hj), hlt] at hu2
                  obtain ⟨v', d1, d2⟩ := hnew.2 _ _ hu2
                  refine ⟨v', ?_, d2⟩
                  have := e9 _ _ d1
                  rw [← this]
                  congr 1
                  omega
          · obtain ⟨_, hl0, hc0, hc0'⟩ := k
            subst hl0 hc0 hc0'
            have hn0 : n = 0 := by omega
            subst hn0
            have hnew0 : new = [] := List.eq_nil_of_length_eq_zero (by rw [hnl]; omega)
            subst hnew0
            have hnew0' : new'.toList = [] := LRel.of_nil hnew
            have hrun := append_room (ty := ty) (base := some a') (sLen := 0) (sCap := 0) t0 t1 hu hi hz hzs (hSrc w rfl) hroom (w' := w) (fun b hb => by cases hb; rw [hnew0']; rfl) (fun hb => by cases hb)
            have hpost := post_move h k1 hlock hd hfree (L' := ⟨L.blk, L.off, ie.size, C.size⟩) (o := .row ((cs.drop a.off).take (0 * ie.size) ++ []) ie.size) (w' := w) rfl (fun _ _ => rfl) rfl rfl rfl rfl ?_
            · exact ⟨_, _, w, hrun, .sl ⟨⟨L.blk, L.off, ie.size, C.size⟩, if_pos rfl, k2, k3.trans hsp, fun _ => rfl, .inr (.inr ⟨hs0, rfl, rfl, rfl⟩)⟩, hpost, ok_new h hlock hd _⟩
            · refine ⟨C, ee, fr, c1, c2, rfl, rfl, ?_, fun j u hu2 => ?_⟩
              · show L.off + _ ≤ _
                simp only [Nat.zero_mul, List.take_zero, List.append_nil, List.length_nil]
                omega
              · simp at hu2
        · have hkill := post_write h k1 hlock hd (o := .dead) (w' := w) rfl (fun _ _ => rfl) rfl rfl rfl trivial
          have hold : ∃ old' : List Value, LRel W.heap.size φ ((cs.drop a.off).take (sLen * ie.size)) old' ∧ ∀ w' : World, w'.heap = w.heap → (Builtin.firstCells ie.size sLen (.slice (some a') sLen c')).run P w' = .ok old'.toArray w' := by
            by_cases hl : sLen = 0
            · subst hl
              refine ⟨[], by rw [Nat.zero_mul]; exact LRel.nil, fun w' _ => ?_⟩
              simp only [Builtin.firstCells, Nat.zero_mul]
              exact runLoadCells (l := []) rfl (fun j v hv => by simp at hv)
            · have hoff : a'.off = L.off + a.off := by
                rcases k5 with k | k | k
                · exact k.2.2
                · exact k.2.2.1
                · exact (hl k.2.1).elim
              have hcells : S.cells W a (sLen * ie.size) = some ((cs.drop a.off).take (sLen * ie.size)) := by
                unfold St.cells
                have hpos : 0 < sLen * ie.size := Nat.mul_pos (by omega) (by omega)
                rw [if_neg (by omega), if_neg (by omega), hcs]
                dsimp only
                rw [if_pos hle]
              obtain ⟨l', r1, r2, r3⟩ := cells_sound h (a := a) (a' := a') ⟨L, k1, k2, hoff, k3, k4⟩ hcells
              refine ⟨l', r1, fun w' hw' => ?_⟩
              simp only [Builtin.firstCells]
              refine runLoadCells (r1.1.symm.trans r2) (fun j v hv => ?_)
              have := r3 j v hv
              unfold World.cell? at this ⊢
              rwa [hw']
          obtain ⟨old', ho1, ho2⟩ := hold
          obtain ⟨cap, hc, hrun⟩ := append_grow (ty := ty) (base := some a') (sLen := sLen) (sCap := c') t0 t1 hu hi hz hzs hSrc hroom hbp hbound (ho2 _ rfl)
          have hlt : (List.take (sLen * ie.size) (List.drop a.off cs)).length = sLen * ie.size := by simp only [List.length_take, List.length_drop]; omega
          obtain ⟨φ', hv, hpost⟩ := grown_post (e := el) (sLen := sLen) hkill.rel hfree (old' := old'.toArray) ho1 hnew hlt hnl hzs hs0 hc
          exact ⟨φ', _, _, hrun, hv, hkill.trans (Nat.le_refl _) (Nat.le_succ _) hpost, ok_new h hlock hd _⟩
    | zero =>
      dsimp only at e
      cases hs' with
      | sl0 hNb => exact absurd (isZ_mk hNb) hZ
      | sl hsl =>
        rename_i a' c'
        obtain ⟨L, k1, k2, k3, k4, k5⟩ := hsl
        obtain ⟨f1, f2⟩ := fx_spec h k1 hfx
        have hex : c' = sCap ∧ a'.off = L.off + a.off := by
          rcases k5 with k | k | k
          · exact k.2
          · exact (k.1 f1).elim
          · exact (k.1 f1).elim
        obtain ⟨rfl, hoff⟩ := hex
        have ha : ARel W.heap.size φ a a' := ⟨L, k1, k2, hoff, k3, k4⟩
        split at e
        · rename_i hroom
          split at e
          · rename_i S1 hput
            cases e
            obtain ⟨w', r, p, q⟩ := put_sound (P := P) h (ha.add (sLen * ie.size)) hnew hput
            have hrun := append_room (ty := ty) (base := some a') (sLen := sLen) (sCap := c') t0 t1 hu hi hz hzs (hSrc w rfl) hroom (w' := w') (fun b hb => by cases hb; exact r) (fun hb => by cases hb)
            exact ⟨φ, _, w', hrun, .sl ⟨L, k1, k2, k3, k4, .inl ⟨f1, rfl, hoff⟩⟩, p, q⟩
          · cases e
        · rename_i hroom
          split at e
          · rename_i old hold
            cases e
            have hfree := hf (Nat.lt_succ_self _)
            obtain ⟨l', r1, r2, r3⟩ := cells_sound h ha hold
            obtain ⟨cap, hc, hrun⟩ := append_grow (ty := ty) (base := some a') (sLen := sLen) (sCap := c') (old := l'.toArray) t0 t1 hu hi hz hzs hSrc hroom hbp hbound (by
              simp only [Builtin.firstCells]
              refine runLoadCells (r1.1.symm.trans r2) (fun j v hv => ?_)
              exact r3 j v hv)
            obtain ⟨φ', hv, hpost⟩ := grown_post (e := el) (sLen := sLen) h hfree (old' := l'.toArray) r1 hnew r2 hnl hzs hs0 hc
            exact ⟨φ', _, _, hrun, hv, hpost, AStep.newOk h _⟩
          · cases e
end
end Go.Proofs.Yteofdikfdknpbaa.E
end
section
namespace Go.Proofs.Yteofdikfdknpbaa.E
open Go Go.RowKit
set_option linter.unusedVariables false
section
variable {P : Program} {W : World} {φ : Emb} {S : St} {w : World}
theorem all_flat_eq {args args' : Array Value} (h : args.all flat = true) (k : RRel W.heap.size φ args args') : args' = args := by
  simp only [Array.all_eq_true_iff_forall_mem] at h
  exact Array.ext k.size.symm fun i h1 h2 => flat_eq (h _ (Array.getElem_mem h2)) (k.pt i h2 h1)
theorem len_still {ts : Array TypeId} {args args' : Array Value} (k : RRel W.heap.size φ args args') (hj : ∀ x, args[0]? = some x → notJ x = true) {v : Value} (e : still P (Builtin.len_ ts 0 args) = some v) : still P (Builtin.len_ ts 0 args') = some v := by
  unfold Builtin.len_ at *
  cases h0 : ts[0]? with
  | none => rw [h0] at e; cases e
  | some t =>
    rw [h0] at e
    cases h1 : args[0]? with
    | none => rw [h1] at e; cases e
    | some x =>
      rw [h1] at e
      obtain ⟨x', a, b⟩ := k.getElem? h1
      rw [a]
      dsimp only at e ⊢
      rw [still_bind, still_und] at *
      cases hu : P.underlying t with
      | none => rw [hu] at e; cases e
      | some d =>
        rw [hu, Option.bind_some] at e
        rw [Option.bind_some]
        have hjx := hj x h1
        cases b <;> first | (cases hjx; done) | exact e | skip
        all_goals (cases d <;> first | exact e | (simp [still, stuck] at e; done) | skip)
        all_goals (first | cases e | skip)
theorem does_len (h : Rel W φ S w) {ts : Array TypeId} {ty : TypeId} {args args' : Array Value} (k : RRel W.heap.size φ args args') {v : Value} (e : aLen P W S ts args = some v) : Does P W φ S w (Builtin.len_ ts ty args') v S := by
  unfold aLen at e
  split at e
  · rename_i t r h0 h1
    split at e
    · rename_i kt et hu
      split at e
      · cases e
      · rename_i hr
        split at e
        · rename_i es clk hh
          cases e
          obtain ⟨x', a, b⟩ := k.getElem? h1
          cases b with
          | map hm hz =>
            rename_i L
            refine Does.same h (v' := goInt es.size) ?_ (.int _ _)
            obtain ⟨b1, b2, b3⟩ := h.blk _ L hm (by omega)
            rw [hh] at b3
            unfold Builtin.len_
            rw [h0, a]
            dsimp only
            rw [run_bind_ok (run_und hu w)]
            dsimp only
            have : (getObj L.blk).run P w = .ok (.map es clk) w := by
              unfold getObj
              simp only [Sem.run, b3.1]
            rw [run_bind_ok this]
            rfl
        · cases e
    · cases e
  · rename_i h0 x h1
    split at e
    · rename_i hj
      obtain ⟨e1, e2⟩ := stillF_spec e
      exact Does.same h (still_run w (len_still k (fun x hx => by rw [hx] at h1; cases h1; exact hj) e1)) (flat_refl e2)
    · cases e
  · cases e
theorem flat_zero {z : Value} (hf : flat z = true) (n : Nat) : LRel W.heap.size φ (zeros n z.cells.toList) (zeros n z.cells.toList) := by
  have hf := flat_cells (W := W) (φ := φ) hf
  unfold zeros
  generalize List.range n = l
  induction l with
  | nil => exact LRel.nil
  | cons _ l ih => rw [List.flatMap_cons]; exact LRel.append hf ih
theorem does_makeSlice (h : Rel W φ S w) {t : TypeId} {l l' c c' v : Value} {S' : St} (hl : VRel W.heap.size φ l l') (hc : VRel W.heap.size φ c c') (e : aMakeSlice P S t l c = some (v, S')) (hf : S.c < S'.c → φ S.c = none) :
    Does P W φ S w (Instr.makeSlice t l' c') v S' := by
  unfold aMakeSlice at e
  split at e
  rotate_left
  · cases e
  rename_i el l c hu
  split at e
  rotate_left
  · cases e
  rename_i ie hi
  split at e
  rotate_left
  · cases e
  rename_i z hz
  split at e
  rotate_left
  · cases e
  rename_i hcond
  obtain ⟨hzs, hp, hfz, h0, hlc, hc47, hb⟩ := hcond
  cases e
  cases hl
  cases hc
  have hfree := hf (Nat.lt_succ_self _)
  have wl : IntKind.i64.wrap l = l := IntWalk.i64_in _ (by omega)
  have wc : IntKind.i64.wrap c = c := IntWalk.i64_in _ (by omega)
  have hcn : ((c.toNat : Nat) : Int) = c := Int.toNat_of_nonneg (by omega)
  have hsz : (Builtin.zeroCells z.cells c.toNat).size = c.toNat * ie.size := by rw [zeroCells_size, hzs]
  have hrow : (Array.range (c.toNat * ie.size)).map (fun i => z.cells[i % z.cells.size]!) = Builtin.zeroCells z.cells c.toNat := by
    unfold Builtin.zeroCells
    rw [hzs]
  have hrun : (Instr.makeSlice t (.int .i64 l) (.int .i64 c)).run P w = .ok (.slice (some ⟨w.heap.size, 0, none⟩) l.toNat c.toNat) (w.alloc (.cells (Builtin.zeroCells z.cells c.toNat) el)) := by
    unfold Instr.makeSlice
    rw [run_bind_ok (run_und hu w)]
    dsimp only
    rw [run_bind_ok (show (asInt (.int .i64 l)).run P w = .ok l w from rfl), run_bind_ok (show (asInt (.int .i64 c)).run P w = .ok c w from rfl), run_bind_ok (run_info hi w)]
    have t1 : (decide (c < 0) || decide ((ie.bytes : Int) * c > 2 ^ 48)) = false := by simp; omega
    have t2 : ((decide (c < 0) || decide ((ie.bytes : Int) * c > 2 ^ 48)) || decide (l < 0) || decide (l > c)) = false := by rw [t1]; simp; omega
    rw [wl, wc]
    rw [if_neg (by rw [t2]; exact Bool.false_ne_true)]
    rw [run_bind_ok (run_ask _ _), run_bind_ok (run_size (n := ie.size) (by unfold szOf; rw [hi]; rfl) w)]
    by_cases hz0 : c.toNat * ie.size = 0
    · rw [if_pos hz0, run_bind_ok (runPure _ _), run_bind_ok (run_newRow _ _ _)]
      have e1 : Builtin.zeroCells z.cells c.toNat = #[] := zeroCells_nil _ _ (by rw [hzs]; exact hz0)
      rw [e1, hz0]
      have e2 : ((Array.range 0).map fun i => (#[] : Array Value)[i % (#[] : Array Value).size]!) = #[] := by simp
      rw [e2]
      rfl
    · rw [if_neg hz0, run_bind_ok (run_zero hi hz w), run_bind_ok (runPure _ _), run_bind_ok (run_newRow _ _ _), hrow]
      rfl
  have hpost := new_fresh h hfree (cs := zeros c.toNat z.cells.toList) 0 el (Builtin.zeroCells z.cells c.toNat) (flat_zero hfz _) (fun j v hv => by rw [← Array.getElem?_toList, zeroCells_eq _ _ (by omega)]; exact hv) (by rw [hsz, zeros_length, Array.length_toList, hzs]; exact Nat.le_refl _)
  exact ⟨_, _, _, hrun, .sl ⟨_, if_pos rfl, rfl, rfl, fun _ => rfl, .inl ⟨rfl, rfl, rfl⟩⟩, hpost, AStep.newOk h _⟩
theorem does_buildSlice (h : Rel W φ S w) {t : TypeId} {len : Nat} {ps ps' : Array (Nat × Value)} {v : Value} {S' : St} (h1 : ps.toList.map (·.1) = ps'.toList.map (·.1)) (h2 : LRel W.heap.size φ (ps.toList.map (·.2)) (ps'.toList.map (·.2)))
    (e : aBuildSlice P S t len ps = some (v, S')) (hf : S.c < S'.c → φ S.c = none) : Does P W φ S w (Instr.buildSlice t len ps') v S' := by
  unfold aBuildSlice at e
  split at e
  rotate_left
  · cases e
  rename_i el hu
  split at e
  rotate_left
  · cases e
  rename_i size z hs hz
  obtain ⟨i, z1, z2, z3⟩ := aZero_spec hz
  split at e
  rotate_left
  · cases e
  rename_i hcond
  split at e
  rotate_left
  · cases e
  rename_i cells hfill
  cases e
  have hfree := hf (Nat.lt_succ_self _)
  have hbase : RRel W.heap.size φ ((Array.range (len * size)).map (z.cells[· % z.cells.size]!)) ((Array.range (len * size)).map (z.cells[· % z.cells.size]!)) := by
    refine RRel.map _ fun x _ => ?_
    have hfc := flat_cells (W := W) (φ := φ) z3
    by_cases hx : x % z.cells.size < z.cells.size
    · rw [getElem!_pos z.cells _ hx]; exact hfc.pt _ hx hx
    · rw [getElem!_neg z.cells _ hx]; exact .bool _
  obtain ⟨cells', f1, f2⟩ := fill_rel _ _ _ _ _ _ hcond.2 h1 h2 hbase hfill
  have hrun : (Instr.buildSlice t len ps').run P w = .ok (.slice (some ⟨w.heap.size, 0, none⟩) len len) (w.alloc (.cells cells' el)) := by
    unfold Instr.buildSlice
    rw [run_bind_ok (run_und hu w)]
    dsimp only
    rw [run_bind_ok (run_size hs w)]
    rw [if_neg (by omega)]
    by_cases h0 : len * size = 0
    · have e0 : ∀ z' : Array Value, (Array.range (len * size)).map (fun x => z'[x % z'.size]!) = #[] := by
        intro z'
        rw [h0]
        simp
      rw [e0] at f1
      rw [if_pos h0, run_bind_ok (runPure _ _), e0, f1]
      dsimp only
      rw [run_bind_ok (run_newRow _ _ _)]
      rfl
    · rw [if_neg h0, run_bind_ok (run_zero z1 z2 w)]
      rw [run_bind_ok (runPure _ _), f1]
      dsimp only
      rw [run_bind_ok (run_newRow _ _ _)]
      rfl
  have hpost := new_fresh h hfree (cs := cells.toList) (cs' := cells'.toList) 0 el cells' f2 (fun j v hv => by rwa [Array.getElem?_toList] at hv) (by have := f2.size; simp; omega)
  exact ⟨_, _, _, hrun, .sl ⟨_, if_pos rfl, rfl, rfl, fun _ => rfl, .inl ⟨rfl, rfl, rfl⟩⟩, hpost, AStep.newOk h _⟩
theorem does_makeFunc (h : Rel W φ S w) (fn : Fn) {u u' v v' : Array Value} (hu : RRel W.heap.size φ u u') (hv : RRel W.heap.size φ v v') : Does P W φ S w (Instr.makeFunc fn u' v') (.func fn u v) S :=
  Does.same h rfl (VRel.func' fn hu hv)
end
end Go.Proofs.Yteofdikfdknpbaa.E
end
section
namespace Go.Proofs.Yteofdikfdknpbaa.E
open Go Go.RowKit
set_option linter.unusedVariables false
def CallerA (C : Caller) : Prop := ∀ f args S v S', Ok S → C f args S = some (v, S') → AStep S S'
def CallerOk (P : Program) (W : World) (C : Caller) : Prop :=
  ∀ f args S v S', C f args S = some (v, S') → ∀ (φ : Emb) (w : World) args', Rel W φ S w → RRel W.heap.size φ args args' → Free φ S.c S'.c →
    Calls P f args' w fun e w' => ∃ φ' v', e = .returned v' ∧ VRel W.heap.size φ' v v' ∧ Post W φ S w φ' S' w'
section
variable {P : Program} {W : World} {φ : Emb} {S : St} {w : World}
theorem put_astep {S S' : St} {a : Addr} {vs : List Value} (ok : Ok S) (e : S.put a vs = some S') : AStep S S' := by
  unfold St.put at e
  split at e
  · cases e; exact AStep.refl S
  split at e
  · rename_i hl
    split at e
    · rename_i cs k hh
      split at e
      · split at e
        · cases e; exact AStep.upd S _ _ ok hl (by rw [hh]; exact fun e => by cases e)
        · cases e
      · cases e
    · cases e
  · cases e
theorem append_astep {S S' : St} {ts : Array TypeId} {args : Array Value} {v : Value} (ok : Ok S) (e : aAppend P W S ts args = some (v, S')) : AStep S S' := by
  unfold aAppend at e
  split at e
  rotate_left
  · cases e
  rename_i st xt base sLen sCap x t0 t1 a0 a1
  split at e
  rotate_left
  · cases e
  split at e
  rotate_left
  · cases e
  split at e
  rotate_left
  · cases e
  split at e
  rotate_left
  · cases e
  split at e
  rotate_left
  · cases e
  split at e
  rotate_left
  · cases e
  cases base with
  | none =>
    dsimp only at e
    split at e
    · split at e
      · cases e; exact AStep.refl S
      · cases e; exact AStep.new S _ ok.1
    · cases e
  | some a =>
    dsimp only at e
    by_cases hZ : isZ W a = true
    · rw [if_pos hZ] at e
      split at e
      · split at e
        · cases e; exact AStep.refl S
        · cases e; exact AStep.new S _ ok.1
      · cases e
    rw [if_neg hZ] at e
    cases hfx : S.fx W a with
    | none => rw [hfx] at e; cases e
    | some kf =>
    rw [hfx] at e
    cases kf with
    | succ k =>
      dsimp only at e
      split at e
      · rename_i cs kk hcs
        split at e
        · rename_i hc
          cases e
          have hd : S.heap a.block ≠ .dead := by rw [hcs]; exact fun e => by cases e
          exact (AStep.upd S a.block .dead ok hc.2.2.1 hd).trans (AStep.new _ _ ok.1)
        · cases e
      · cases e
    | zero =>
      dsimp only at e
      split at e
      · split at e
        · cases e; exact put_astep ok ‹_›
        · cases e
      · split at e
        · cases e; exact AStep.new S _ ok.1
        · cases e
theorem justV_spec {x : Option Value} {v : Value} {S S' : St} (e : justV x S = some (v, S')) : x = some v ∧ S' = S := by
  unfold justV at e
  split at e
  · cases e; exact ⟨rfl, rfl⟩
  · cases e
theorem opStep_astep {C : Caller} (hC : CallerA C) {ρ : Operand → Value} {o : Oper} {S S' : St} {v : Value} (ok : Ok S) (e : opStep P W C ρ o S = some (v, S')) : AStep S S' := by
  have new : ∀ ob, AStep S (S.new ob) := fun ob => AStep.new S ob ok.1
  have jv : ∀ {x : Option Value}, justV x S = some (v, S') → AStep S S' := fun h => by rw [(justV_spec h).2]; exact AStep.refl S
  unfold opStep at e
  split at e
  · cases e; exact AStep.refl S
  · cases e; exact AStep.refl S
  · exact jv e
  · unfold aAlloc at e
    split at e
    · cases e; exact new _
    · cases e
  · unfold aBox at e
    split at e
    · cases e; exact new _
    · cases e
  · exact jv e
  · unfold aBuildSlice at e
    split at e
    · split at e
      · split at e
        · split at e
          · cases e; exact new _
          · cases e
        · cases e
      · cases e
    · cases e
  · exact jv e
  · split at e
    · rename_i S1 h1
      cases e
      unfold aStore at h1
      split at h1
      · split at h1
        · exact put_astep ok h1
        · cases h1
      · cases h1
    · cases e
  · exact jv e
  · exact jv e
  · exact jv e
  · unfold aConv at e
    split at e
    · split at e
      · split at e
        · split at e
          · split at e
            · cases e; exact AStep.refl S
            · cases e
          · cases e
        · cases e
      · cases e
    · split at e
      · split at e
        · split at e
          · cases e; exact new _
          · cases e
        · cases e
      · split at e
        · cases e; exact AStep.refl S
        · cases e
    · split at e
      · split at e
        · cases e; exact AStep.refl S
        · cases e
      · cases e
  · cases e; exact AStep.refl S
  · unfold aMakeSlice at e
    split at e
    · split at e
      · split at e
        · split at e
          · cases e; exact new _
          · cases e
        · cases e
      · cases e
    · cases e
  · exact jv e
  · exact jv e
  · exact jv e
  · exact jv e
  · exact jv e
  · exact jv e
  · split at e
    · unfold aBuiltin at e
      split at e
      · exact jv e
      · exact append_astep ok e
      · split at e
        · exact jv e
        · cases e
      · split at e
        · exact jv e
        · cases e
      · cases e
    · unfold aCall at e
      split at e
      · split at e
        · exact hC _ _ _ _ _ ok e
        · cases e
      · cases e
    · cases e
  · cases e
theorem run_callFunc {g : FuncId} {args : Array Value} (hok : callOk P g = true) : (callFunc g args).run P w = .ok (.enter g args) w := by
  unfold callOk at hok
  unfold callFunc
  cases hg : P.funcs[g]? with
  | none => rw [hg] at hok; cases hok
  | some fn =>
    rw [hg] at hok
    simp only [Bool.and_eq_true, bne_iff_ne, ne_eq] at hok
    rw [run_bind_ok (show program.run P w = .ok P w from rfl), hg]
    dsimp only
    rw [if_neg (by simpa using hok.2), if_neg (by have := hok.1; cases hb : fn.body <;> simp_all)]
    rfl
def OpRes (P : Program) (W : World) (φ : Emb) (S : St) (w : World) (o : Oper) (a : Act) (v : Value) (S' : St) : Prop :=
  ∀ (K : Act → World → Prop) (Q : Exit → Act → World → Prop), (∀ φ' v' w', VRel W.heap.size φ' v v' → Post W φ S w φ' S' w' → K (a.put o.dst v') w') → o.wp P a w K Q
theorem res_of {o : Oper} {a : Act} {v : Value} {S' : St} {m : Sem Value} (hx : (execOp a.eval o).run P w = (m >>= fun x => pure (.value x) : Sem Next).run P w) (d : Does P W φ S w m v S') : OpRes P W φ S w o a v S' := by
  obtain ⟨φ', v', w', r, hv, hp, _⟩ := d
  intro K Q hK
  unfold Oper.wp
  rw [hx, run_bind_ok r]
  exact hK φ' v' w' hv hp
theorem opt_rel {ρ ρ' : Operand → Value} (x : Option Operand) (hρ : ∀ y ∈ x.toArray, VRel W.heap.size φ (ρ y) (ρ' y)) : (∀ v, x.map ρ = some v → ∃ v', x.map ρ' = some v' ∧ VRel W.heap.size φ v v') ∧ (x.map ρ = none → x.map ρ' = none) := by
  cases x with
  | none => exact ⟨fun v h => (by cases h), fun _ => rfl⟩
  | some y => exact ⟨fun v h => (by cases h; exact ⟨_, rfl, hρ y (by simp [Option.toArray])⟩), fun h => (by cases h)⟩
theorem parts_rel {ρ ρ' : Operand → Value} (ps : Array (Nat × Operand)) (hρ : ∀ y ∈ (ps.toList.map (·.2)).toArray, VRel W.heap.size φ (ρ y) (ρ' y)) :
    (ps.map fun (i, x) => (i, ρ x)).toList.map (·.1) = (ps.map fun (i, x) => (i, ρ' x)).toList.map (·.1) ∧ LRel W.heap.size φ ((ps.map fun (i, x) => (i, ρ x)).toList.map (·.2)) ((ps.map fun (i, x) => (i, ρ' x)).toList.map (·.2)) := by
  simp only [Array.toList_map, List.map_map]
  exact ⟨rfl, LRel.map _ fun x hx => hρ x.2 (by simp only [List.mem_toArray, List.mem_map]; exact ⟨x, hx, rfl⟩)⟩
theorem opStep_sound {C : Caller} (hC : CallerOk P W C) {o : Oper} {A a : Act} {v : Value} {S' : St} (h : Rel W φ S w) (hρ : ∀ x ∈ o.op.operands, VRel W.heap.size φ (A.eval x) (a.eval x)) (hf : Free φ S.c S'.c)
    (hsrc : ∀ src dst x, o.op = .convert src dst x → ∃ u, P.underlying src = some u) (h2 : ∀ c, o.op = .call c → c.callee = .builtin .append → c.args.size = 2)
    (e : opStep P W C A.eval o S = some (v, S')) : OpRes P W φ S w o a v S' := by
  have hfc : S.c < S'.c → φ S.c = none := fun hlt => hf _ (Nat.le_refl _) hlt
  obtain ⟨dst, op, ty, pos, after, guard⟩ := o
  cases op
  case move x => cases e; exact res_of (m := pure (a.eval x)) rfl (Does.same h rfl (hρ x (by simp [Op.operands, Call.operands])))
  case assign x => cases e; exact res_of (m := pure (a.eval x)) rfl (Does.same h rfl (hρ x (by simp [Op.operands, Call.operands])))
  case pick c x y =>
    obtain ⟨e1, rfl⟩ := justV_spec e
    clear e
    have e := e1
    clear e1
    unfold aPick at e
    split at e
    · rename_i t ht
      cases e
      have := hρ c (by simp [Op.operands, Call.operands])
      rw [ht] at this
      have hb : a.eval c = .bool t := by generalize a.eval c = q at this; cases this; rfl
      refine res_of (m := pure (if t then a.eval x else a.eval y)) ?_ (Does.same h rfl (by cases t; exact hρ y (by simp [Op.operands]); exact hρ x (by simp [Op.operands])))
      unfold execOp
      dsimp only
      rw [hb, run_bind_ok (show (asBool (.bool t)).run P w = .ok t w from rfl)]
      rfl
    · cases e
  case alloc el =>
    simp only [opStep, aAlloc] at e
    split at e
    · rename_i z hz
      cases e
      exact res_of (m := Instr.alloc el true (.tuple #[])) rfl (does_alloc h (hfc (Nat.lt_succ_self _)) hz)
    · cases e
  case box el x =>
    simp only [opStep, aBox] at e
    split at e
    rotate_left
    · cases e
    rename_i hj
    cases e
    exact res_of (m := Instr.box el (a.eval x)) rfl (does_box h (hfc (Nat.lt_succ_self _)) el hj (hρ x (by simp [Op.operands, Call.operands])))
  case build t parts =>
    obtain ⟨e1, rfl⟩ := justV_spec e
    obtain ⟨p1, p2⟩ := parts_rel parts hρ
    exact res_of rfl (does_build h p1 p2 e1)
  case buildSlice t len parts =>
    obtain ⟨p1, p2⟩ := parts_rel parts hρ
    exact res_of rfl (does_buildSlice h p1 p2 e hfc)
  case load t x =>
    obtain ⟨e1, rfl⟩ := justV_spec e
    exact res_of rfl (does_load h (hρ x (by simp [Op.operands, Call.operands])) e1)
  case store t x y =>
    simp only [opStep] at e
    split at e
    · rename_i S1 h1
      cases e
      obtain ⟨w', r, p, _⟩ := does_store h (hρ x (by simp [Op.operands, Call.operands])) (hρ y (by simp [Op.operands, Call.operands])) h1
      intro K Q hK
      unfold Oper.wp execOp
      dsimp only
      rw [run_bind_ok r]
      exact hK φ undef w' undef_rel p
    · cases e
  case nilCheck x =>
    have hx := hρ x (by simp [Op.operands, Call.operands])
    obtain ⟨e1, rfl⟩ := justV_spec e
    clear e
    have e := e1
    clear e1
    unfold aNil at e
    split at e
    · rename_i ad had
      cases e
      rw [had] at hx
      cases hq : a.eval x <;> rw [hq] at hx <;> cases hx
      refine res_of (m := pure (a.eval x)) ?_ (Does.same h rfl (by rw [hq]; exact .ptr ‹_›))
      unfold execOp
      dsimp only
      rw [hq]
      rfl
    · rename_i f u v0 hfn
      cases e
      rw [hfn] at hx
      cases hq : a.eval x <;> rw [hq] at hx <;> cases hx
      refine res_of (m := pure (a.eval x)) ?_ (Does.same h rfl (by rw [hq]; exact .func _ ‹_› ‹_› ‹_› ‹_›))
      unfold execOp
      dsimp only
      rw [hq]
      rfl
    · cases e
  case binOp op t x y yt =>
    obtain ⟨e1, rfl⟩ := justV_spec e
    exact res_of rfl (does_bin (x := x) (y := y) h (hρ x (by simp [Op.operands, Call.operands])) (hρ y (by simp [Op.operands, Call.operands])) e1)
  case unOp op t x =>
    obtain ⟨e1, rfl⟩ := justV_spec e
    exact res_of rfl (does_un h (hρ x (by simp [Op.operands, Call.operands])) e1)
  case convert src dst x => exact res_of rfl (does_conv h (hρ x (by simp [Op.operands, Call.operands])) (hsrc _ _ _ rfl) e hfc)
  case makeFunc fn first captured =>
    cases e
    exact res_of rfl (does_makeFunc h fn (RRel.map _ fun x hx => hρ x (by simp only [Op.operands, Array.mem_append]; exact .inl hx)) (RRel.map _ fun x hx => hρ x (by simp only [Op.operands, Array.mem_append]; exact .inr hx)))
  case makeSlice t l c => exact res_of rfl (does_makeSlice h (hρ l (by simp [Op.operands, Call.operands])) (hρ c (by simp [Op.operands, Call.operands])) e hfc)
  case slice t x lo hi mx =>
    obtain ⟨e1, rfl⟩ := justV_spec e
    obtain ⟨l1, l2⟩ := opt_rel lo (fun y hy => hρ y (by simp only [Op.operands, Array.mem_append]; exact .inl (.inl (.inr hy))))
    obtain ⟨h1, h2⟩ := opt_rel hi (fun y hy => hρ y (by simp only [Op.operands, Array.mem_append]; exact .inl (.inr hy)))
    obtain ⟨m1, m2⟩ := opt_rel mx (fun y hy => hρ y (by simp only [Op.operands, Array.mem_append]; exact .inr hy))
    exact res_of rfl (does_slice h (hρ x (by simp [Op.operands, Call.operands])) l1 l2 h1 h2 m1 m2 e1)
  case fieldAddr s x f =>
    obtain ⟨e1, rfl⟩ := justV_spec e
    exact res_of rfl (does_fieldAddr h (hρ x (by simp [Op.operands, Call.operands])) e1)
  case field t x f =>
    obtain ⟨e1, rfl⟩ := justV_spec e
    exact res_of rfl (does_field h (hρ x (by simp [Op.operands, Call.operands])) e1)
  case indexAddr t x i =>
    obtain ⟨e1, rfl⟩ := justV_spec e
    exact res_of rfl (does_indexAddr h (hρ x (by simp [Op.operands, Call.operands])) (hρ i (by simp [Op.operands, Call.operands])) e1)
  case index t x i =>
    obtain ⟨e1, rfl⟩ := justV_spec e
    exact res_of rfl (does_index h (hρ x (by simp [Op.operands, Call.operands])) (hρ i (by simp [Op.operands, Call.operands])) e1)
  case extract t i =>
    obtain ⟨e1, rfl⟩ := justV_spec e
    exact res_of rfl (does_extract h (hρ t (by simp [Op.operands, Call.operands])) e1)
  case call c =>
    obtain ⟨cal, cargs, cts⟩ := c
    have hargs : RRel W.heap.size φ (cargs.map A.eval) (cargs.map a.eval) := RRel.map _ fun x hx => hρ x (by simp only [Op.operands, Call.operands, Array.mem_append]; exact .inr hx)
    cases cal with
    | invoke r m => cases e
    | builtin b =>
      have run : ∀ m : Sem Value, (∀ cs, builtin b cts ty cs (cargs.map a.eval) = (do pure (.value (← m)) : Sem Next)) → (execOp a.eval { dst, op := .call { callee := .builtin b, args := cargs, argTypes := cts }, type := ty, pos, after, guard }).run P w = (m >>= fun x => pure (.value x) : Sem Next).run P w := by
        intro m hm
        unfold execOp
        dsimp only
        unfold resolve
        dsimp only
        rw [run_bind_ok (runPure _ _)]
        unfold invoke
        dsimp only
        rw [hm]
      cases b <;> first | (simp only [opStep, aBuiltin] at e; cases e; done) | skip
      case len =>
        obtain ⟨e1, rfl⟩ := justV_spec e
        exact res_of (run _ fun _ => rfl) (does_len h hargs e1)
      case append => exact res_of (run _ fun _ => rfl) (does_append h hargs (by rw [Array.size_map]; exact h2 _ rfl rfl) e hfc)
      case max =>
        simp only [opStep, aBuiltin] at e
        split at e
        · rename_i hfl
          obtain ⟨e1, rfl⟩ := justV_spec e
          refine res_of (run (Builtin.max_ cts ty (cargs.map a.eval)) fun _ => rfl) ?_
          rw [all_flat_eq hfl hargs]
          exact Does.stillF h e1
        · cases e
      case min =>
        simp only [opStep, aBuiltin] at e
        split at e
        · rename_i hfl
          obtain ⟨e1, rfl⟩ := justV_spec e
          refine res_of (run (Builtin.min_ cts ty (cargs.map a.eval)) fun _ => rfl) ?_
          rw [all_flat_eq hfl hargs]
          exact Does.stillF h e1
        · cases e
    | value f =>
      simp only [opStep] at e
      unfold aCall at e
      split at e
      · rename_i g u vv hfn
        split at e
        · rename_i hok
          have hx := hρ f (by simp [Op.operands, Call.operands])
          rw [hfn] at hx
          cases hq : a.eval f <;> rw [hq] at hx <;> cases hx
          rename_i fn' cap' s1 s2 s3 s4
          intro K Q hK
          unfold Oper.wp execOp
          dsimp only
          unfold resolve
          dsimp only
          rw [hq]
          unfold Deferred.ofValue
          dsimp only
          rw [run_bind_ok (runPure _ _)]
          unfold invoke
          dsimp only
          rw [run_callFunc hok]
          refine (hC g _ S v S' e φ w (fn' ++ cargs.map a.eval ++ cap') h ((RRel.append (RRel.append (RRel.of_pt s1 s2) hargs) (RRel.of_pt s3 s4))) hf).mono ?_
          rintro en w' ⟨φ', v', rfl, hv, hp⟩
          exact hK φ' v' w' hv hp
        · cases e
      · cases e
  all_goals (cases e)
end
end Go.Proofs.Yteofdikfdknpbaa.E
end
section
namespace Go.Proofs.Yteofdikfdknpbaa.E
open Go Go.RowKit
set_option linter.unusedVariables false
def ActRel (N : Nat) (φ : Emb) (A a : Act) : Prop := RRel N φ A.tmps a.tmps ∧ A.defers = a.defers
section
variable {P : Program} {W : World} {φ : Emb} {S : St} {w : World}
theorem ActRel.mono {N : Nat} {φ φ' : Emb} (h : ELe φ φ') {A a : Act} (k : ActRel N φ A a) : ActRel N φ' A a := ⟨k.1.mono h, k.2⟩
theorem ActRel.put {N : Nat} {A a : Act} (k : ActRel N φ A a) (d : Option Tmp) {v v' : Value} (h : VRel N φ v v') : ActRel N φ (A.put d v) (a.put d v') := by
  cases d with
  | none => exact k
  | some d => exact ⟨k.1.set d h, k.2⟩
theorem eval_rel (hG : P.globals.size ≤ W.heap.size) (h : Rel W φ S w) {A a : Act} {x : Operand} (hx : operOk P x = true) (ht : ∀ t, x = .tmp t → VRel W.heap.size φ (A.tmps.getD t undef) (a.tmps.getD t undef)) : VRel W.heap.size φ (A.eval x) (a.eval x) := by
  cases x with
  | tmp t => exact ht t rfl
  | const v => exact flat_refl hx
  | global g =>
    have hg : g < P.globals.size := of_decide_eq_true hx
    exact .ptr ⟨_, h.base g (by omega), rfl, rfl, rfl, fun hh => absurd hh (by dsimp only; omega)⟩
  | func f => exact .func _ rfl (fun i h => absurd h (by simp)) rfl (fun i h => absurd h (by simp))
theorem opOk_src {o : Oper} (h : opOk P o = true) : (∀ src dst x, o.op = .convert src dst x → ∃ u, P.underlying src = some u) ∧ (∀ c, o.op = .call c → c.callee = .builtin .append → c.args.size = 2) := by
  unfold opOk at h
  simp only [Bool.and_eq_true] at h
  refine ⟨fun src dst x e => ?_, fun c e e2 => ?_⟩
  · rw [e] at h
    exact Option.isSome_iff_exists.1 h.2
  · obtain ⟨cal, args, ts⟩ := c
    dsimp only at e2
    subst e2
    rw [e] at h
    simpa using h.2
theorem yielded_rel {N : Nat} (ops : Array Oper) {t t' : Array Value} (j : Nat) (hj : ∀ d v, ((ops[j]?).bind (·.dst)) = some d → t[d]? = some v → notJ v = true) (h : ∀ d, ((ops[j]?).bind (·.dst)) = some d → t.size = t'.size ∧ (∀ v, t[d]? = some v → ∃ v', t'[d]? = some v' ∧ VRel N φ v v')) : yielded ops t j = yielded ops t' j := by
  unfold yielded
  cases hd : (ops[j]?).bind (·.dst) with
  | none => rfl
  | some d =>
    obtain ⟨h1, h2⟩ := h d hd
    rw [Option.bind_some, Option.bind_some]
    cases hv : t[d]? with
    | none =>
      have : t'[d]? = none := by
        rw [Array.getElem?_eq_none_iff] at hv ⊢
        omega
      rw [this]
    | some v =>
      obtain ⟨v', a, b⟩ := h2 v hv
      rw [a]
      have hjv := hj d v hd hv
      cases b <;> first | rfl | cases hjv
theorem free_step {S1 S2 : St} {φ' : Emb} {w' : World} (hc : S.c ≤ S1.c) (hf : Free φ S.c S2.c) (p : Post W φ S w φ' S1 w') : Free φ' S1.c S2.c := by
  intro i h1 h2
  cases hi : φ' i with
  | none => rfl
  | some L =>
    rcases p.dom i L hi with h | h
    · rw [hf i (by omega) h2] at h; cases h
    · omega
theorem free_left {S1 S2 : St} (hc : S1.c ≤ S2.c) (hf : Free φ S.c S2.c) : Free φ S.c S1.c := fun i h1 h2 => hf i h1 (by omega)
theorem opsC_cons (C : Caller) (ops : Array Oper) (x : Oper × Bool) (l : List (Oper × Bool)) (A : Act) (S : St) : opsC P W C ops (x :: l) A S = (stepC P W C ops x (A, S)).bind fun r => opsC P W C ops l r.1 r.2 := by
  obtain ⟨o, q⟩ := x
  unfold stepC
  simp only [opsC]
  split
  · rfl
  split
  · split
    · rename_i h; first | rfl | (rw [h]; rfl)
    · rename_i h; first | rfl | (rw [h]; rfl)
  · rfl
theorem unlock_spec {l : Nat} {x : Option (Value × St)} {v : Value} {S : St} (h : unlock l x = some (v, S)) : ∃ S1, x = some (v, S1) ∧ S = S1.relock l := by
  unfold unlock at h
  split at h
  · cases h; exact ⟨_, rfl, rfl⟩
  · cases h
theorem relock_ok {S : St} (ok : Ok S) : Ok (S.relock S.c) := ⟨Nat.le_refl _, ok.2⟩
theorem stepC_astep {C : Caller} (hC : CallerA C) {ops : Array Oper} {x : Oper × Bool} {A A' : Act} {S S' : St} (ok : Ok S) (e : stepC P W C ops x (A, S) = some (A', S')) : AStep S S' ∧ (x.2 = true → ∀ i, i < S.c → S'.heap i = S.heap i) := by
  unfold stepC at e
  split at e
  · cases e
  split at e
  · split at e
    · rename_i v S1 h1
      cases e
      by_cases hq : x.2 = true
      · rw [if_pos hq] at h1
        obtain ⟨S2, h2, rfl⟩ := unlock_spec h1
        have a := opStep_astep hC (relock_ok ok) h2
        exact ⟨⟨a.c, rfl, fun i hi => a.keep i (Nat.lt_of_lt_of_le hi ok.1), a.dead, a.deadC⟩, fun _ i hi => a.keep i hi⟩
      · rw [if_neg hq] at h1
        exact ⟨opStep_astep hC ok h1, fun h => absurd h hq⟩
    · cases e
  · cases e; exact ⟨AStep.refl S, fun _ _ _ => rfl⟩
theorem opsC_astep {C : Caller} (hC : CallerA C) {ops : Array Oper} : ∀ {l : List (Oper × Bool)} {A A' : Act} {S S' : St}, Ok S → opsC P W C ops l A S = some (A', S') → AStep S S'
  | [], A, A', S, S', ok, e => by simp only [opsC, Option.some.injEq, Prod.mk.injEq] at e; obtain ⟨rfl, rfl⟩ := e; exact AStep.refl S
  | x :: l, A, A', S, S', ok, e => by
    rw [opsC_cons] at e
    cases h : stepC P W C ops x (A, S) with
    | none => rw [h] at e; cases e
    | some r =>
      rw [h] at e
      have a := (stepC_astep hC (A' := r.1) (S' := r.2) ok h).1
      exact a.trans (opsC_astep hC (a.ok ok) e)
theorem act_getD {N : Nat} {A a : Act} (h : ActRel N φ A a) (t : Tmp) : VRel N φ (A.tmps.getD t undef) (a.tmps.getD t undef) := h.1.getD t
theorem guard_notJ {o : Oper} {ops : Array Oper} {t : Array Value} (h : guardOk o ops t = true) {g : Nat} {want : Bool} (hg : o.guard = some (g, want)) : ∀ d v, ((ops[g]?).bind (·.dst)) = some d → t[d]? = some v → notJ v = true := by
  intro d v hd hv
  unfold guardOk at h
  rw [hg] at h
  dsimp only at h
  rw [hd, Option.bind_some, hv] at h
  exact h
theorem act_wanted {N : Nat} {A a : Act} (h : ActRel N φ A a) {o : Oper} {ops : Array Oper} (hg : guardOk o ops A.tmps = true) : Region.wanted o (yielded ops A.tmps) = Region.wanted o (yielded ops a.tmps) := by
  unfold Region.wanted
  cases hgu : o.guard with
  | none => rfl
  | some g =>
    obtain ⟨g, want⟩ := g
    dsimp only
    rw [yielded_rel ops g (guard_notJ hg hgu) fun d _ => ⟨h.1.size, fun v hv => h.1.getElem? hv⟩]
theorem act_ops (hG : P.globals.size ≤ W.heap.size) (h : Rel W φ S w) {A a : Act} (k : ActRel W.heap.size φ A a) {o : Oper} (ho : opOk P o = true) : ∀ x ∈ o.op.operands, VRel W.heap.size φ (A.eval x) (a.eval x) := by
  intro x hx
  unfold opOk at ho
  simp only [Bool.and_eq_true, Array.all_eq_true_iff_forall_mem] at ho
  exact eval_rel hG h (ho.1 x hx) fun t _ => act_getD k t
theorem seq_sound {C : Caller} (hA : CallerA C) (hC : CallerOk P W C) (hG : P.globals.size ≤ W.heap.size) {ops : Array Oper} (hops : ∀ o ∈ ops.toList, opOk P o = true) {Q : Exit → Act → World → Prop} {A' : Act} {S' : St} :
    ∀ (l : List (Oper × Bool)) (k : Nat) (φ : Emb) (A a : Act) (S : St) (w : World), l.map (·.1) = ops.toList.drop k → (∀ x ∈ l, x.2 = false) → opsC P W C ops l A S = some (A', S') → Rel W φ S w → ActRel W.heap.size φ A a → Free φ S.c S'.c →
    (∀ φ' a' w', ActRel W.heap.size φ' A' a' → Post W φ S w φ' S' w' → Q .normal a' w') → wpOps P ops Q (List.range' k l.length) a w
  | [], k, φ, A, a, S, w, hl, hq, e, h, ha, hf, hQ => by
    simp only [opsC, Option.some.injEq, Prod.mk.injEq] at e
    obtain ⟨rfl, rfl⟩ := e
    exact hQ φ a w ha (Post.refl h)
  | x :: l, k, φ, A, a, S, w, hl, hq, e, h, ha, hf, hQ => by
    have hk : ops[k]? = some x.1 := by
      have : (ops.toList.drop k)[0]? = some x.1 := by rw [← hl]; rfl
      rw [List.getElem?_drop, Array.getElem?_toList] at this
      simpa using this
    have hl' : l.map (·.1) = ops.toList.drop (k + 1) := by
      have : (ops.toList.drop k).tail = l.map (·.1) := by rw [← hl]; rfl
      rw [← this, List.tail_drop]
    have hxo : opOk P x.1 = true := hops _ (Array.mem_toList_iff.2 (Array.mem_of_getElem? hk))
    have hx2 := hq x (by simp)
    rw [opsC_cons] at e
    cases hs : stepC P W C ops x (A, S) with
    | none => rw [hs] at e; cases e
    | some r =>
      obtain ⟨A1, S1⟩ := r
      rw [hs] at e
      have st := (stepC_astep hA h.ok hs).1
      have st2 := opsC_astep hA (st.ok h.ok) e
      rw [List.length_cons, List.range'_succ]
      simp only [wpOps, hk]
      unfold stepC at hs
      dsimp only at hs
      split at hs
      · cases hs
      rename_i hgf
      rw [act_wanted ha (by simpa using hgf)] at hs
      by_cases hw : Region.wanted x.1 (yielded ops a.tmps) = true
      · rw [if_pos hw] at hs ⊢
        refine .inl ?_
        rw [hx2, if_neg Bool.false_ne_true] at hs
        split at hs
        · rename_i v S2 h2
          cases hs
          obtain ⟨c1, c2⟩ := opOk_src hxo
          refine opStep_sound hC h (act_ops hG h ha hxo) (free_left st2.c hf) c1 c2 h2 _ _ fun φ' v' w' hv hp => ?_
          exact seq_sound hA hC hG hops l (k + 1) φ' _ _ S1 w' hl' (fun y hy => hq y (by simp [hy])) e hp.rel ((ha.mono hp.ext).put _ hv) (free_step st.c hf hp) fun φ2 a2 w2 ha2 hp2 => hQ φ2 a2 w2 ha2 (hp.trans st.c st2.c hp2)
        · cases hs
      · rw [if_neg hw] at hs ⊢
        cases hs
        exact seq_sound hA hC hG hops l (k + 1) φ _ _ S w hl' (fun y hy => hq y (by simp [hy])) e h (ha.put _ undef_rel) hf hQ
end
end Go.Proofs.Yteofdikfdknpbaa.E
end
section
namespace Go.Proofs.Yteofdikfdknpbaa.E
open Go Go.RowKit
set_option linter.unusedVariables false
theorem fold_bit (acc : List Nat) : ∀ (l : List Edge) (s j : Nat), (l.foldl (fun s e => if Region.binds .any e then s ||| 2 ^ e.on ||| acc.getD e.on 0 else s) s).testBit j = true →
    s.testBit j = true ∨ ∃ e ∈ l, Region.binds .any e = true ∧ (j = e.on ∨ (acc.getD e.on 0).testBit j = true)
  | [], s, j, h => .inl h
  | e :: l, s, j, h => by
    simp only [List.foldl_cons] at h
    rcases fold_bit acc l _ j h with h | ⟨e', he, hb, hj⟩
    · split at h
      · rename_i hb
        simp only [Nat.testBit_or, Bool.or_eq_true] at h
        rcases h with (h | h) | h
        · exact .inl h
        · rw [Nat.testBit_two_pow] at h
          exact .inr ⟨e, by simp, hb, .inl (by simpa using (of_decide_eq_true h).symm)⟩
        · exact .inr ⟨e, by simp, hb, .inr h⟩
      · exact .inl h
    · exact .inr ⟨e', by simp [he], hb, hj⟩
def befOf (o : Oper) (acc : List Nat) : Nat := o.after.toList.foldl (fun s e => if Region.binds .any e then s ||| 2 ^ e.on ||| acc.getD e.on 0 else s) 0
theorem befGo_cons (o : Oper) (l : List Oper) (acc : List Nat) : befGo (o :: l) acc = befGo l (acc ++ [befOf o acc]) := rfl
theorem befGo_take : ∀ (l : List Oper) (acc : List Nat), (befGo l acc).take acc.length = acc
  | [], acc => by simp [befGo]
  | o :: l, acc => by
    rw [befGo_cons]
    have := befGo_take l (acc ++ [befOf o acc])
    have h2 := congrArg (List.take acc.length) this
    rw [List.take_take, List.length_append, Nat.min_eq_left (by omega), List.take_left' rfl] at h2
    exact h2
theorem befGo_get : ∀ (l : List Oper) (acc : List Nat) (k : Nat) (o : Oper), l[k]? = some o → (befGo l acc)[acc.length + k]? = some (befOf o ((befGo l acc).take (acc.length + k)))
  | [], acc, k, o, h => by simp at h
  | o' :: l, acc, 0, o, h => by
    simp at h
    subst h
    rw [Nat.add_zero, befGo_take]
    rw [befGo_cons]
    have := befGo_take l (acc ++ [befOf o' acc])
    have h2 : ((befGo l (acc ++ [befOf o' acc])).take (acc ++ [befOf o' acc]).length)[acc.length]? = some (befOf o' acc) := by rw [this]; simp
    rw [List.getElem?_take, List.length_append] at h2
    simpa using h2
  | o' :: l, acc, k + 1, o, h => by
    have := befGo_get l (acc ++ [befOf o' acc]) k o (by simpa using h)
    rw [List.length_append, List.length_singleton, show acc.length + 1 + k = acc.length + (k + 1) by omega] at this
    rw [befGo_cons]
    exact this
section
variable {P : Program} {W : World} {C : Caller} {ops : Array Oper}
def B (ops : Array Oper) (k : Nat) : Nat := (bef ops.toList).getD k 0
theorem bef_spec (hback : ∀ (k : Nat) (o : Oper), ops[k]? = some o → ∀ e ∈ o.after, Region.binds .any e = true → e.on < k) {k j : Nat} {o : Oper} (ho : ops[k]? = some o) (h : (B ops k).testBit j = true) :
    ∃ e ∈ o.after, Region.binds .any e = true ∧ (j = e.on ∨ (B ops e.on).testBit j = true) := by
  have hg := befGo_get ops.toList [] k o (by rw [Array.getElem?_toList]; exact ho)
  simp only [List.length_nil, Nat.zero_add] at hg
  unfold B bef at h
  rw [List.getD_eq_getElem?_getD, hg, Option.getD_some] at h
  rcases fold_bit _ _ _ _ h with h | ⟨e, he, hb, hj⟩
  · simp at h
  · have he := Array.mem_toList_iff.1 he
    refine ⟨e, he, hb, hj.imp id fun hj => ?_⟩
    have hlt := hback k o ho e he hb
    unfold B bef
    rw [List.getD_eq_getElem?_getD] at hj ⊢
    rw [List.getElem?_take, if_pos hlt] at hj
    exact hj
theorem regionOk_spec (h : regionOk ops = true) : (∀ (k : Nat) (o : Oper), ops[k]? = some o → (isSelect o.op = false) ∧ ∀ e ∈ o.after, Region.binds .any e = true → e.on < k) ∧
    (∀ (i j : Nat) (p o : Oper), i < j → ops[i]? = some p → ops[j]? = some o → clash ops p o = true → (B ops j).testBit i = true) := by
  unfold regionOk at h
  simp only [Bool.and_eq_true, List.all_eq_true] at h
  obtain ⟨h1, h2⟩ := h
  have mem : ∀ (k : Nat) (o : Oper), ops[k]? = some o → (o, k) ∈ ops.toList.zipIdx := by
    intro k o ho
    rw [List.mem_zipIdx_iff_getElem?, Array.getElem?_toList]
    exact ho
  refine ⟨fun k o ho => ?_, fun i j p o hij hp ho hc => ?_⟩
  · have := h1 _ (mem k o ho)
    simp only [Bool.not_eq_true'] at this
    refine ⟨this.1, fun e he hb => ?_⟩
    have := this.2 e (Array.mem_toList_iff.2 he)
    simpa [hb] using this
  · have := h2 _ (mem j o ho) _ (mem i p hp)
    simpa [hij, hc, B] using this
theorem inOrder_spec {k : Nat} (h : inOrder ops k = true) {j : Nat} {o : Oper} (ho : ops[j]? = some o) (hp : pureOp o.op = false) (hne : j ≠ k) : (j < k → (B ops k).testBit j = true) ∧ (k < j → (B ops j).testBit k = true) := by
  unfold inOrder at h
  simp only [List.all_eq_true] at h
  have := h (o, j) (by rw [List.mem_zipIdx_iff_getElem?, Array.getElem?_toList]; exact ho)
  simp only [hp, Bool.false_or, Bool.or_eq_true, beq_iff_eq] at this
  have := this.resolve_left (fun e => hne e.symm)
  refine ⟨fun hlt => ?_, fun hlt => ?_⟩
  · rw [if_pos hlt] at this; exact this
  · rw [if_neg (by omega)] at this; exact this
theorem pure_same {ρ : Operand → Value} {o : Oper} {S S' : St} {v : Value} (hp : pureOp o.op = true) (e : opStep P W C ρ o S = some (v, S')) : S' = S ∧ ∀ S1, opStep P W C ρ o S1 = some (v, S1) := by
  obtain ⟨dst, op, ty, pos, after, guard⟩ := o
  have jv : ∀ {x : Option Value}, justV x S = some (v, S') → S' = S ∧ ∀ S1, justV x S1 = some (v, S1) := fun h => by
    obtain ⟨a, b⟩ := justV_spec h
    subst a
    exact ⟨b, fun _ => rfl⟩
  cases op <;> first | (simp [pureOp] at hp; done) | exact jv e | (simp only [opStep] at e ⊢; cases e; exact ⟨rfl, fun _ => rfl⟩) | skip
  case call c =>
    obtain ⟨cal, args, ts⟩ := c
    cases cal with
    | value f => simp [pureOp] at hp
    | invoke r m => simp [pureOp] at hp
    | builtin b =>
      cases b <;> first | (simp [pureOp] at hp; done) | skip
      all_goals
        simp only [opStep, aBuiltin] at e ⊢
        split at e
        · rename_i hc
          obtain ⟨a, b⟩ := jv e
          exact ⟨a, fun S1 => by first | (rw [if_pos hc]; exact b S1) | exact b S1⟩
        · cases e
def tr (P : Program) (W : World) (C : Caller) (ops : Array Oper) (l : List (Oper × Bool)) (x0 : Act × St) : Nat → Act × St
  | 0 => x0
  | k + 1 => match l[k]? with | none => tr P W C ops l x0 k | some x => (stepC P W C ops x (tr P W C ops l x0 k)).getD (tr P W C ops l x0 k)
theorem tr_ok {l : List (Oper × Bool)} {x0 r : Act × St} (e : opsC P W C ops l x0.1 x0.2 = some r) :
    (∀ (k : Nat) (x : Oper × Bool), l[k]? = some x → stepC P W C ops x (tr P W C ops l x0 k) = some (tr P W C ops l x0 (k + 1))) ∧ tr P W C ops l x0 l.length = r := by
  have key : ∀ k, k ≤ l.length → opsC P W C ops (l.drop k) (tr P W C ops l x0 k).1 (tr P W C ops l x0 k).2 = some r ∧ (∀ (j : Nat) (x : Oper × Bool), j < k → l[j]? = some x → stepC P W C ops x (tr P W C ops l x0 j) = some (tr P W C ops l x0 (j + 1))) := by
    intro k
    induction k with
    | zero => intro _; exact ⟨by rw [List.drop_zero]; exact e, fun j x hj => by omega⟩
    | succ k ih =>
      intro hk
      obtain ⟨ih1, ih2⟩ := ih (by omega)
      have hx : l[k]? = some (l[k]'(by omega)) := List.getElem?_eq_getElem (by omega)
      rw [List.drop_eq_getElem_cons (by omega : k < l.length), opsC_cons] at ih1
      cases hs : stepC P W C ops (l[k]'(by omega)) (tr P W C ops l x0 k) with
      | none =>
        have : stepC P W C ops (l[k]'(by omega)) ((tr P W C ops l x0 k).1, (tr P W C ops l x0 k).2) = none := hs
        rw [this] at ih1; cases ih1
      | some q =>
        have h1 : stepC P W C ops (l[k]'(by omega)) ((tr P W C ops l x0 k).1, (tr P W C ops l x0 k).2) = some q := hs
        rw [h1] at ih1
        have hq : tr P W C ops l x0 (k + 1) = q := by
          simp only [tr, hx, hs]
          rfl
        refine ⟨by rw [hq]; exact ih1, fun j x hj hjx => ?_⟩
        by_cases hjk : j = k
        · subst hjk
          rw [hx] at hjx
          cases hjx
          rw [hs, hq]
        · exact ih2 j x (by omega) hjx
  refine ⟨fun k x hx => (key l.length (Nat.le_refl _)).2 k x (List.getElem?_eq_some_iff.1 hx).1 hx, ?_⟩
  have := (key l.length (Nat.le_refl _)).1
  rw [List.drop_length] at this
  simp only [opsC, Option.some.injEq] at this
  exact this
end
end Go.Proofs.Yteofdikfdknpbaa.E
end
section
namespace Go.Proofs.Yteofdikfdknpbaa.E
open Go Go.RowKit
set_option linter.unusedVariables false
section
variable {P : Program} {W : World} {C : Caller} {ops : Array Oper} {A : Act} {S : St} {φ0 : Emb} {w0 : World}
def Tm (listed : Array Bool) (k : Nat) : Prop := listed.getD k false = true
theorem tm_set {listed : Array Bool} {i k : Nat} (hi : i < listed.size) : Tm (listed.setIfInBounds i true) k ↔ k = i ∨ Tm listed k := by
  unfold Tm
  by_cases h : i = k
  · subst h
    simp [hi]
  · rw [getD_set_ne false h]
    exact ⟨.inr, fun h2 => h2.resolve_left (fun e => h e.symm)⟩
def flagsX (ops : Array Oper) (fl ord : Nat → Bool) : List (Oper × Bool) :=
  ops.toList.zipIdx.map fun (o, i) => (o, !pureOp o.op && !fl i && !ord i)
abbrev T (P : Program) (W : World) (C : Caller) (ops : Array Oper) (fl ord : Nat → Bool) (A : Act) (S : St) (k : Nat) : Act × St := tr P W C ops (flagsX ops fl ord) (A, S) k
def Loud (ops : Array Oper) (fl ord : Nat → Bool) (k : Nat) : Prop := ∃ o, ops[k]? = some o ∧ pureOp o.op = false ∧ fl k = false ∧ ord k = true
structure Row (P : Program) (W : World) (C : Caller) (ops : Array Oper) (fl ord : Nat → Bool) (A : Act) (S : St) (A' : Act) (S' : St) : Prop where
  hA : CallerA C
  hC : CallerOk P W C
  hG : P.globals.size ≤ W.heap.size
  hops : ∀ o ∈ ops.toList, opOk P o = true
  hreg : regionOk ops = true
  ok : Ok S
  run : opsC P W C ops (flagsX ops fl ord) A S = some (A', S')
  hfl : ∀ (k : Nat) (o : Oper), ops[k]? = some o → fl k = true → isLoad o.op = true
  hord : ∀ k, ord k = true → ∀ (j : Nat) (o : Oper), ops[j]? = some o → pureOp o.op = false → fl j = false → j ≠ k → (j < k → (B ops k).testBit j = true) ∧ (k < j → (B ops j).testBit k = true)
  flo1 : ∀ (m i : Nat) (o : Oper), m < i → ops[i]? = some o → fl i = true → Region.wanted o (yielded ops (T P W C ops fl ord A S i).1.tmps) = true → Loud ops fl ord m → (B ops i).testBit m = false →
    loadOf P W (T P W C ops fl ord A S i).1.eval o (T P W C ops fl ord A S m).2 = loadOf P W (T P W C ops fl ord A S i).1.eval o (T P W C ops fl ord A S i).2
  flo2 : ∀ (i m : Nat) (o : Oper), i < m → m < ops.size → ops[i]? = some o → fl i = true → Loud ops fl ord m → (B ops m).testBit i = false →
    loadOf P W (T P W C ops fl ord A S m).1.eval o (T P W C ops fl ord A S (m + 1)).2 = loadOf P W (T P W C ops fl ord A S m).1.eval o (T P W C ops fl ord A S m).2
  fresh : ∀ (i m : Nat) (o p : Oper), i ≤ m → ops[i]? = some o → fl i = true → ops[m]? = some p → ∀ d, p.dst = some d → d ∉ o.looksAt ops
theorem flagsX_get {fl ord : Nat → Bool} (k : Nat) : (flagsX ops fl ord)[k]? = (ops[k]?).map fun o => (o, !pureOp o.op && !fl k && !ord k) := by
  unfold flagsX
  rw [List.getElem?_map, List.getElem?_zipIdx, Array.getElem?_toList, Nat.zero_add]
  cases ops[k]? <;> rfl
theorem flagsX_len (fl ord : Nat → Bool) : (flagsX ops fl ord).length = ops.size := by unfold flagsX; simp
theorem flags_len (d : Bool) : (flags ops d).length = ops.size := by unfold flags; simp
theorem load_same {ρ : Operand → Value} {o : Oper} {S S' : St} {v : Value} (hp : isLoad o.op = true) (e : opStep P W C ρ o S = some (v, S')) : S' = S ∧ loadOf P W ρ o S = some v ∧ ∀ S1, loadOf P W ρ o S1 = some v → opStep P W C ρ o S1 = some (v, S1) := by
  obtain ⟨dst, op, ty, pos, after, guard⟩ := o
  cases op <;> first | (simp [isLoad] at hp; done) | skip
  simp only [opStep, loadOf] at e ⊢
  obtain ⟨a, b⟩ := justV_spec e
  exact ⟨b, a, fun S1 h => by rw [h]; rfl⟩
variable {fl ord : Nat → Bool}
variable {A' : Act} {S' : St} (R : Row P W C ops fl ord A S A' S')
include R
theorem Row.step {k : Nat} {o : Oper} (ho : ops[k]? = some o) : stepC P W C ops (o, !pureOp o.op && !fl k && !ord k) (T P W C ops fl ord A S k) = some (T P W C ops fl ord A S (k + 1)) :=
  (tr_ok (x0 := (A, S)) R.run).1 k _ (by rw [flagsX_get, ho]; rfl)
theorem Row.last : T P W C ops fl ord A S ops.size = (A', S') := by
  have := (tr_ok (x0 := (A, S)) R.run).2
  rwa [flagsX_len] at this
theorem Row.oks (k : Nat) (h : k ≤ ops.size) : Ok (T P W C ops fl ord A S k).2 := by
  induction k with
  | zero => exact R.ok
  | succ k ih =>
    have ih := ih (by omega)
    have ho : ops[k]? = some ops[k] := Array.getElem?_eq_getElem (by omega)
    exact (stepC_astep R.hA ih (Row.step R ho)).1.ok ih
theorem Row.astep {k : Nat} (h : k < ops.size) : AStep (T P W C ops fl ord A S k).2 (T P W C ops fl ord A S (k + 1)).2 := by
  have ho : ops[k]? = some ops[k] := Array.getElem?_eq_getElem h
  exact (stepC_astep R.hA (R.oks k (by omega)) (R.step ho)).1
theorem Row.c_mono {i j : Nat} (h : i ≤ j) (hj : j ≤ ops.size) : (T P W C ops fl ord A S i).2.c ≤ (T P W C ops fl ord A S j).2.c := by
  induction j with
  | zero => have : i = 0 := by omega
            subst this; exact Nat.le_refl _
  | succ j ih =>
    by_cases e : i = j + 1
    · subst e; exact Nat.le_refl _
    · exact Nat.le_trans (ih (by omega) (by omega)) (R.astep (by omega)).c
theorem Row.lock {k : Nat} (h : k ≤ ops.size) : (T P W C ops fl ord A S k).2.lock = S.lock := by
  induction k with
  | zero => rfl
  | succ k ih => rw [(R.astep (by omega)).lock, ih (by omega)]
theorem Row.quiet {k : Nat} (h : k < ops.size) (hq : ¬ Loud ops fl ord k) {i : Nat} (hi : i < (T P W C ops fl ord A S k).2.c) : (T P W C ops fl ord A S (k + 1)).2.heap i = (T P W C ops fl ord A S k).2.heap i := by
  have ho : ops[k]? = some ops[k] := Array.getElem?_eq_getElem h
  have hs := R.step ho
  by_cases hp : pureOp ops[k].op = true
  · unfold stepC at hs
    split at hs
    · cases hs
    split at hs
    · rw [hp] at hs
      simp only [Bool.not_true, Bool.false_and, Bool.false_eq_true, if_false] at hs
      split at hs
      · rename_i v S1 h1
        have := (pure_same hp h1).1
        rw [← Option.some.inj hs]
        show S1.heap i = _
        rw [this]
      · cases hs
    · rw [← Option.some.inj hs]
  · have hp : pureOp ops[k].op = false := by simpa using hp
    by_cases hf : fl k = true
    · unfold stepC at hs
      split at hs
      · cases hs
      split at hs
      · rw [hf] at hs
        simp only [Bool.not_true, Bool.and_false, Bool.false_and, Bool.false_eq_true, if_false] at hs
        split at hs
        · rename_i v S1 h1
          have := (load_same (R.hfl k _ ho hf) h1).1
          rw [← Option.some.inj hs]
          show S1.heap i = _
          rw [this]
        · cases hs
      · rw [← Option.some.inj hs]
    have hf : fl k = false := by simpa using hf
    have hin : ord k = false := by
      cases hx : ord k with
      | false => rfl
      | true => exact (hq ⟨_, ho, hp, hf, hx⟩).elim
    exact (stepC_astep R.hA (R.oks k (by omega)) hs).2 (by rw [hp, hf, hin]; rfl) i hi
theorem Row.quiets {i j : Nat} (h : i ≤ j) (hj : j ≤ ops.size) (hq : ∀ m, i ≤ m → m < j → ¬ Loud ops fl ord m) {x : Nat} (hx : x < (T P W C ops fl ord A S i).2.c) : (T P W C ops fl ord A S j).2.heap x = (T P W C ops fl ord A S i).2.heap x := by
  induction j with
  | zero => have : i = 0 := by omega
            subst this; rfl
  | succ j ih =>
    by_cases e : i = j + 1
    · subst e; rfl
    · rw [R.quiet (by omega) (hq j (by omega) (by omega)) (Nat.lt_of_lt_of_le hx (R.c_mono (by omega) (by omega)))]
      exact ih (by omega) (by omega) (fun m h1 h2 => hq m h1 (by omega))
theorem Row.pure_state {k : Nat} {o : Oper} (ho : ops[k]? = some o) (hp : pureOp o.op = true) : (T P W C ops fl ord A S (k + 1)).2 = (T P W C ops fl ord A S k).2 := by
  have hs := R.step ho
  unfold stepC at hs
  split at hs
  · cases hs
  split at hs
  · rw [hp] at hs
    simp only [Bool.not_true, Bool.false_and, Bool.false_eq_true, if_false] at hs
    split at hs
    · rename_i v S1 h1
      rw [← Option.some.inj hs]
      exact (pure_same hp h1).1
    · cases hs
  · rw [← Option.some.inj hs]
theorem Row.load_state {k : Nat} {o : Oper} (ho : ops[k]? = some o) (hf : fl k = true) : (T P W C ops fl ord A S (k + 1)).2 = (T P W C ops fl ord A S k).2 := by
  have hs := R.step ho
  unfold stepC at hs
  split at hs
  · cases hs
  split at hs
  · rw [hf] at hs
    simp only [Bool.not_true, Bool.and_false, Bool.false_and, Bool.false_eq_true, if_false] at hs
    split at hs
    · rename_i v S1 h1
      rw [← Option.some.inj hs]
      exact (load_same (R.hfl k _ ho hf) h1).1
    · cases hs
  · rw [← Option.some.inj hs]
theorem Row.slot {i j : Nat} (h : i ≤ j) (hj : j ≤ ops.size) {t : Tmp} (hw : ∀ (m : Nat) (o : Oper), i ≤ m → m < j → ops[m]? = some o → o.dst ≠ some t) : (T P W C ops fl ord A S j).1.tmps.getD t undef = (T P W C ops fl ord A S i).1.tmps.getD t undef := by
  induction j with
  | zero => have : i = 0 := by omega
            subst this; rfl
  | succ j ih =>
    by_cases e : i = j + 1
    · subst e; rfl
    · rw [← ih (by omega) (by omega) (fun m o h1 h2 => hw m o h1 (by omega))]
      have ho : ops[j]? = some ops[j] := Array.getElem?_eq_getElem (by omega)
      have hs := R.step ho
      have hne := hw j ops[j] (by omega) (by omega) ho
      have put : ∀ (a : Act) (v : Value), (a.put ops[j].dst v).tmps.getD t undef = a.tmps.getD t undef := by
        intro a v
        cases hd : ops[j].dst with
        | none => rfl
        | some d =>
          have : d ≠ t := fun e => hne (by rw [hd, e])
          simp only [Act.put, Array.getD_eq_getD_getElem?]
          rw [Array.getElem?_setIfInBounds_ne this]
      unfold stepC at hs
      split at hs
      · cases hs
      split at hs
      · split at hs
        · rw [← Option.some.inj hs]; exact put _ _
        · cases hs
      · rw [← Option.some.inj hs]; exact put _ _
theorem Row.sizes {k : Nat} (h : k ≤ ops.size) : (T P W C ops fl ord A S k).1.tmps.size = A.tmps.size ∧ (T P W C ops fl ord A S k).1.defers = A.defers := by
  induction k with
  | zero => exact ⟨rfl, rfl⟩
  | succ k ih =>
    have ho : ops[k]? = some ops[k] := Array.getElem?_eq_getElem (by omega)
    have hs := R.step ho
    have put : ∀ (a : Act) (v : Value), (a.put ops[k].dst v).tmps.size = a.tmps.size ∧ (a.put ops[k].dst v).defers = a.defers := by
      intro a v
      cases ops[k].dst with
      | none => exact ⟨rfl, rfl⟩
      | some d => exact ⟨by simp [Act.put], rfl⟩
    have ih := ih (by omega)
    unfold stepC at hs
    split at hs
    · cases hs
    split at hs
    · split at hs
      · rw [← Option.some.inj hs]; exact ⟨(put _ _).1.trans ih.1, (put _ _).2.trans ih.2⟩
      · cases hs
    · rw [← Option.some.inj hs]; exact ⟨(put _ _).1.trans ih.1, (put _ _).2.trans ih.2⟩
structure Inv (φ0 : Emb) (w0 : World) (a0 : Act) (listed : Array Bool) (φ : Emb) (a : Act) (w : World) : Prop where
  size : listed.size = ops.size
  closed : ∀ k, Tm listed k → ∀ j, (B ops k).testBit j = true → Tm listed j
  mem : ∃ e, e ≤ ops.size ∧ (∀ k, k < e → Loud ops fl ord k → Tm listed k) ∧ (e < ops.size → Loud ops fl ord e ∧ ¬ Tm listed e) ∧ Post W φ0 S w0 φ (T P W C ops fl ord A S e).2 w
  dom : ∀ i L, φ i = some L → φ0 i = some L ∨ ∃ k, k < ops.size ∧ Tm listed k ∧ (T P W C ops fl ord A S k).2.c ≤ i ∧ i < (T P W C ops fl ord A S (k + 1)).2.c
  tsz : a.tmps.size = A.tmps.size
  dfr : A.defers = a.defers
  tmps : ∀ t, (∃ k o, Tm listed k ∧ ops[k]? = some o ∧ o.dst = some t ∧ (∀ k' o', Tm listed k' → ops[k']? = some o' → o'.dst = some t → k' ≤ k) ∧ VRel W.heap.size φ ((T P W C ops fl ord A S (k + 1)).1.tmps.getD t undef) (a.tmps.getD t undef)) ∨
    ((∀ k' o', Tm listed k' → ops[k']? = some o' → o'.dst ≠ some t) ∧ VRel W.heap.size φ (A.tmps.getD t undef) (a.tmps.getD t undef))
end
section
variable {P : Program} {W : World} {C : Caller} {ops : Array Oper} {A : Act} {S : St} {φ0 : Emb} {w0 : World} {a0 : Act} {A' : Act} {S' : St} {fl ord : Nat → Bool}
theorem bef_closed (R : Row P W C ops fl ord A S A' S') {listed : Array Bool} (hc : ∀ k, Tm listed k → ∀ j, (B ops k).testBit j = true → Tm listed j) {i : Nat} (hi : i ∈ Region.ready .any ops listed) {j : Nat} (hj : (B ops i).testBit j = true) : Tm listed j := by
  obtain ⟨h0, o, ho, hall⟩ := mem_ready.1 hi
  obtain ⟨e, he, hb, hje⟩ := bef_spec (fun k o h => ((regionOk_spec R.hreg).1 k o h).2) ho hj
  have := hall e he hb
  rcases hje with rfl | hje
  · exact this
  · exact hc _ this _ hje
theorem looks_rel (R : Row P W C ops fl ord A S A' S') {listed : Array Bool} {φ : Emb} {a : Act} {w : World} (I : Inv (P := P) (W := W) (C := C) (ops := ops) (A := A) (S := S) (fl := fl) (ord := ord) φ0 w0 a0 listed φ a w) {i : Nat} {o : Oper} (hi : i ∈ Region.ready .any ops listed) (ho : ops[i]? = some o) {t : Tmp} (ht : t ∈ o.looksAt ops) :
    VRel W.heap.size φ ((T P W C ops fl ord A S i).1.tmps.getD t undef) (a.tmps.getD t undef) := by
  have hin : i < ops.size := (Array.getElem?_eq_some_iff.1 ho).1
  have hni : ¬ Tm listed i := by
    have := (mem_ready.1 hi).1
    unfold Tm
    rw [Array.getD_eq_getD_getElem?] at this ⊢
    cases hx : listed[i]? with
    | none => simp
    | some b => rw [hx] at this; simp at this; simp [this]
  -- a writer of t ahead of i in the text is listed; one behind it is not
  have ahead : ∀ (k : Nat) (p : Oper), k < i → ops[k]? = some p → p.dst = some t → Tm listed k := by
    intro k p hk hp hd
    refine bef_closed R I.closed hi ((regionOk_spec R.hreg).2 k i p o hk hp ho ?_)
    unfold clash
    rw [hd]
    simp only [Bool.or_eq_true]
    exact .inl (.inl (by simpa using ht))
  have behind : ∀ (k : Nat) (p : Oper), i < k → ops[k]? = some p → p.dst = some t → ¬ Tm listed k := by
    intro k p hk hp hd hT
    refine hni (I.closed k hT i ((regionOk_spec R.hreg).2 i k o p hk ho hp ?_))
    unfold clash
    rw [hd]
    simp only [Bool.or_eq_true]
    exact .inr (by simpa using ht)
  rcases I.tmps t with ⟨k, p, hT, hp, hd, hmax, hv⟩ | ⟨hno, hv⟩
  · have hki : k < i := by
      rcases Nat.lt_trichotomy k i with h | h | h
      · exact h
      · subst h; exact (hni hT).elim
      · exact (behind k p h hp hd hT).elim
    rw [R.slot (i := k + 1) (by omega) (by omega) (t := t) (fun m q h1 h2 hq hdq => by
      have := hmax m q (ahead m q h2 hq hdq) hq hdq
      omega)]
    exact hv
  · rw [R.slot (i := 0) (Nat.zero_le _) (by omega) (t := t) (fun m q h1 h2 hq hdq => hno m q (ahead m q h2 hq hdq) hq hdq)]
    exact hv
theorem Rel.shrink (R : Row P W C ops fl ord A S A' S') {φ : Emb} {w : World} {i e : Nat} (hie : i ≤ e) (he : e ≤ ops.size) (hq : ∀ m, i ≤ m → m < e → ¬ Loud ops fl ord m) (h : Rel W φ (T P W C ops fl ord A S e).2 w) :
    Rel W φ ((T P W C ops fl ord A S i).2.relock (T P W C ops fl ord A S i).2.c) w := by
  have ok := R.oks i (by omega)
  have hN : W.heap.size ≤ (T P W C ops fl ord A S i).2.c := Nat.le_trans (by rw [R.lock (k := i) (by omega), ← R.lock he]; exact h.lockN) ok.1
  have same : ∀ x, x < (T P W C ops fl ord A S i).2.c → (T P W C ops fl ord A S e).2.heap x = (T P W C ops fl ord A S i).2.heap x := fun x hx => R.quiets hie he hq hx
  have key : ∀ x, (T P W C ops fl ord A S i).2.heap x ≠ .dead → (T P W C ops fl ord A S e).2.heap x = (T P W C ops fl ord A S i).2.heap x := fun x hx => same x (Nat.lt_of_not_le fun hh => hx (ok.2 x hh))
  refine ⟨h.below, h.base, hN, ⟨Nat.le_refl _, ok.2⟩, fun x hx => ?_, fun x L ex hx => ?_, fun x y Lx Ly ex ey hx hy hne dx dy => ?_⟩
  · show (T P W C ops fl ord A S i).2.heap x = .dead
    rw [← same x (by omega)]; exact h.deadB x hx
  · obtain ⟨a, b, c⟩ := h.blk x L ex hx
    refine ⟨a, b, ?_⟩
    show BRel _ _ _ _ ((T P W C ops fl ord A S i).2.heap x)
    by_cases hd : (T P W C ops fl ord A S i).2.heap x = .dead
    · rw [hd]; trivial
    · rw [← key x hd]; exact c
  · have dx : (T P W C ops fl ord A S i).2.heap x ≠ .dead := dx
    have dy : (T P W C ops fl ord A S i).2.heap y ≠ .dead := dy
    exact h.inj x y Lx Ly ex ey hx hy hne (by rw [key x dx]; exact dx) (by rw [key y dy]; exact dy)
theorem Post.lift (R : Row P W C ops fl ord A S A' S') {φ : Emb} {w : World} {k e : Nat} (hke : k ≤ e) (he : e ≤ ops.size) (hq : ∀ m, k ≤ m → m < e → ¬ Loud ops fl ord m) (h : Post W φ0 S w0 φ (T P W C ops fl ord A S k).2 w) (hd : ∀ i L, φ i = some L → i < (T P W C ops fl ord A S k).2.c ∨ S'.c ≤ i) :
    Post W φ0 S w0 φ (T P W C ops fl ord A S e).2 w := by
  have ok := R.oks e he
  have hlast : (T P W C ops fl ord A S ops.size).2.c = S'.c := by rw [R.last]
  have hce := R.c_mono he (Nat.le_refl _)
  have same : ∀ x, (x < (T P W C ops fl ord A S k).2.c ∨ S'.c ≤ x) → (T P W C ops fl ord A S e).2.heap x = (T P W C ops fl ord A S k).2.heap x := fun x hx => by
    rcases hx with hx | hx
    · exact R.quiets hke he hq hx
    · have hck := R.c_mono hke he
      rw [ok.2 x (by omega), (R.oks k (by omega)).2 x (by omega)]
  have hc := R.c_mono hke he
  have hlk : (T P W C ops fl ord A S e).2.lock = (T P W C ops fl ord A S k).2.lock := by rw [R.lock he, R.lock (by omega)]
  have r := h.rel
  refine ⟨h.ext, ⟨r.below, r.base, by rw [hlk]; exact r.lockN, ok, fun x hx => ?_, fun x L ex hx => ?_, fun x y Lx Ly ex ey hx hy hne dx dy => ?_⟩, fun i L ex => ?_, h.size, h.f1, fun b hb ht => ?_⟩
  · rw [same x (hd x _ (r.base x hx))]; exact r.deadB x hx
  · rw [same x (hd x L ex)]; exact r.blk x L ex hx
  · rw [same x (hd x _ ex)] at dx
    rw [same y (hd y _ ey)] at dy
    exact r.inj x y Lx Ly ex ey hx hy hne dx dy
  · rcases h.dom i L ex with h | h
    · exact .inl h
    · exact .inr ⟨h.1, by omega⟩
  · obtain ⟨i, L, ei, eb, hl, hdd⟩ := ht
    rw [same i (hd i L ei)] at hdd
    exact h.f2 b hb ⟨i, L, ei, eb, by rw [← hlk]; exact hl, hdd⟩
theorem next_loud (listed : Array Bool) (k : Nat) (hk : k ≤ ops.size) : ∃ e, k ≤ e ∧ e ≤ ops.size ∧ (∀ m, k ≤ m → m < e → Loud ops fl ord m → Tm listed m) ∧ (e < ops.size → Loud ops fl ord e ∧ ¬ Tm listed e) := by
  have : ∀ d k, k + d = ops.size → ∃ e, k ≤ e ∧ e ≤ ops.size ∧ (∀ m, k ≤ m → m < e → Loud ops fl ord m → Tm listed m) ∧ (e < ops.size → Loud ops fl ord e ∧ ¬ Tm listed e) := by
    intro d
    induction d with
    | zero => intro k hk; exact ⟨k, Nat.le_refl _, by omega, fun m h1 h2 => by omega, fun h => by omega⟩
    | succ d ih =>
      intro k hk
      by_cases hl : Loud ops fl ord k ∧ ¬ Tm listed k
      · exact ⟨k, Nat.le_refl _, by omega, fun m h1 h2 => by omega, fun _ => hl⟩
      · obtain ⟨e, h1, h2, h3, h4⟩ := ih (k + 1) (by omega)
        refine ⟨e, by omega, h2, fun m hm1 hm2 hlm => ?_, h4⟩
        by_cases hmk : m = k
        · subst hmk
          exact Classical.byContradiction fun h => hl ⟨hlm, h⟩
        · exact h3 m (by omega) hm2 hlm
  exact this (ops.size - k) k (by omega)
end
end Go.Proofs.Yteofdikfdknpbaa.E
end
section
namespace Go.Proofs.Yteofdikfdknpbaa.E
open Go Go.RowKit
set_option linter.unusedVariables false
section
variable {P : Program} {W : World} {C : Caller} {ops : Array Oper} {A : Act} {S : St} {φ0 : Emb} {w0 : World} {a0 : Act} {A' : Act} {S' : St} {fl ord : Nat → Bool}
theorem tmps_step (R : Row P W C ops fl ord A S A' S') {listed : Array Bool} {φ φ' : Emb} {a : Act} {w : World} (I : Inv (P := P) (W := W) (C := C) (ops := ops) (A := A) (S := S) (fl := fl) (ord := ord) φ0 w0 a0 listed φ a w) {i : Nat} {o : Oper} (hi : i ∈ Region.ready .any ops listed) (ho : ops[i]? = some o)
    (hle : ELe φ φ') {v v' : Value} (hv : VRel W.heap.size φ' v v') (hT : (T P W C ops fl ord A S (i + 1)).1 = (T P W C ops fl ord A S i).1.put o.dst v) :
    ∀ t, (∃ k p, Tm (listed.setIfInBounds i true) k ∧ ops[k]? = some p ∧ p.dst = some t ∧ (∀ k' o', Tm (listed.setIfInBounds i true) k' → ops[k']? = some o' → o'.dst = some t → k' ≤ k) ∧ VRel W.heap.size φ' ((T P W C ops fl ord A S (k + 1)).1.tmps.getD t undef) ((a.put o.dst v').tmps.getD t undef)) ∨
    ((∀ k' o', Tm (listed.setIfInBounds i true) k' → ops[k']? = some o' → o'.dst ≠ some t) ∧ VRel W.heap.size φ' (A.tmps.getD t undef) ((a.put o.dst v').tmps.getD t undef)) := by
  intro t
  have hin : i < ops.size := (Array.getElem?_eq_some_iff.1 ho).1
  have hil : i < listed.size := by rw [I.size]; exact hin
  have hni : ¬ Tm listed i := by
    have := (mem_ready.1 hi).1
    unfold Tm
    rw [Array.getD_eq_getD_getElem?] at this ⊢
    cases hx : listed[i]? with
    | none => simp
    | some b => rw [hx] at this; simp at this; simp [this]
  by_cases hd : o.dst = some t
  · refine .inl ⟨i, o, (tm_set hil).2 (.inl rfl), ho, hd, fun k' o' hk' ho' hd' => ?_, ?_⟩
    · rcases (tm_set hil).1 hk' with h | h
      · omega
      · refine Nat.le_of_not_lt fun hlt => hni (I.closed k' h i ((regionOk_spec R.hreg).2 i k' o o' hlt ho ho' ?_))
        unfold clash
        rw [hd]
        simp only [Bool.or_eq_true]
        exact .inl (.inr (by rw [hd']; simp))
    · have hsz := (R.sizes (k := i) (by omega)).1
      rw [hT, hd]
      simp only [Act.put, Array.getD_eq_getD_getElem?]
      by_cases hlt : t < A.tmps.size
      · rw [Array.getElem?_setIfInBounds_self, if_pos (by rw [hsz]; exact hlt), Array.getElem?_setIfInBounds_self, if_pos (by rw [I.tsz]; exact hlt)]
        exact hv
      · have n1 : ∀ (u : Array Value) (x : Value), u.size = A.tmps.size → (u.setIfInBounds t x)[t]? = none := fun u x hu => Array.getElem?_eq_none (by rw [Array.size_setIfInBounds, hu]; exact Nat.le_of_not_lt hlt)
        rw [n1 _ _ hsz, n1 _ _ I.tsz]
        exact undef_rel
  · have hsame : (a.put o.dst v').tmps.getD t undef = a.tmps.getD t undef := by
      cases hdd : o.dst with
      | none => rfl
      | some d =>
        have : d ≠ t := fun e => hd (by rw [hdd, e])
        simp only [Act.put, Array.getD_eq_getD_getElem?]
        rw [Array.getElem?_setIfInBounds_ne this]
    rw [hsame]
    rcases I.tmps t with ⟨k, p, h1, h2, h3, h4, h5⟩ | ⟨h1, h2⟩
    · refine .inl ⟨k, p, (tm_set hil).2 (.inr h1), h2, h3, fun k' o' hk' ho' hd' => ?_, h5.mono hle⟩
      rcases (tm_set hil).1 hk' with h | h
      · subst h; rw [ho] at ho'; cases ho'; exact (hd hd').elim
      · exact h4 k' o' h ho' hd'
    · refine .inr ⟨fun k' o' hk' ho' hd' => ?_, h2.mono hle⟩
      rcases (tm_set hil).1 hk' with h | h
      · subst h; rw [ho] at ho'; cases ho'; exact hd hd'
      · exact h1 k' o' h ho' hd'
theorem closed_step (R : Row P W C ops fl ord A S A' S') {listed : Array Bool} {φ : Emb} {a : Act} {w : World} (I : Inv (P := P) (W := W) (C := C) (ops := ops) (A := A) (S := S) (fl := fl) (ord := ord) φ0 w0 a0 listed φ a w) {i : Nat} (hi : i ∈ Region.ready .any ops listed) (hil : i < listed.size) :
    ∀ k, Tm (listed.setIfInBounds i true) k → ∀ j, (B ops k).testBit j = true → Tm (listed.setIfInBounds i true) j := by
  intro k hk j hj
  refine (tm_set hil).2 (.inr ?_)
  rcases (tm_set hil).1 hk with h | h
  · subst h; exact bef_closed R I.closed hi hj
  · exact I.closed k h j hj
theorem eval_slots {o : Oper} {ops : Array Oper} {A B : Act} (h : ∀ t ∈ o.looksAt ops, A.tmps.getD t undef = B.tmps.getD t undef) : ∀ x ∈ o.op.operands, A.eval x = B.eval x := by
  intro x hx
  cases x with
  | tmp t =>
    refine h t ?_
    unfold Oper.looksAt
    simp only [List.mem_append, List.mem_filterMap]
    exact .inl ⟨_, Array.mem_toList_iff.2 hx, rfl⟩
  | _ => rfl
theorem loadOf_slots {o : Oper} {ops : Array Oper} {A B : Act} (h : ∀ t ∈ o.looksAt ops, A.tmps.getD t undef = B.tmps.getD t undef) (S : St) : loadOf P W A.eval o S = loadOf P W B.eval o S := by
  have e := eval_slots h
  obtain ⟨dst, op, ty, pos, after, guard⟩ := o
  cases op <;> first | rfl | skip
  case load t a =>
    have := e a (by simp [Op.operands])
    simp only [loadOf]
    rw [this]
theorem cells_up {S S1 : St} (ok : Ok S) (h : ∀ i, i < S.c → S1.heap i = S.heap i) {a : Addr} {n : Nat} {l : List Value} (e : S.cells W a n = some l) : S1.cells W a n = some l := by
  unfold St.cells at e ⊢
  by_cases h0 : n = 0
  · rw [if_pos h0] at e ⊢; exact e
  rw [if_neg h0] at e ⊢
  by_cases hb : a.block < W.heap.size
  · rw [if_pos hb] at e ⊢; exact e
  · rw [if_neg hb] at e ⊢
    have : a.block < S.c := Nat.lt_of_not_le fun hh => by rw [ok.2 _ hh] at e; cases e
    rw [h _ this]; exact e
theorem cell_up {S S1 : St} (ok : Ok S) (h : ∀ i, i < S.c → S1.heap i = S.heap i) {a : Addr} {v : Value} (e : S.cell W a = some v) : S1.cell W a = some v := by
  unfold St.cell at e ⊢
  split at e
  · rename_i hb; rw [if_pos hb]; exact e
  · rename_i hb
    rw [if_neg hb]
    have : a.block < S.c := Nat.lt_of_not_le fun hh => by rw [ok.2 _ hh] at e; cases e
    rw [h _ this]; exact e
theorem load_up {S S1 : St} (ok : Ok S) (h : ∀ i, i < S.c → S1.heap i = S.heap i) {t : TypeId} {x v : Value} (e : aLoad P W S t x = some v) : aLoad P W S1 t x = some v := by
  have agg : ∀ (a : Addr), (match szOf P t with | some n => (match S.cells W a n with | some l => some (Value.agg l.toArray) | none => none) | none => none) = some v → (match szOf P t with | some n => (match S1.cells W a n with | some l => some (Value.agg l.toArray) | none => none) | none => none) = some v := by
    intro a e
    cases hn : szOf P t with
    | none => rw [hn] at e; cases e
    | some n =>
      rw [hn] at e
      dsimp only at e ⊢
      cases hc : S.cells W a n with
      | none => rw [hc] at e; cases e
      | some l => rw [hc] at e; rw [cells_up ok h hc]; exact e
  cases x <;> first | (simp [aLoad] at e; done) | skip
  rename_i a
  cases a with
  | none => simp [aLoad] at e
  | some a =>
    simp only [aLoad] at e ⊢
    cases hu : P.underlying t with
    | none => rw [hu] at e; cases e
    | some d =>
      rw [hu] at e
      cases d <;> first | exact agg a e | exact cell_up ok h e
theorem loadOf_up {ρ : Operand → Value} {o : Oper} {S S1 : St} {v : Value} (ok : Ok S) (h : ∀ i, i < S.c → S1.heap i = S.heap i) (e : loadOf P W ρ o S = some v) : loadOf P W ρ o S1 = some v := by
  obtain ⟨dst, op, ty, pos, after, guard⟩ := o
  cases op <;> first | (simp [loadOf] at e; done) | skip
  case load t a =>
    simp only [loadOf] at e ⊢
    exact load_up ok h e
theorem Row.float (R : Row P W C ops fl ord A S A' S') {i e : Nat} {o : Oper} {v : Value} (ho : ops[i]? = some o) (hfi : fl i = true) (hw : Region.wanted o (yielded ops (T P W C ops fl ord A S i).1.tmps) = true)
    (p2 : loadOf P W (T P W C ops fl ord A S i).1.eval o (T P W C ops fl ord A S i).2 = some v) (he : e ≤ ops.size)
    (h1 : ∀ m, i ≤ m → m < e → Loud ops fl ord m → (B ops m).testBit i = false) (h2 : e < i → Loud ops fl ord e ∧ (B ops i).testBit e = false) :
    loadOf P W (T P W C ops fl ord A S i).1.eval o (T P W C ops fl ord A S e).2 = some v := by
  have hin : i < ops.size := (Array.getElem?_eq_some_iff.1 ho).1
  rcases Nat.lt_or_ge e i with h | h
  · obtain ⟨hl, hB⟩ := h2 h
    rw [R.flo1 e i o h ho hfi hw hl hB]
    exact p2
  · have : ∀ d, i + d ≤ e → loadOf P W (T P W C ops fl ord A S i).1.eval o (T P W C ops fl ord A S (i + d)).2 = some v := by
      intro d
      induction d with
      | zero => intro _; exact p2
      | succ d ih =>
        intro hd
        have ih := ih (by omega)
        rw [← Nat.add_assoc]
        by_cases hl : Loud ops fl ord (i + d)
        · have hne : i < i + d := by
            rcases Nat.eq_zero_or_pos d with h0 | h0
            · subst h0
              obtain ⟨_, _, _, hf, _⟩ := hl
              rw [Nat.add_zero, hfi] at hf; cases hf
            · omega
          have hsl : ∀ t ∈ o.looksAt ops, (T P W C ops fl ord A S (i + d)).1.tmps.getD t undef = (T P W C ops fl ord A S i).1.tmps.getD t undef := fun t ht => by
            refine R.slot (by omega) (by omega) fun m q m1 m2 hq hd' => ?_
            exact R.fresh i m o q m1 ho hfi hq t hd' ht
          have := R.flo2 i (i + d) o hne (by omega) ho hfi hl (h1 _ (by omega) (by omega) hl)
          rw [loadOf_slots hsl, loadOf_slots hsl] at this
          rw [this]; exact ih
        · exact loadOf_up (R.oks (i + d) (by omega)) (fun x hx => R.quiet (by omega) hl hx) ih
    have := this (e - i) (by omega)
    rwa [show i + (e - i) = e by omega] at this
theorem inv_step (R : Row P W C ops fl ord A S A' S') (hf : Free φ0 S.c S'.c) {Q : Exit → Act → World → Prop} {listed : Array Bool} {φ : Emb} {a : Act} {w : World} (I : Inv (P := P) (W := W) (C := C) (ops := ops) (A := A) (S := S) (fl := fl) (ord := ord) φ0 w0 a0 listed φ a w) {i : Nat} (hi : i ∈ Region.ready .any ops listed) {K : Act → World → Prop}
    (hK : ∀ φ' a' w', Inv (P := P) (W := W) (C := C) (ops := ops) (A := A) (S := S) (fl := fl) (ord := ord) φ0 w0 a0 (listed.setIfInBounds i true) φ' a' w' → K a' w') : wpOp P ops Q i K a w := by
  obtain ⟨h0, o, ho, hall⟩ := mem_ready.1 hi
  have hin : i < ops.size := (Array.getElem?_eq_some_iff.1 ho).1
  have hil : i < listed.size := by rw [I.size]; exact hin
  have hni : ¬ Tm listed i := by
    unfold Tm
    rw [Array.getD_eq_getD_getElem?] at h0 ⊢
    cases hx : listed[i]? with
    | none => simp
    | some b => rw [hx] at h0; simp at h0; simp [h0]
  have hlook := fun t (ht : t ∈ o.looksAt ops) => looks_rel R I hi ho ht
  have hsz := R.sizes (k := i) (by omega)
  have hoo : opOk P o = true := R.hops o (Array.mem_toList_iff.2 (Array.mem_of_getElem? ho))
  have hstep := R.step ho
  unfold stepC at hstep
  dsimp only at hstep
  split at hstep
  · cases hstep
  rename_i hgf
  have hgf : guardOk o ops (T P W C ops fl ord A S i).1.tmps = true := by simpa using hgf
  have hyield : Region.wanted o (yielded ops (T P W C ops fl ord A S i).1.tmps) = Region.wanted o (yielded ops a.tmps) := by
    unfold Region.wanted
    cases hg : o.guard with
    | none => rfl
    | some g =>
      obtain ⟨g, want⟩ := g
      dsimp only
      rw [yielded_rel (N := W.heap.size) (φ := φ) ops g (guard_notJ hgf hg) fun d hd => ?_]
      refine ⟨by rw [hsz.1, I.tsz], fun v hv => ?_⟩
      have := hlook d (by unfold Oper.looksAt; rw [hg]; simp [hd])
      have hlt := (Array.getElem?_eq_some_iff.1 hv).1
      have hlt' : d < a.tmps.size := by rw [I.tsz, ← hsz.1]; exact hlt
      refine ⟨a.tmps[d], Array.getElem?_eq_getElem hlt', ?_⟩
      simp only [Array.getD_eq_getD_getElem?, hv, Array.getElem?_eq_getElem hlt', Option.getD_some] at this
      exact this
  obtain ⟨e, he, he1, he2, hp⟩ := I.mem
  have same_e : i ≠ e → (∀ k, k < e → Loud ops fl ord k → Tm (listed.setIfInBounds i true) k) ∧ (e < ops.size → Loud ops fl ord e ∧ ¬ Tm (listed.setIfInBounds i true) e) := fun hne =>
    ⟨fun k hk hl => (tm_set hil).2 (.inr (he1 k hk hl)), fun h => ⟨(he2 h).1, fun ht => (((tm_set hil).1 ht).elim (fun h => hne h.symm) (he2 h).2)⟩⟩
  have hlast : (T P W C ops fl ord A S ops.size).2.c = S'.c := by rw [R.last]
  have hcS : S.c ≤ (T P W C ops fl ord A S i).2.c := R.c_mono (Nat.zero_le i) (by omega)
  have hcS' : (T P W C ops fl ord A S (i + 1)).2.c ≤ S'.c := by rw [← hlast]; exact R.c_mono (by omega) (Nat.le_refl _)
  have hci : (T P W C ops fl ord A S i).2.c ≤ (T P W C ops fl ord A S (i + 1)).2.c := (R.astep hin).c
  -- what is known of the numbers, where i is loud
  have later : Loud ops fl ord i → ∀ k, k < ops.size → Tm listed k → i < k → (T P W C ops fl ord A S (k + 1)).2.c = (T P W C ops fl ord A S k).2.c := by
    intro hl k hk hT hik
    have hok : ops[k]? = some ops[k] := Array.getElem?_eq_getElem hk
    by_cases hpk : pureOp ops[k].op = true
    · rw [R.pure_state hok hpk]
    · by_cases hfk : fl k = true
      · rw [R.load_state hok hfk]
      obtain ⟨oi, hoi, hpi, hfi, hino⟩ := hl
      exact (hni (I.closed k hT i ((R.hord i hino k _ hok (by simpa using hpk) (by simpa using hfk) (by omega)).2 hik))).elim
  have dom_loud : Loud ops fl ord i → ∀ x L, φ x = some L → x < (T P W C ops fl ord A S i).2.c ∨ S'.c ≤ x := by
    intro hl x L ex
    rcases I.dom x L ex with h | ⟨k, hk, hT, h1, h2⟩
    · rcases Nat.lt_or_ge x S.c with hx | hx
      · exact .inl (by omega)
      · rcases Nat.lt_or_ge x S'.c with hx' | hx'
        · rw [hf x hx hx'] at h; cases h
        · exact .inr hx'
    · rcases Nat.lt_trichotomy k i with h | h | h
      · have := R.c_mono (show k + 1 ≤ i by omega) (by omega)
        exact .inl (by omega)
      · subst h; exact (hni hT).elim
      · have := later hl k hk hT h
        omega
  -- the next loud one
  have advance : i = e → ∀ φ' w', Post W φ0 S w0 φ' (T P W C ops fl ord A S (i + 1)).2 w' → (∀ x L, φ' x = some L → x < (T P W C ops fl ord A S (i + 1)).2.c ∨ S'.c ≤ x) → ∃ e', e' ≤ ops.size ∧ (∀ k, k < e' → Loud ops fl ord k → Tm (listed.setIfInBounds i true) k) ∧ (e' < ops.size → Loud ops fl ord e' ∧ ¬ Tm (listed.setIfInBounds i true) e') ∧ Post W φ0 S w0 φ' (T P W C ops fl ord A S e').2 w' := by
    intro hie φ' w' hpost hd
    subst hie
    have hloud := (he2 hin).1
    obtain ⟨e', n1, n2, n3, n4⟩ := next_loud (ops := ops) (fl := fl) (ord := ord) (listed.setIfInBounds i true) (i + 1) (by omega)
    refine ⟨e', n2, fun k hk hl => ?_, n4, Post.lift R n1 n2 (fun m h1 h2 hl => ?_) hpost hd⟩
    · rcases Nat.lt_trichotomy k i with h | h | h
      · exact (tm_set hil).2 (.inr (he1 k h hl))
      · exact (tm_set hil).2 (.inl h)
      · exact n3 k (by omega) hk hl
    · have hm := ((tm_set hil).1 (n3 m h1 h2 hl)).resolve_left (by omega)
      obtain ⟨om, hom, hpm, hfm, hinm⟩ := hl
      obtain ⟨oi, hoi, hpi, hfi, _⟩ := hloud
      exact hni (I.closed m hm i ((R.hord m hinm i _ hoi hpi hfi (by omega)).1 (by omega)))
  have make : ∀ {φ' : Emb} {v v' : Value} {w' : World}, ELe φ φ' → VRel W.heap.size φ' v v' → (T P W C ops fl ord A S (i + 1)).1 = (T P W C ops fl ord A S i).1.put o.dst v →
      (∃ e, e ≤ ops.size ∧ (∀ k, k < e → Loud ops fl ord k → Tm (listed.setIfInBounds i true) k) ∧ (e < ops.size → Loud ops fl ord e ∧ ¬ Tm (listed.setIfInBounds i true) e) ∧ Post W φ0 S w0 φ' (T P W C ops fl ord A S e).2 w') →
      (∀ x L, φ' x = some L → φ x = some L ∨ ((T P W C ops fl ord A S i).2.c ≤ x ∧ x < (T P W C ops fl ord A S (i + 1)).2.c)) → K (a.put o.dst v') w' := by
    intro φ' v v' w' hle hv hT hm hdom
    refine hK φ' _ w' ⟨by rw [Array.size_setIfInBounds]; exact I.size, closed_step R I hi hil, hm, fun x L ex => ?_, ?_, ?_, tmps_step R I hi ho hle hv hT⟩
    · rcases hdom x L ex with h | ⟨h1, h2⟩
      · rcases I.dom x L h with h | ⟨k, hk, hT, h1, h2⟩
        · exact .inl h
        · exact .inr ⟨k, hk, (tm_set hil).2 (.inr hT), h1, h2⟩
      · exact .inr ⟨i, hin, (tm_set hil).2 (.inl rfl), h1, h2⟩
    · cases o.dst with
      | none => exact I.tsz
      | some d => simp [Act.put, I.tsz]
    · cases o.dst with
      | none => exact I.dfr
      | some d => exact I.dfr
  unfold wpOp
  rw [ho]
  dsimp only
  rw [hyield] at hstep
  by_cases hw : Region.wanted o (yielded ops a.tmps) = true
  rotate_left
  · rw [if_neg hw] at hstep ⊢
    have hT := (Option.some.inj hstep).symm
    have e2 : (T P W C ops fl ord A S (i + 1)).2 = (T P W C ops fl ord A S i).2 := by rw [hT]
    refine make (ELe.refl φ) undef_rel (by rw [hT]) ?_ (fun x L ex => .inl ex)
    by_cases hie : i = e
    · refine advance hie φ w (by rw [e2]; rw [hie]; exact hp) (fun x L ex => by rw [e2]; exact dom_loud (by rw [hie]; exact (he2 (by omega)).1) x L ex)
    · exact ⟨e, he, (same_e hie).1, (same_e hie).2, hp⟩
  rw [if_pos hw] at hstep ⊢
  refine .inl ?_
  obtain ⟨c1, c2⟩ := opOk_src hoo
  have hρ : ∀ {S1 : St}, Rel W φ S1 w → ∀ x ∈ o.op.operands, VRel W.heap.size φ ((T P W C ops fl ord A S i).1.eval x) (a.eval x) := by
    intro S1 hr x hx
    have hx2 : operOk P x = true := by
      unfold opOk at hoo
      simp only [Bool.and_eq_true, Array.all_eq_true_iff_forall_mem] at hoo
      exact hoo.1 x hx
    refine eval_rel R.hG hr hx2 fun t ht => hlook t ?_
    subst ht
    unfold Oper.looksAt
    simp only [List.mem_append, List.mem_filterMap]
    exact .inl ⟨_, Array.mem_toList_iff.2 hx, rfl⟩
  by_cases hpure : pureOp o.op = true
  · rw [hpure] at hstep
    simp only [Bool.not_true, Bool.false_and, Bool.false_eq_true, if_false] at hstep
    split at hstep
    · rename_i v S1 h1
      have hT := (Option.some.inj hstep).symm
      obtain ⟨p1, p2⟩ := pure_same hpure h1
      have hie : i ≠ e := by
        rintro rfl
        obtain ⟨oi, hoi, hpi, _, _⟩ := (he2 hin).1
        rw [ho] at hoi
        cases hoi
        rw [hpure] at hpi; cases hpi
      refine opStep_sound R.hC hp.rel (hρ hp.rel) (fun x h1 h2 => by omega) c1 c2 (p2 (T P W C ops fl ord A S e).2) _ _ fun φ' v' w' hv hpo => ?_
      refine make hpo.ext hv (by rw [hT]) ⟨e, he, (same_e hie).1, (same_e hie).2, hp.trans (R.c_mono (Nat.zero_le e) he) (Nat.le_refl _) hpo⟩ fun x L ex => ?_
      rcases hpo.dom x L ex with h | h
      · exact .inl h
      · omega
    · cases hstep
  have hpf : pureOp o.op = false := by simpa using hpure
  by_cases hfi : fl i = true
  · rw [hfi] at hstep
    simp only [Bool.not_true, Bool.and_false, Bool.false_and, Bool.false_eq_true, if_false] at hstep
    split at hstep
    · rename_i v S1 h1
      have hT := (Option.some.inj hstep).symm
      have hlo := R.hfl i o ho hfi
      obtain ⟨p1, p2, p3⟩ := load_same hlo h1
      have hie : i ≠ e := by
        rintro rfl
        obtain ⟨oi, hoi, hpi, hf, _⟩ := (he2 hin).1
        rw [hfi] at hf; cases hf
      have hwT : Region.wanted o (yielded ops (T P W C ops fl ord A S i).1.tmps) = true := by rw [hyield]; exact hw
      have hle := R.float ho hfi hwT p2 he (fun m h1 h2 hl => by
        have hT := he1 m h2 hl
        cases hB : (B ops m).testBit i with
        | false => rfl
        | true => exact (hni (I.closed m hT i hB)).elim) (fun h => by
        cases hB : (B ops i).testBit e with
        | false => exact ⟨(he2 (by omega)).1, rfl⟩
        | true => exact ((he2 (by omega)).2 (bef_closed R I.closed hi hB)).elim)
      refine opStep_sound R.hC hp.rel (hρ hp.rel) (fun x h1 h2 => by omega) c1 c2 (p3 _ hle) _ _ fun φ' v' w' hv hpo => ?_
      refine make hpo.ext hv (by rw [hT]) ⟨e, he, (same_e hie).1, (same_e hie).2, hp.trans (R.c_mono (Nat.zero_le e) he) (Nat.le_refl _) hpo⟩ fun x L ex => ?_
      rcases hpo.dom x L ex with h | h
      · exact .inl h
      · omega
    · cases hstep
  have hff : fl i = false := by simpa using hfi
  by_cases hino : ord i = true
  · have hloud : Loud ops fl ord i := ⟨o, ho, hpf, hff, hino⟩
    have hie : i = e := by
      rcases Nat.lt_trichotomy i e with h | h | h
      · exact (hni (he1 i h hloud)).elim
      · exact h
      · obtain ⟨oe, hoe, hpe, hfe, _⟩ := (he2 (by omega)).1
        exact ((he2 (by omega)).2 (bef_closed R I.closed hi ((R.hord i hino e _ hoe hpe hfe (by omega)).1 h))).elim
    rw [hpf, hff, hino] at hstep
    simp only [Bool.not_true, Bool.not_false, Bool.true_and, Bool.false_eq_true, if_false] at hstep
    split at hstep
    · rename_i v S1 h1
      have hT := (Option.some.inj hstep).symm
      have hS1 : (T P W C ops fl ord A S (i + 1)).2 = S1 := by rw [hT]
      have hpi : Post W φ0 S w0 φ (T P W C ops fl ord A S i).2 w := by rw [hie]; exact hp
      refine opStep_sound R.hC hpi.rel (hρ hpi.rel) (fun x h1 h2 => ?_) c1 c2 h1 _ _ fun φ' v' w' hv hpo => ?_
      · rw [← hS1] at h2
        cases hx : φ x with
        | none => rfl
        | some L => have := dom_loud hloud x L hx; omega
      · rw [← hS1] at hpo
        have hpost := hpi.trans hcS hci hpo
        refine make hpo.ext hv (by rw [hT]) (advance hie φ' w' hpost fun x L ex => ?_) fun x L ex => hpo.dom x L ex
        rcases hpo.dom x L ex with h | h
        · have := dom_loud hloud x L h; omega
        · exact .inl h.2
    · cases hstep
  · have hino : ord i = false := by simpa using hino
    have hnl : ¬ Loud ops fl ord i := fun hl => by
      obtain ⟨oi, hoi, _, _, h⟩ := hl
      rw [hino] at h; cases h
    have hie : i < e := by
      rcases Nat.lt_or_ge i e with h | h
      · exact h
      · rcases Nat.lt_or_ge e ops.size with h2 | h2
        · obtain ⟨oe, hoe, hpe, hfe, hine⟩ := (he2 h2).1
          have hne : i ≠ e := by rintro rfl; exact hnl (he2 h2).1
          exact ((he2 h2).2 (bef_closed R I.closed hi ((R.hord e hine i _ ho hpf hff hne).2 (by omega)))).elim
        · omega
    have hq : ∀ m, i ≤ m → m < e → ¬ Loud ops fl ord m := by
      intro m h1 h2 hl
      have hT := he1 m h2 hl
      obtain ⟨om, hom, hpm, hfm, hinm⟩ := hl
      have hne : i ≠ m := by rintro rfl; exact hnl ⟨om, hom, hpm, hfm, hinm⟩
      exact hni (I.closed m hT i ((R.hord m hinm i _ ho hpf hff hne).1 (by omega)))
    rw [hpf, hff, hino] at hstep
    simp only [Bool.not_false, Bool.true_and, if_true] at hstep
    split at hstep
    · rename_i v S1 h1
      have hT := (Option.some.inj hstep).symm
      obtain ⟨S2, h2, hS2⟩ := unlock_spec h1
      have hS1 : (T P W C ops fl ord A S (i + 1)).2 = S2.relock (T P W C ops fl ord A S i).2.lock := by rw [hT]; exact hS2
      have hc2 : S2.c = (T P W C ops fl ord A S (i + 1)).2.c := by rw [hS1]; rfl
      have hr := Rel.shrink R (by omega : i ≤ e) he hq hp.rel
      refine opStep_sound R.hC hr (hρ hr) (fun x h1 h2 => ?_) c1 c2 h2 _ _ fun φ' v' w' hv hpo => ?_
      · have h1 : (T P W C ops fl ord A S i).2.c ≤ x := h1
        rw [hc2] at h2
        cases hx : φ x with
        | none => rfl
        | some L =>
          rcases I.dom x L hx with h | ⟨k, hk, hTk, k1, k2⟩
          · rw [hf x (by omega) (by omega)] at h; cases h
          · rcases Nat.lt_trichotomy k i with h | h | h
            · have := R.c_mono (show k + 1 ≤ i by omega) (by omega); omega
            · subst h; exact (hni hTk).elim
            · have := R.c_mono (show i + 1 ≤ k by omega) (by omega); omega
      · have hdom : ∀ x L, φ' x = some L → φ x = some L ∨ ((T P W C ops fl ord A S i).2.c ≤ x ∧ x < (T P W C ops fl ord A S (i + 1)).2.c) := fun x L ex => by
          rw [← hc2]; exact hpo.dom x L ex
        -- no block that was there is another
        have noT : ∀ b, ¬ Touch φ ((T P W C ops fl ord A S i).2.relock (T P W C ops fl ord A S i).2.c) b := by
          rintro b ⟨x, L, ex, eb, hl, hd⟩
          exact hd ((R.oks i (by omega)).2 x hl)
        have sameb : ∀ b, b < w.heap.size → w'.heap[b]? = w.heap[b]? := fun b hb => hpo.f1 b hb (noT b)
        have newb : ∀ x L, φ' x = some L → (T P W C ops fl ord A S i).2.c ≤ x → S2.heap x ≠ .dead → w.heap.size ≤ L.blk := fun x L ex hx hd => Nat.le_of_not_lt fun hlt => noT _ (hpo.f2 _ hlt ⟨x, L, ex, rfl, by
          have : S2.lock = (T P W C ops fl ord A S i).2.c := by
            have := (opStep_astep R.hA (relock_ok (R.oks i (by omega))) h2).lock
            exact this
          rw [this]; exact hx, hd⟩)
        have heap2 : ∀ x, x < (T P W C ops fl ord A S (i + 1)).2.c → (T P W C ops fl ord A S e).2.heap x = S2.heap x := fun x hx => by
          rw [R.quiets (by omega : i + 1 ≤ e) he (fun m h1 h2 => hq m (by omega) h2) hx, hS1]; rfl
        have rr := hp.rel
        have r2 := hpo.rel
        have hpost : Post W φ0 S w0 φ' (T P W C ops fl ord A S e).2 w' := by
          refine ⟨ELe.trans hp.ext hpo.ext, ⟨r2.below, r2.base, rr.lockN, rr.ok, rr.deadB, fun x L ex hx => ?_, fun x y Lx Ly ex ey hx hy hne dx dy => ?_⟩, fun x L ex => ?_, Nat.le_trans hp.size hpo.size, fun b hb ht => ?_, fun b hb ht => ?_⟩
          · rcases hdom x L ex with h | h
            · obtain ⟨b1, b2, b3⟩ := rr.blk x L h hx
              exact ⟨b1, Nat.lt_of_lt_of_le b2 hpo.size, (b3.heap (sameb _ b2)).mono hpo.ext⟩
            · rw [heap2 x h.2]; exact r2.blk x L ex hx
          · rcases hdom x Lx ex with h | h <;> rcases hdom y Ly ey with k | k
            · exact rr.inj x y Lx Ly h k hx hy hne dx dy
            · rw [heap2 y k.2] at dy
              have := newb y Ly ey k.1 dy
              have := (rr.blk x Lx h hx).2.1
              omega
            · rw [heap2 x h.2] at dx
              have := newb x Lx ex h.1 dx
              have := (rr.blk y Ly k hy).2.1
              omega
            · rw [heap2 x h.2] at dx
              rw [heap2 y k.2] at dy
              exact r2.inj x y Lx Ly ex ey hx hy hne dx dy
          · rcases hdom x L ex with h | h
            · exact hp.dom x L h
            · have := R.c_mono (show i + 1 ≤ e by omega) he
              exact .inr ⟨by omega, by omega⟩
          · rw [sameb b (Nat.lt_of_lt_of_le hb hp.size)]; exact hp.f1 b hb ht
          · obtain ⟨x, L, ex, eb, hl, hd⟩ := ht
            rcases hdom x L ex with h | h
            · exact hp.f2 b hb ⟨x, L, h, eb, hl, hd⟩
            · rw [heap2 x h.2] at hd
              have := newb x L ex h.1 hd
              have := hp.size
              omega
        exact make hpo.ext hv (by rw [hT]) ⟨e, he, (same_e (by omega)).1, (same_e (by omega)).2, hpost⟩ hdom
    · cases hstep
theorem any_sound (R : Row P W C ops fl ord A S A' S') (hf : Free φ0 S.c S'.c) {Q : Exit → Act → World → Prop} (hQ : ∀ φ' a' w', ActRel W.heap.size φ' A' a' → Post W φ0 S w0 φ' S' w' → Q .normal a' w') :
    ∀ (fuel : Nat) (listed : Array Bool) (φ : Emb) (a : Act) (w : World), Inv (P := P) (W := W) (C := C) (ops := ops) (A := A) (S := S) (fl := fl) (ord := ord) φ0 w0 a0 listed φ a w → (List.range ops.size).countP (fun k => !listed.getD k false) ≤ fuel → wpAny P .any ops Q fuel listed a w := by
  have fin : ∀ (listed : Array Bool) (φ : Emb) (a : Act) (w : World), Inv (P := P) (W := W) (C := C) (ops := ops) (A := A) (S := S) (fl := fl) (ord := ord) φ0 w0 a0 listed φ a w → Region.ready .any ops listed = [] → Q .normal a w := by
    intro listed φ a w I hr
    have all : ∀ k, k < ops.size → Tm listed k := by
      intro k
      induction k using Nat.strongRecOn with
      | _ k ih =>
        intro hk
        refine Classical.byContradiction fun hn => ?_
        have : k ∈ Region.ready .any ops listed := by
          refine mem_ready.2 ⟨?_, ops[k], Array.getElem?_eq_getElem hk, fun e he hb => ?_⟩
          · unfold Tm at hn
            have hkl : k < listed.size := by rw [I.size]; exact hk
            simp only [Array.getD_eq_getD_getElem?, Array.getElem?_eq_getElem hkl, Option.getD_some] at hn ⊢
            simpa using hn
          · have hlt := ((regionOk_spec R.hreg).1 k _ (Array.getElem?_eq_getElem hk)).2 e he hb
            exact ih e.on hlt (by omega)
        rw [hr] at this
        cases this
    obtain ⟨e, he, he1, he2, hp⟩ := I.mem
    have hee : e = ops.size := by
      rcases Nat.lt_or_ge e ops.size with h | h
      · exact ((he2 h).2 (all e h)).elim
      · omega
    subst hee
    have hT := R.last
    rw [hT] at hp
    refine hQ φ a w ⟨⟨?_, fun i v hv => ?_⟩, ?_⟩ hp
    · have := (R.sizes (Nat.le_refl _)).1
      rw [hT] at this
      simp only [Array.length_toList]
      rw [this, I.tsz]
    · have key : VRel W.heap.size φ (A'.tmps.getD i undef) (a.tmps.getD i undef) := by
        rcases I.tmps i with ⟨k, o, h1, h2, h3, h4, h5⟩ | ⟨h1, h2⟩
        · have hk := (Array.getElem?_eq_some_iff.1 h2).1
          have := R.slot (i := k + 1) (j := ops.size) (by omega) (Nat.le_refl _) (t := i) (fun m o' m1 m2 ho' hd' => by
            have := h4 m o' (all m m2) ho' hd'
            omega)
          rw [hT] at this
          rw [this]; exact h5
        · have := R.slot (i := 0) (j := ops.size) (Nat.zero_le _) (Nat.le_refl _) (t := i) (fun m o' m1 m2 ho' hd' => h1 m o' (all m m2) ho' hd')
          rw [hT] at this
          rw [this]; exact h2
      rw [Array.getElem?_toList] at hv
      have hi := (Array.getElem?_eq_some_iff.1 hv).1
      have hsz : A'.tmps.size = a.tmps.size := by
        have := (R.sizes (Nat.le_refl _)).1
        rw [hT] at this
        rw [this, I.tsz]
      have hi' : i < a.tmps.size := by omega
      refine ⟨a.tmps[i], by rw [Array.getElem?_toList]; exact Array.getElem?_eq_getElem hi', ?_⟩
      simp only [Array.getD_eq_getD_getElem?, hv, Array.getElem?_eq_getElem hi', Option.getD_some] at key
      exact key
    · have := (R.sizes (Nat.le_refl _)).2
      rw [hT] at this
      rw [this]; exact I.dfr
  intro fuel
  induction fuel with
  | zero =>
    intro listed φ a w I hc
    have hr : Region.ready .any ops listed = [] := by
      refine List.eq_nil_iff_forall_not_mem.2 fun k hk => ?_
      obtain ⟨h0, o, ho, _⟩ := mem_ready.1 hk
      have hkn := (Array.getElem?_eq_some_iff.1 ho).1
      have hpos : 0 < (List.range ops.size).countP (fun k => !listed.getD k false) := List.countP_pos_iff.2 ⟨k, List.mem_range.2 hkn, by
        have hkl : k < listed.size := by rw [I.size]; exact hkn
        simp only [Array.getD_eq_getD_getElem?, Array.getElem?_eq_getElem hkl, Option.getD_some] at h0 ⊢
        rw [h0]; rfl⟩
      omega
    exact ⟨hr, fin listed φ a w I hr⟩
  | succ fuel ih =>
    intro listed φ a w I hc
    refine ⟨fun hr => fin listed φ a w I hr, fun i hi => inv_step R hf I hi fun φ' a' w' I' => ih _ φ' a' w' I' ?_⟩
    obtain ⟨h0, o, ho, _⟩ := mem_ready.1 hi
    have hin := (Array.getElem?_eq_some_iff.1 ho).1
    have hil : i < listed.size := by rw [I.size]; exact hin
    have : (List.range ops.size).countP (fun k => !(listed.setIfInBounds i true).getD k false) < (List.range ops.size).countP (fun k => !listed.getD k false) := by
      have e0 : listed.getD i false = false := by
        simp only [Array.getD_eq_getD_getElem?, Array.getElem?_eq_getElem hil, Option.getD_some] at h0 ⊢
        exact h0
      have key : ∀ l : List Nat, (l.countP fun k => !(listed.setIfInBounds i true).getD k false) ≤ (l.countP fun k => !listed.getD k false) ∧ (i ∈ l → (l.countP fun k => !(listed.setIfInBounds i true).getD k false) < (l.countP fun k => !listed.getD k false)) := by
        intro l
        induction l with
        | nil => exact ⟨Nat.le_refl _, fun h => by cases h⟩
        | cons x l ih =>
          simp only [List.countP_cons]
          by_cases hx : i = x
          · subst hx
            have e1 : (listed.setIfInBounds i true).getD i false = true := (tm_set hil).2 (.inl rfl)
            rw [e1, e0]
            simp only [Bool.not_true, Bool.not_false, Bool.false_eq_true, if_false, if_true]
            have := ih.1
            exact ⟨by omega, fun _ => by omega⟩
          · rw [getD_set_ne false hx]
            have := ih.1
            refine ⟨by split <;> omega, fun hm => ?_⟩
            have := ih.2 (by simpa [hx] using hm)
            split <;> omega
      exact (key _).2 (List.mem_range.2 hin)
    omega
end
end Go.Proofs.Yteofdikfdknpbaa.E
end
