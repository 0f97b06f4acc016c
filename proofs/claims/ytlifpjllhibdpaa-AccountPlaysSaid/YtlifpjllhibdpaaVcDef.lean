/-
  The symbolic evaluator: what is asked of a piece of code, as a proposition computed from the code. Nothing here is trusted: Lean checks it. It names no program.
-/
import Derived.WalkKit
import Derived.WalkLawsBesides
import Derived.RangeFuncFrom
set_option linter.unusedVariables false
set_option linter.unusedSimpArgs false
namespace Go.Vc
open Go.RowKit

/-- a symbolic value: a value; a pointer into a box of the call's own; nothing known -/
inductive SV where
  | val (v : Value)
  | own (id off : Nat)
  | unk

/-- a box of the call's own -/
structure Bx where
  ty : TypeId
  cs : List Value

structure St where
  tmps : Nat → SV
  own : Nat → Option Bx
  nx : Nat

def St.put (st : St) (d : Nat) (x : SV) : St := { st with tmps := fun t => bif Nat.beq t d then x else st.tmps t }
def St.putO (st : St) (d : Option Nat) (x : SV) : St := match d with | some d => st.put d x | none => st
def St.setOwn (st : St) (i : Nat) (b : Option Bx) : St := { st with own := fun t => bif Nat.beq t i then b else st.own t }

/-- what is known of memory: cells, a size that the heap has at least, blocks that are rows of cells and not frozen -/
structure M where
  π : Nat → Nat → Option Value
  sz : Nat
  uf : Nat → Prop

def M.ok (m : M) (w : World) : Prop :=
  m.sz ≤ w.heap.size ∧ (∀ b o v, m.π b o = some v → b < m.sz ∧ w.cell? ⟨b, o, none⟩ = some v) ∧
    (∀ b, m.uf b → b < m.sz ∧ ∃ c t, w.heap[b]? = some (.cells c t (0, 0)))

/-- below block number B the second knows what the first knows -/
def Agree (B : Nat) (m m' : M) : Prop := (∀ b, b < B → m'.π b = m.π b) ∧ (∀ b, b < B → (m'.uf b ↔ m.uf b)) ∧ m.sz ≤ m'.sz

def Ret (w : World) (v : Value) (e : Ending) (w' : World) : Prop := e = .returned v ∧ Below w.heap.size w w'

/-- a call that hands back a value and makes memory at most -/
structure QSpec (P : Program) (g : FuncId) (args : List Value) (m : M) (v : Value) : Prop where
  out : ∀ w, m.ok w → Calls P g args.toArray w (Ret w v)

/-- a call that hands back memory of its own -/
structure Spec (P : Program) (g : FuncId) (args : List Value) (m : M) (Post : Value → M → Prop) : Prop where
  out : ∀ w, m.ok w → m.sz = w.heap.size → Calls P g args.toArray w fun e w' =>
    ∃ v m', e = .returned v ∧ Below w.heap.size w w' ∧ m'.ok w' ∧ Agree m.sz m m' ∧ Post v m'

/-- below block number B, but for the blocks of S, the second world is as the first -/
structure BelowS (B : Nat) (S : Nat → Prop) (w w' : World) : Prop where
  os : w'.os = w.os
  tape : w'.tape = w.tape
  output : w'.output = w.output
  size : w.heap.size ≤ w'.heap.size
  block : ∀ k, k < B → ¬ S k → w'.heap[k]? = w.heap[k]?
  keeps : ∀ (k : Nat) (o : Obj), w.heap[k]? = some o → o.isCells = false → w'.heap[k]? = some o

def AgreeS (B : Nat) (S : Nat → Prop) (m m' : M) : Prop := (∀ b, b < B → ¬ S b → m'.π b = m.π b) ∧ (∀ b, b < B → ¬ S b → (m'.uf b ↔ m.uf b)) ∧ m.sz ≤ m'.sz

/-- a call that may write to the blocks of S -/
structure SpecW (P : Program) (g : FuncId) (args : List Value) (m : M) (S : Nat → Prop) (Post : Value → M → Prop) : Prop where
  out : ∀ w, m.ok w → m.sz = w.heap.size → Calls P g args.toArray w fun e w' =>
    ∃ v m', e = .returned v ∧ BelowS w.heap.size S w w' ∧ m'.ok w' ∧ AgreeS m.sz S m m' ∧ Post v m'

/-- a value of one cell -/
def one : Value → Bool
  | .agg _ | .tuple _ => false
  | _ => true

/-- a value's shape -/
inductive Sh where
  | int (k : IntKind)
  | bool
  | str
  | sl
  | ptr
  | fn
  | any
  | agg (l : List Sh)
  | tup (l : List Sh)

mutual
def exSh : Sh → (Value → Prop) → Prop
  | .int k, K => ∃ n : Int, K (.int k n)
  | .bool, K => ∃ b : Bool, K (.bool b)
  | .str, K => ∃ s : ByteArray, K (.string s)
  | .sl, K => ∃ (a : Option Addr) (n c : Nat), K (.slice a n c)
  | .ptr, K => ∃ (a : Option Addr), K (.pointer a)
  | .fn, K => ∃ (f : FuncId) (caps : List Value), K (.func (.func f) #[] caps.toArray)
  | .any, K => ∃ v : Value, one v = true ∧ K v
  | .agg l, K => exCells l [] fun cs => K (.agg cs.toArray)
  | .tup l, K => exVals l [] fun vs => K (.tuple vs.toArray)
def exCells : List Sh → List Value → (List Value → Prop) → Prop
  | [], acc, K => K acc
  | s :: r, acc, K => exSh s fun v => exCells r (acc ++ v.cells.toList) K
def exVals : List Sh → List Value → (List Value → Prop) → Prop
  | [], acc, K => K acc
  | s :: r, acc, K => exSh s fun v => exVals r (acc ++ [v]) K
end

mutual
def Sh.mem : Sh → Bool
  | .sl | .ptr | .fn | .any => true
  | .agg l | .tup l => memAll l
  | _ => false
def memAll : List Sh → Bool
  | [] => false
  | s :: r => s.mem || memAll r
end

def shOf (P : Program) : Nat → TypeId → Sh
  | 0, _ => .any
  | d + 1, t =>
    match P.underlying t with
    | some (.int k) => .int k
    | some .bool => .bool
    | some .string => .str
    | some (.slice _) => .sl
    | some (.pointer _) => .ptr
    | some (.func ..) => .fn
    | some (.struct fs) => .agg (fs.toList.map fun f => shOf P d f.type)
    | some (.tuple ts) => .tup (ts.toList.map fun t => shOf P d t)
    | some (.array len e) => .agg (List.replicate len (shOf P d e))
    | _ => .any

mutual
def allSh : Sh → (Value → Prop) → Prop
  | .int k, K => ∀ n : Int, K (.int k n)
  | .bool, K => ∀ b : Bool, K (.bool b)
  | .str, K => ∀ s : ByteArray, K (.string s)
  | .sl, K => ∀ (a : Option Addr) (n c : Nat), K (.slice a n c)
  | .ptr, K => ∀ (a : Option Addr), K (.pointer a)
  | .fn, K => ∀ (f : FuncId) (caps : List Value), K (.func (.func f) #[] caps.toArray)
  | .any, K => ∀ v : Value, one v = true → K v
  | .agg l, K => allCells l [] fun cs => K (.agg cs.toArray)
  | .tup l, K => allVals l [] fun vs => K (.tuple vs.toArray)
def allCells : List Sh → List Value → (List Value → Prop) → Prop
  | [], acc, K => K acc
  | s :: r, acc, K => allSh s fun v => allCells r (acc ++ v.cells.toList) K
def allVals : List Sh → List Value → (List Value → Prop) → Prop
  | [], acc, K => K acc
  | s :: r, acc, K => allSh s fun v => allVals r (acc ++ [v]) K
end

/-- a test -/
def ifB (b : Bool) (X Y : Prop) : Prop := match b with | true => X | false => Y

def pureK {α : Type} (P : Program) : Sem α → (α → Prop) → Prop
  | .pure a, K => K a
  | .program k, K => pureK P (k P) K
  | .mark _ k, K => pureK P k K
  | _, _ => False

def evO (st : St) : Operand → SV
  | .tmp t => st.tmps t
  | .const v => .val v
  | .global g => .val (.pointer (some ⟨g, 0, none⟩))
  | .func f => .val (.func (.func f) #[] #[])

def withVal (st : St) (x : Operand) (K : Value → Prop) : Prop := match evO st x with | .val v => K v | _ => False
def withVals (st : St) : List Operand → List Value → (List Value → Prop) → Prop
  | [], acc, K => K acc
  | x :: r, acc, K => withVal st x fun v => withVals st r (acc ++ [v]) K

inductive Eff where
  | put (x : SV)
  | box (id : Nat) (b : Bx)
  | wr (id : Nat) (b : Bx)

def St.app (st : St) (dst : Option Nat) : Eff → St
  | .put x => st.putO dst x
  | .box id b => (st.putO dst (.own id 0)).setOwn id (some b)
  | .wr id b => (st.putO dst (.val undef)).setOwn id (some b)

def isAggT (P : Program) (t : TypeId) : Bool := match P.underlying t with | some (.struct _) | some (.array _ _) => true | _ => false
def sizeT (P : Program) (t : TypeId) : Nat := match P.info? t with | some i => i.size | none => 0

def takeCells (n : Nat) (l : List Value) : Option (List Value) :=
  match n, l with
  | 0, _ => some []
  | n + 1, v :: r => (takeCells n r).map (v :: ·)
  | _ + 1, [] => none

def okT (P : Program) (t : TypeId) : Bool := (P.underlying t).isSome && (P.info? t).isSome

/-- a variable's value out of a box's cells -/
def ldOwn (P : Program) (t : TypeId) (cs : List Value) (off : Nat) : Option Value :=
  match okT P t, isAggT P t with
  | true, true => (takeCells (sizeT P t) (cs.drop off)).map fun l => .agg l.toArray
  | true, false => cs[off]?
  | false, _ => none

/-- cells over a box's cells -/
def overCells : List Value → Nat → List Value → List Value
  | c :: cs, 0, v :: vs => v :: overCells cs 0 vs
  | cs, 0, [] => cs
  | c :: cs, o + 1, vs => c :: overCells cs o vs
  | [], _, _ => []

def oneCells : List Value → Bool
  | [] => true
  | v :: r => one v && oneCells r

structure CellsAt (m : M) (b : Nat) (o : Nat) (cs : List Value) : Prop where
  out : ∀ j, j < cs.length → m.π b (o + j) = cs[j]?
structure Done (p : Prop) : Prop where
  out : p

def fieldOff (P : Program) (s : TypeId) (f : Nat) : Option Nat :=
  match P.underlying s with
  | some (.struct fs) => match fs[f]? with
    | some f => bif Nat.beq (sizeT P f.type) 0 then none else (if P.info? f.type |>.isSome then some f.offset else none)
    | none => none
  | _ => none

def elemSize (P : Program) (t : TypeId) : Option Nat :=
  match P.underlying t with
  | some (.slice e) => match P.info? e with | some i => some i.size | none => none
  | _ => none

/-- '==' on plain values -/
def partB (P : Program) (t : TypeId) (cs : Array Value) (off : Nat) : Option Value :=
  match isAggT P t with
  | true => some (.agg (cs.extract off (off + sizeT P t)))
  | false => cs[off]?

def eqFs (P : Program) (eq : TypeId → Value → Value → Option Bool) : List Field → Array Value → Array Value → Option Bool
  | [], _, _ => some true
  | f :: r, xs, ys =>
    match f.name != "_" && (P.info? f.type).isSome, partB P f.type xs f.offset, partB P f.type ys f.offset with
    | true, some x, some y =>
      match eq f.type x y, eqFs P eq r xs ys with
      | some b, some c => some (b && c)
      | _, _ => none
    | _, _, _ => none
def eqB (P : Program) : Nat → TypeId → Value → Value → Option Bool
  | 0, _, _, _ => none
  | d + 1, t, x, y =>
    match P.underlying t, x, y with
    | some .bool, .bool a, .bool b => some (a == b)
    | some (.int _), .int k a, .int k' b => match decide (k = k') with | true => some (a == b) | false => none
    | some .string, .string a, .string b => some (a.toList == b.toList)
    | some (.struct fs), .agg xs, .agg ys => match P.stoodInHeld t with | true => none | false => eqFs P (eqB P d) fs.toList xs ys
    | _, _, _ => none

/-- an array's length, and its element's cells -/
def arrInfo (P : Program) (t : TypeId) : Option (Nat × Nat) :=
  match P.underlying t with
  | some (.array len e) => match P.info? e with | some i => some (len, i.size) | none => none
  | _ => none

def sliceTo (a : Option Addr) (l h m size : Nat) : Value := .slice (if m = l then a else a.map (·.add (l * size))) (h - l) (m - l)

def boundV (st : St) (x : Option Operand) (d : Int) (K : Int → Prop) : Prop :=
  match x with
  | none => K d
  | some x => match evO st x with | .val (.int _ n) => K n | _ => False

def aggLike : Bool → Value → Bool
  | true, .agg _ => true
  | true, _ => false
  | false, .agg _ => false
  | false, .tuple _ => false
  | false, _ => true

def anyPtr (P : Program) : List TypeId → Bool
  | [] => false
  | t :: r => (match P.underlying t with | some (.pointer _) => true | _ => false) || anyPtr P r

/-- functions without a body whose answer is told by a fact, not reckoned -/
def isRel (n : String) : Bool := n == "math/bits.Add64" || n == "math/bits.Sub64" || n == "internal/bytealg.abigen_runtime_cmpstring" || n == "internal/bytealg.Compare"

structure CallV (P : Program) (g : FuncId) (args : List Value) (v : Value) : Prop where
  out : pureK P (callFunc g args.toArray) fun n => match n with | .value u => u = v | _ => False

/-- a call of a function without a body that looks at memory -/
structure RunV (P : Program) (g : FuncId) (args : List Value) (m : M) (v : Value) : Prop where
  out : ∀ w, m.ok w → (callFunc g args.toArray).run P w = .ok (.value v) w

def hasSlice (P : Program) : List TypeId → Bool
  | [] => false
  | t :: r => (match P.underlying t with | some (.slice _) => true | _ => false) || hasSlice P r

def voidT (P : Program) (t : TypeId) : Bool := match P.underlying t with | some (.tuple ts) => (match ts.toList with | [] => true | _ => false) | _ => false

/-- may the call write to memory, by its types: it takes a pointer, or it takes a list and hands back nothing -/
def wrT (P : Program) (t : TypeId) (args : List TypeId) : Bool := anyPtr P args || (voidT P t && hasSlice P args)

/-- one operation that keeps the knowledge of memory as it is -/
def opK (P : Program) (o : Oper) (id : Nat) (st : St) (m : M) (K : Eff → Prop) : Prop :=
  match o.op with
  | .move x | .assign x => K (.put (evO st x))
  | .pick c a b => match evO st c with | .val (.bool c) => ifB c (K (.put (evO st a))) (K (.put (evO st b))) | _ => False
  | .alloc t => pureK P (zeroValue t) fun v => K (.box id ⟨t, v.cells.toList⟩)
  | .box t x => withVal st x fun v => K (.box id ⟨t, v.cells.toList⟩)
  | .load t x =>
    match evO st x with
    | .own i off => match st.own i with
      | some b => match ldOwn P t b.cs off with | some v => K (.put (.val v)) | none => False
      | none => False
    | .val (.pointer (some ⟨b, off, none⟩)) => exSh (shOf P 20 t) fun v => match aggLike (isAggT P t) v && Nat.beq v.cells.size (sizeT P t) && okT P t with | true => CellsAt m b off v.cells.toList ∧ K (.put (.val v)) | false => False
    | _ => False
  | .store t x y =>
    match evO st x, evO st y with
    | .own i off, .val v => match st.own i with
      | some b => match Nat.beq v.cells.size (sizeT P t) && Nat.ble (off + v.cells.size) b.cs.length && oneCells v.cells.toList && okT P t with
        | true => K (.wr i ⟨b.ty, overCells b.cs off v.cells.toList⟩)
        | false => False
      | none => False
    | _, _ => False
  | .fieldAddr s x f =>
    match evO st x with
    | .own i off => match fieldOff P s f with | some k => K (.put (.own i (off + k))) | none => False
    | .val (.pointer (some ⟨b, off, none⟩)) => match fieldOff P s f with | some k => K (.put (.val (.pointer (some ⟨b, off + k, none⟩)))) | none => False
    | _ => False
  | .indexAddr t x ix =>
    match evO st x, evO st ix, elemSize P t with
    | .val (.slice a len _), .val (.int _ n), some size =>
      ∃ b off, a = some ⟨b, off, none⟩ ∧ (0 ≤ n ∧ n < len) ∧ K (.put (.val (.pointer (some ⟨b, off + n.toNat * size, none⟩))))
    | .val (.pointer (some ⟨b, off, none⟩)), .val (.int _ n), none =>
      match arrInfo P t with
      | some (len, size) => (0 ≤ n ∧ n < len) ∧ K (.put (.val (.pointer (some ⟨b, off + n.toNat * size, none⟩))))
      | none => False
    | _, _, _ => False
  | .nilCheck x =>
    match evO st x with
    | .own i off => K (.put (.own i off))
    | .val (.pointer (some a)) => K (.put (.val (.pointer (some a))))
    | .val (.func (.func f) first caps) => K (.put (.val (.func (.func f) first caps)))
    | _ => False
  | .field t x f => withVal st x fun v => pureK P (Instr.field t v f) fun v => K (.put (.val v))
  | .extract x i => withVal st x fun v => pureK P (Instr.extract v i) fun v => K (.put (.val v))
  | .unOp op _ x => withVal st x fun v => pureK P (Op.unary op v) fun v => K (.put (.val v))
  | .convert s d x => withVal st x fun v => pureK P (convert s d v) fun v => K (.put (.val v))
  | .build t parts => withVals st (parts.toList.map (·.2)) [] fun vs => pureK P (Instr.build t ((parts.toList.map (·.1)).zip vs).toArray) fun v => K (.put (.val v))
  | .binOp op t x y _ =>
    withVal st x fun v => withVal st y fun u =>
      match op, v, u with
      | .quo, .int k a, .int k' b => match decide (k = k') with | true => b ≠ 0 ∧ K (.put (.val (.int k (k.wrap (a.tdiv b))))) | false => False
      | .rem, .int k a, .int k' b => match decide (k = k') with | true => b ≠ 0 ∧ K (.put (.val (.int k (a.tmod b)))) | false => False
      | .eql, .agg xs, .agg ys => match P.eqGuardType P.depth t, eqB P 50 t (.agg xs) (.agg ys) with | false, some b => K (.put (.val (.bool b))) | _, _ => False
      | .neq, .agg xs, .agg ys => match P.eqGuardType P.depth t, eqB P 50 t (.agg xs) (.agg ys) with | false, some b => K (.put (.val (.bool !b))) | _, _ => False
      | .eql, .slice a _ _, .slice none _ _ => match P.underlying t with | some (.slice _) => K (.put (.val (.bool a.isNone))) | _ => False
      | .neq, .slice a _ _, .slice none _ _ => match P.underlying t with | some (.slice _) => K (.put (.val (.bool !a.isNone))) | _ => False
      | .eql, .func _ _ _, .nilFunc => match P.underlying t with | some (.func _ _ _) => K (.put (.val (.bool false))) | _ => False
      | op, .int k a, .int k' b => pureK P (Go.binOp op t (.int k a) (.int k' b)) fun v => K (.put (.val v))
      | op, .string a, .string b => pureK P (Go.binOp op t (.string a) (.string b)) fun v => K (.put (.val v))
      | op, .bool a, .bool b => pureK P (Go.binOp op t (.bool a) (.bool b)) fun v => K (.put (.val v))
      | _, _, _ => False
  | .slice t x lo hi mx =>
    match evO st x, P.underlying t with
    | .val (.string s), some .string => boundV st lo 0 fun l => boundV st hi s.size fun h =>
        (mx.isNone = true ∧ 0 ≤ l ∧ l ≤ h ∧ ifB hi.isSome (h ≤ s.size) True) ∧ K (.put (.val (.string (s.extract l.toNat h.toNat))))
    | .val (.slice a len cap), some (.slice e) => match P.info? e with
      | some i => boundV st lo 0 fun l => boundV st hi len fun h => boundV st mx cap fun mm =>
        ((hi.isSome || mx.isNone) = true ∧ 0 ≤ l ∧ l ≤ h ∧ ifB hi.isSome (h ≤ mm) True ∧ ifB mx.isSome (mm ≤ cap) True) ∧ K (.put (.val (sliceTo a l.toNat h.toNat mm.toNat i.size)))
      | none => False
    | _, _ => False
  | .call c =>
    match c.callee with
    | .builtin b =>
      match (match b with | .len | .cap | .min | .max => true | _ => false) with
      | true => withVals st c.args.toList [] fun vs => pureK P (Go.builtin b c.argTypes o.type (c.args.map fun | .const _ => true | _ => false) vs.toArray) fun n => match n with | .value v => K (.put (.val v)) | _ => False
      | false => False
    | .value f =>
      match evO st f with
      | .val (.func (.func g) first caps) =>
        match P.funcs[g]? with
        | some fn => match fn.body.isSome && fn.name != "runtime.NumGoroutine" && !(shOf P 20 o.type).mem && !anyPtr P c.argTypes.toList with
          | true => withVals st c.args.toList [] fun vs => exSh (shOf P 20 o.type) fun v => QSpec P g (first.toList ++ vs ++ caps.toList) m v ∧ K (.put (.val v))
          | false => match fn.body.isSome with
            | true => False
            | false => match isRel fn.name with
              | true => withVals st c.args.toList [] fun vs => exSh (shOf P 20 o.type) fun v => CallV P g (first.toList ++ vs ++ caps.toList) v ∧ K (.put (.val v))
              | false => match hasSlice P c.argTypes.toList with
                | true => withVals st c.args.toList [] fun vs => exSh (shOf P 20 o.type) fun v => RunV P g (first.toList ++ vs ++ caps.toList) m v ∧ K (.put (.val v))
                | false => withVals st c.args.toList [] fun vs => pureK P (callFunc g (first.toList ++ vs ++ caps.toList).toArray) fun n => match n with | .value v => K (.put (.val v)) | _ => False
        | none => False
      | _ => False
    | _ => False
  | _ => False

/-- a guarded operation: the test's slot is set to what it was found to be -/
def guardK (ops : Array Oper) (o : Oper) (st : St) (run skip : St → Prop) : Prop :=
  match o.guard with
  | none => run st
  | some (j, want) =>
    match (ops[j]?).bind (·.dst) with
    | some d =>
      match st.tmps d with
      | .val (.bool b) => ifB b
          (match want with | true => run (st.put d (.val (.bool true))) | false => skip (st.put d (.val (.bool true))))
          (match want with | true => skip (st.put d (.val (.bool false))) | false => run (st.put d (.val (.bool false))))
      | .val _ => skip st
      | _ => False
    | none => skip st

def M.newBlock (m : M) (b : Nat) (cs : List Value) : M :=
  { π := fun b' o => bif Nat.beq b' b then cs[o]? else m.π b' o, sz := max m.sz (b + 1), uf := fun b' => b' = b ∨ m.uf b' }
def M.setCells (m : M) (b o : Nat) (cs : List Value) : M :=
  { m with π := fun b' o' => if b' = b ∧ o ≤ o' ∧ o' < o + cs.length then cs[o' - o]? else m.π b' o' }

/-- block b is new: nothing is known of it, and it is no block of the caller's -/
structure Fresh (B : Nat) (m : M) (b : Nat) : Prop where
  lo : B ≤ b
  cells : ∀ o, m.π b o = none
  uf : ¬ m.uf b

/-- cells that may be written -/
structure Wr (B : Nat) (S : Nat → Prop) (m : M) (b o n : Nat) : Prop where
  lo : B ≤ b ∨ S b
  uf : m.uf b
  there : ∀ j, j < n → ∃ v, m.π b (o + j) = some v

def RowAt (m : M) (a : Option Addr) (cs : List Value) : Prop := cs = [] ∨ ∃ b o, a = some ⟨b, o, none⟩ ∧ CellsAt m b o cs

structure AppPre (B : Nat) (S : Nat → Prop) (m : M) (size bytes : Nat) (a : Option Addr) (len cap : Nat) (a2 : Option Addr) (n : Nat) (old src : List Value) : Prop where
  hold : RowAt m a old
  oldl : old.length = len * size
  hsrc : RowAt m a2 src
  srcl : src.length = n * size
  one : oneCells src = true
  bound : (len + n) * bytes ≤ 140737488355328 ∧ len + n ≤ 140737488355328
  nil : a = none → len = 0 ∧ cap = 0
  room : n ≠ 0 → len + n ≤ cap → ∃ b o, a = some ⟨b, o, none⟩ ∧ Wr B S m b (o + len * size) (n * size)

def zeroRow (P : Program) (e : TypeId) (n : Nat) : List Value :=
  match P.info? e with
  | some i => match i.zero with | some z => (Builtin.zeroCells z.cells n).toList | none => []
  | none => []

def AppPost (P : Program) (e : TypeId) (m : M) (size : Nat) (a : Option Addr) (len cap n : Nat) (old src : List Value) (a' : Option Addr) (c' : Nat) (m' : M) : Prop :=
  (len + n ≤ cap ∧ a' = a ∧ c' = cap ∧ ((n = 0 ∧ m' = m) ∨ ∃ b o, a = some ⟨b, o, none⟩ ∧ m' = m.setCells b (o + len * size) src)) ∨
  (cap < len + n ∧ ∃ b, m.sz ≤ b ∧ len + n ≤ c' ∧ a' = some ⟨b, 0, none⟩ ∧ m' = m.newBlock b (old ++ src ++ zeroRow P e (c' - (len + n))))

/-- 'append(s, make([]T, n)...)': the translation hands over the number -/
structure AppPreZ (P : Program) (e : TypeId) (B : Nat) (S : Nat → Prop) (m : M) (size bytes : Nat) (a : Option Addr) (len cap n : Nat) (old : List Value) : Prop where
  hold : RowAt m a old
  oldl : old.length = len * size
  srcl : (zeroRow P e n).length = n * size
  one : oneCells (zeroRow P e n) = true
  pos : 0 < size
  bound : (len + n) * bytes ≤ 140737488355328 ∧ len + n ≤ 140737488355328
  nil : a = none → len = 0 ∧ cap = 0
  room : n ≠ 0 → len + n ≤ cap → ∃ b o, a = some ⟨b, o, none⟩ ∧ Wr B S m b (o + len * size) (n * size)

def isIntT (P : Program) (t : TypeId) : Bool := match P.underlying t with | some (.int _) => true | _ => false

structure CopyPre (B : Nat) (S : Nat → Prop) (m : M) (size : Nat) (a : Option Addr) (len : Nat) (a2 : Option Addr) (n : Nat) (src : List Value) : Prop where
  hsrc : RowAt m a2 src
  srcl : src.length = min n len * size
  one : oneCells src = true
  wr : src ≠ [] → ∃ b o, a = some ⟨b, o, none⟩ ∧ Wr B S m b o src.length
  nn : min n len ≠ 0 → a2 ≠ none

def CopyPost (m : M) (a : Option Addr) (src : List Value) (m' : M) : Prop := (src = [] ∧ m' = m) ∨ ∃ b o, a = some ⟨b, o, none⟩ ∧ m' = m.setCells b o src

def escB (st : St) (i b : Nat) : St :=
  { tmps := fun t => match st.tmps t with | .own j o => bif Nat.beq j i then .val (.pointer (some ⟨b, o, none⟩)) else .own j o | x => x
    own := fun t => bif Nat.beq t i then none else st.own t, nx := st.nx }

/-- values of operands; a box whose address goes out becomes a block -/
def withValsE (B : Nat) : List Operand → List Value → St → M → (List Value → St → M → Prop) → Prop
  | [], acc, st, m, K => K acc st m
  | x :: r, acc, st, m, K =>
    match evO st x with
    | .val v => withValsE B r (acc ++ [v]) st m K
    | .own i off => match st.own i with
      | some bx => ∀ b, Fresh B m b → withValsE B r (acc ++ [.pointer (some ⟨b, off, none⟩)]) (escB st i b) (m.newBlock b bx.cs) K
      | none => False
    | .unk => False

/-- boxes whose address goes out -/
def escAll (B : Nat) : List Nat → St → M → (St → M → Prop) → Prop
  | [], st, m, K => K st m
  | i :: r, st, m, K => match st.own i with
    | some bx => ∀ b, Fresh B m b → escAll B r (escB st i b) (m.newBlock b bx.cs) K
    | none => escAll B r st m K

/-- what is called, and hands memory back or takes pointers -/
def memCall (P : Program) (st : St) (o : Oper) : Option (FuncId × List Value × List Value × List Operand × Sh × Bool) :=
  match o.op with
  | .call c => match c.callee with
    | .value f => match evO st f with
      | .val (.func (.func g) first caps) => match P.funcs[g]? with
        | some fn => match fn.body.isSome && fn.name != "runtime.NumGoroutine" && ((shOf P 20 o.type).mem || wrT P o.type c.argTypes.toList) with
          | true => some (g, first.toList, caps.toList, c.args.toList, shOf P 20 o.type, anyPtr P c.argTypes.toList || hasSlice P c.argTypes.toList)
          | false => none
        | none => none
      | _ => none
    | _ => none
  | _ => none

def elemInfo (P : Program) (t : TypeId) : Option (TypeId × TypeInfo) :=
  match P.underlying t with
  | some (.slice e) => match P.info? e with | some i => some (e, i) | none => none
  | _ => none

def opKM (P : Program) (B : Nat) (S : Nat → Prop) (o : Oper) (id : Nat) (st : St) (m : M) (K : Eff → St → M → Prop) : Prop :=
  match memCall P st o with
  | some (g, first, caps, args, sh, true) => withValsE B args [] st m fun vs st m => ∃ S' : Nat → Prop, (∀ b, S' b → m.uf b ∧ (B ≤ b ∨ S b)) ∧ ∀ n, m.sz ≤ n →
      SpecW P g (first ++ vs ++ caps) { m with sz := n } S' fun v m' => exSh sh fun u => v = u ∧ K (.put (.val u)) st m'
  | some (g, first, caps, args, sh, false) => withVals st args [] fun vs => ∀ n, m.sz ≤ n →
      Spec P g (first ++ vs ++ caps) { m with sz := n } fun v m' => exSh sh fun u => v = u ∧ K (.put (.val u)) st m'
  | none =>
    match o.op with
    | .makeFunc fn first caps => withValsE B (first.toList ++ caps.toList) [] st m fun vs st m =>
        pureK P (Instr.makeFunc fn (vs.take first.size).toArray (vs.drop first.size).toArray) fun v => K (.put (.val v)) st m
    | .buildSlice t len parts =>
      match elemInfo P t with
      | some (_, i) => withVals st (parts.toList.map (·.2)) [] fun vs => match i.zero with
        | some z => match Instr.fill (fun j => some (j * i.size, i.size)) (madeCells z.cells (len * i.size)) ((parts.toList.map (·.1)).zip vs) with
          | some cells => (Nat.ble (len * i.size) 16777216) = true ∧ ∀ b, m.sz ≤ b → K (.put (.val (.slice (some ⟨b, 0, none⟩) len len))) st (m.newBlock b cells.toList)
          | none => False
        | none => False
      | none => False
    | .makeSlice t l c =>
      match elemInfo P t with
      | some (e, i) => withVal st l fun lv => withVal st c fun cv => match lv, cv, i.zero with
        | .int _ ln, .int _ cn, some z => (0 ≤ ln ∧ ln ≤ cn ∧ (i.bytes : Int) * cn ≤ 281474976710656 ∧ cn ≤ 9223372036854775807) ∧
            ∀ b, m.sz ≤ b → K (.put (.val (.slice (some ⟨b, 0, none⟩) ln.toNat cn.toNat))) st (m.newBlock b (madeCells z.cells (cn.toNat * i.size)).toList)
        | _, _, _ => False
      | none => False
    | .store t x y =>
      match evO st x, evO st y with
      | .val (.pointer (some ⟨b, off, none⟩)), .val v =>
        match Nat.beq v.cells.size (sizeT P t) && oneCells v.cells.toList && okT P t with
        | true => Wr B S m b off v.cells.size ∧ K (.put (.val undef)) st (m.setCells b off v.cells.toList)
        | false => False
      | _, _ => opK P o id st m fun e => K e st m
    | .call c =>
      match c.callee with
      | .builtin .append => withVals st c.args.toList [] fun vs =>
        match vs, c.argTypes.toList with
        | [.slice a len cap, .slice a2 n _], [t, t'] =>
          match elemInfo P t, Nat.beq t t' with
          | some (e, i), true => match i.zero with
            | some _ => ∃ old src, AppPre B S m i.size i.bytes a len cap a2 n old src ∧
              ∀ a' c' m', AppPost P e m i.size a len cap n old src a' c' m' → K (.put (.val (.slice a' (len + n) c'))) st m'
            | none => False
          | _, _ => False
        | [.slice a len cap, .int _ n], [t, t'] =>
          match elemInfo P t, isIntT P t' with
          | some (e, i), true => match i.zero with
            | some _ => ∃ old, (0 ≤ n ∧ AppPreZ P e B S m i.size i.bytes a len cap n.toNat old) ∧
              ∀ a' c' m', AppPost P e m i.size a len cap n.toNat old (zeroRow P e n.toNat) a' c' m' → K (.put (.val (.slice a' (len + n.toNat) c'))) st m'
            | none => False
          | _, _ => False
        | _, _ => False
      | .builtin .copy => withVals st c.args.toList [] fun vs =>
        match vs, c.argTypes.toList with
        | [.slice a len _, .slice a2 n _], [t, _] =>
          match elemInfo P t with
          | some (_, i) => ∃ src, CopyPre B S m i.size a len a2 n src ∧ ∀ m', CopyPost m a src m' → K (.put (.val (goInt (Nat.min n len)))) st m'
          | none => False
        | _, _ => False
      | .builtin .clear => withVals st c.args.toList [] fun vs =>
        match vs, c.argTypes.toList with
        | [.slice a n _], [t] =>
          match elemInfo P t with
          | some (e, i) => match i.zero with
            | some z => (oneCells z.cells.toList && Nat.beq z.cells.size i.size) = true ∧ (n ≠ 0 → ∃ b o, a = some ⟨b, o, none⟩ ∧ Wr B S m b o (n * i.size)) ∧
              ∀ m', CopyPost m a (zeroRow P e n) m' → K (.put (.val undef)) st m'
            | none => False
          | none => False
        | _, _ => False
      | _ => opK P o id st m fun e => K e st m
    | _ => opK P o id st m fun e => K e st m

def vcOps (P : Program) (B : Nat) (S : Nat → Prop) (ops : Array Oper) (base : Nat) : List Oper → Nat → St → M → (St → M → Prop) → Prop
  | [], _, st, m, K => K st m
  | o :: r, i, st, m, K =>
    guardK ops o st
      (fun st => opKM P B S o (base + i) st m fun e st' m' => vcOps P B S ops base r (i + 1) (st'.app o.dst e) m' K)
      (fun st => vcOps P B S ops base r (i + 1) (st.putO o.dst (.val undef)) m K)

def tmpsOf : List Operand → List Nat
  | [] => []
  | .tmp t :: r => t :: tmpsOf r
  | _ :: r => tmpsOf r
def opReads (ops : Array Oper) (o : Oper) : List Nat :=
  tmpsOf o.op.operands.toList ++ (match o.guard with | some (j, _) => (match (ops[j]?).bind (·.dst) with | some d => [d] | none => []) | none => [])
def isStore (o : Oper) : Bool := match o.op with | .store .. => true | _ => false
def isMem (o : Oper) : Bool := match o.op with | .store .. | .load .. => true | _ => false
def hasEdge (o : Oper) (k : Nat) : Bool := o.after.toList.any fun e => Region.binds .any e && Nat.beq e.on k
def inList (t : Nat) : List Nat → Bool
  | [] => false
  | x :: r => Nat.beq t x || inList t r

def isVal : SV → Bool
  | .val _ => true
  | _ => false
/-- what is read was written ahead of it, or is written behind it -/
def pairB (st : St) (ops : Array Oper) (o : Oper) (i : Nat) (o' : Oper) (k : Nat) : Bool :=
  match o'.dst with
  | some d => match inList d (opReads ops o) with
    | true => (Nat.blt k i && hasEdge o k) || (Nat.blt i k && hasEdge o' i && isVal (st.tmps d))
    | false => match Nat.beq k i, o.dst with
      | false, some d' => !Nat.beq d' d
      | _, _ => true
  | none => true

/-- where an address may point: at no box of the call's own, at one, at any -/
inductive Lbl where
  | no
  | id (n : Nat)
  | any
def lblEq : Lbl → Lbl → Bool
  | .no, .no => true
  | .id a, .id b => Nat.beq a b
  | .any, .any => true
  | _, _ => false
def apartL : Lbl → Lbl → Bool
  | .no, _ => true
  | _, .no => true
  | .id a, .id b => !Nat.beq a b
  | _, _ => false
def lookL : List (Nat × Lbl) → Nat → Option Lbl
  | [], _ => none
  | (k, l) :: r, t => bif Nat.beq t k then some l else lookL r t
def labX (T : List (Nat × Lbl)) (st : St) : Operand → Lbl
  | .tmp t => match lookL T t with
    | some l => l
    | none => match st.tmps t with | .own i _ => .id i | _ => .no
  | _ => .no
def labOp (base : Nat) (T : List (Nat × Lbl)) (st : St) (o : Oper) (k : Nat) : Lbl :=
  match o.op with
  | .alloc _ | .box .. => .id (base + k)
  | .move x | .assign x | .nilCheck x => labX T st x
  | .fieldAddr _ x _ => labX T st x
  | .pick .. => .any
  | _ => .no
def labTab (base : Nat) (st : St) : List Oper → Nat → List (Nat × Lbl) → List (Nat × Lbl)
  | [], _, T => T
  | o :: r, k, T => labTab base st r (k + 1) (match o.dst with | some d => (d, labOp base T st o k) :: T | none => T)
/-- labels, reckoned twice: a slot may be written behind its own reading -/
def labT (base : Nat) (st : St) (ops : Array Oper) : List (Nat × Lbl) := labTab base st ops.toList 0 (labTab base st ops.toList 0 [])
def labsB (ops : Array Oper) (base : Nat) (T : List (Nat × Lbl)) (st : St) : Bool :=
  (ops.toList.zipIdx.all fun (o, k) => match o.dst with | some d => (match lookL T d with | some l => lblEq l (labOp base T st o k) | none => false) | none => true) &&
    T.all fun p => ops.toList.any fun o => match o.dst with | some d => Nat.beq d p.1 | none => false
def addrO (o : Oper) : Option Operand := match o.op with | .load _ x => some x | .store _ x _ => some x | _ => none
def addrL (T : List (Nat × Lbl)) (st : St) (o : Oper) : Lbl := match addrO o with | some x => labX T st x | none => .any

def memB (T : List (Nat × Lbl)) (st : St) (o : Oper) (i : Nat) (o' : Oper) (k : Nat) : Bool :=
  match isMem o && isMem o' && (isStore o || isStore o') && Nat.blt k i with
  | true => hasEdge o k || apartL (addrL T st o) (addrL T st o')
  | false => true

/-- may the operations be carried out in whatever order their edges allow? -/
def drawB (ops : Array Oper) (base : Nat) (st : St) : Bool :=
  let T := labT base st ops
  labsB ops base T st && ops.toList.zipIdx.all fun (o, i) =>
    (o.after.toList.all fun e => !Region.binds .any e || Nat.blt e.on i) && ops.toList.zipIdx.all fun (o', k) => pairB st ops o i o' k && memB T st o i o' k

/-- does it make memory, or may it write to memory that is known? -/
def irr (P : Program) (o : Oper) : Bool :=
  match o.op with
  | .buildSlice .. | .makeSlice .. | .makeFunc .. => true
  | .call c => match c.callee with
    | .value _ => (shOf P 20 o.type).mem || wrT P o.type c.argTypes.toList
    | .builtin b => (match b with | .append | .copy | .clear => true | _ => false)
    | _ => false
  | _ => false

/-- has it no edge to an operation of the list? -/
def avail (blk : List Nat) (o : Oper) : Bool := o.after.toList.all fun e => !(Region.binds .any e && inList e.on blk)

/-- what the first knows the second knows too -/
structure MLe (m m' : M) : Prop where
  cell : ∀ b, b < m.sz → ∀ o v, m.π b o = some v → m'.π b o = some v
  uf : ∀ b, b < m.sz → m.uf b → m'.uf b
  sz : m.sz ≤ m'.sz

/-- does it look at no memory? -/
def memF (o : Oper) : Bool :=
  match o.op with
  | .move _ | .assign _ | .pick .. | .alloc _ | .fieldAddr .. | .nilCheck _ | .extract .. | .field .. | .unOp .. | .slice .. => true
  | _ => false

/-- so too reckoning with numbers, and addresses -/
def memF2 (o : Oper) : Bool :=
  match o.op with
  | .binOp .. | .indexAddr .. | .convert .. => true
  | _ => memF o

def ancs (ops : Array Oper) : Nat → List Nat → List Nat
  | 0, A => A
  | k + 1, A => match A.any fun a => (match ops[a]? with | some o => hasEdge o k | none => false) with
    | true => ancs ops k (k :: A)
    | false => ancs ops k A
/-- are all the others ahead of it? -/
def lastB (ops : Array Oper) (i : Nat) : Bool := (List.range ops.size).all fun j => inList j (ancs ops i [i]) || (match ops[j]? with | some o => memF o | none => true) || inList i (ancs ops j [j])

def allVal (st : St) : List Operand → Bool
  | [] => true
  | x :: r => match evO st x with | .val _ => allVal st r | _ => false

/-- an operation on memory in a region that draws its order: no box of the call's own goes out -/
def opKD (P : Program) (B : Nat) (S : Nat → Prop) (o : Oper) (st : St) (m : M) (K : Eff → M → Prop) : Prop :=
  match allVal st o.op.operands.toList && (match o.op with | .call c => (match c.callee with | .value _ => (memCall P st o).isSome | _ => true) | _ => true) with
  | true => opKM P B S o 0 st m fun e _ m' => K e m'
  | false => False

/-- a store that may go to memory that is known -/
def stV (st : St) (o : Oper) : Bool := match o.op with | .store _ x _ => (match evO st x with | .val _ => true | _ => false) | _ => false

/-- all that can be carried out without touching memory, in the text's order -/
def pass (P : Program) (ops : Array Oper) (base : Nat) (m : M) : List Nat → List Nat → St → (St → List Nat → Prop) → Prop
  | [], blk, st, K => K st blk
  | i :: r, blk, st, K =>
    match ops[i]? with
    | some o => match !irr P o && avail blk o && !stV st o with
      | true => guardK ops o st
          (fun st => opK P o (base + i) st m fun e => pass P ops base m r blk (st.app o.dst e) K)
          (fun st => pass P ops base m r blk (st.putO o.dst (.val undef)) K)
      | false => pass P ops base m r (i :: blk) st K
    | none => False

def brs (T : Nat → Oper → Prop) (ops : Array Oper) (blk : List Nat) : List Nat → Prop
  | [] => True
  | i :: r => match ops[i]? with
    | some o => match avail blk o with
      | true => T i o ∧ brs T ops blk r
      | false => brs T ops blk r
    | none => False

def without (i : Nat) : List Nat → List Nat
  | [] => []
  | x :: r => match Nat.beq x i with | true => without i r | false => x :: without i r

/-- block b stays as it is known -/
structure KeepB (b : Nat) (m m' : M) : Prop where
  out : ∀ o v, m.π b o = some v → m'.π b o = some v
  sz : m.sz ≤ m'.sz
/-- an operand that no operation of the region writes -/
def freeX (ops : Array Oper) : Operand → Bool
  | .tmp t => ops.toList.all fun o => match o.dst with | some d => !Nat.beq d t | none => true
  | _ => true
/-- can it not stand between its reckoning and its carrying out when operation i comes? -/
def skipW (P : Program) (ops : Array Oper) (i j : Nat) : Bool := inList j (ancs ops i [i]) || (match ops[j]? with | some o => memF2 o || irr P o || isStore o | none => true) || inList i (ancs ops j [j])
/-- what the reads that may still stand out ask of an operation's memory -/
def MLeW (P : Program) (ops : Array Oper) (st : St) (i : Nat) (m m' : M) : List Nat → Prop
  | [] => True
  | j :: r => match skipW P ops i j with
    | true => MLeW P ops st i m m' r
    | false => (match ops[j]? with
      | some o => (match o.op with
        | .load _ x => (match freeX ops x, evO st x with
          | true, .own _ _ => True
          | true, .val (.pointer (some ⟨b, _, none⟩)) => KeepB b m m'
          | _, _ => MLe m m')
        | _ => MLe m m')
      | none => True) ∧ MLeW P ops st i m m' r

/-- a region that draws its order: then, for every operation on memory that may be next, that one -/
def tree (P : Program) (B : Nat) (S : Nat → Prop) (lo : Bool) (ops : Array Oper) (base : Nat) : Nat → List Nat → St → M → (St → M → Prop) → Prop
  | 0, _, _, _, _ => False
  | f + 1, rem, st, m, K => pass P ops base m rem [] st fun st blk =>
    match blk with
    | [] => K st m
    | _ :: _ => brs (fun i o => guardK ops o st
        (fun st => opKD P B S o st m fun e m' => match lastB ops i with
          | true => tree P B S lo ops base f (without i blk.reverse) (st.app o.dst e) m' K
          | false => (match lo with | false => MLe m m' | true => MLeW P ops st i m m' (List.range ops.size)) ∧ tree P B S lo ops base f (without i blk.reverse) (st.app o.dst e) m' K)
        (fun st => tree P B S lo ops base f (without i blk.reverse) (st.putO o.dst (.val undef)) m K)) ops blk blk.reverse

structure Ann where
  A : Type
  inv : A → Prop
  st : A → List (Nat × SV)
  own : A → List (Nat × Bx)
  m : A → M
  μ : A → Nat
  cut : Bool := false
  link : Option (A → List Nat → Prop) := none
  esc : List Nat := []
  sh : List Sh := []
  loose : Bool := false

def look {α : Type} (d : α) : List (Nat × α) → Nat → α
  | [], _ => d
  | (k, x) :: r, t => bif Nat.beq t k then x else look d r t

def Ann.state (A : Ann) (nx : Nat) (a : A.A) : St :=
  { tmps := look .unk (A.st a), own := fun t => look none ((A.own a).map fun p => (p.1, some p.2)) t, nx }

def svLt (nx : Nat) : SV → Bool
  | .own i _ => Nat.ble (i + 1) nx
  | _ => true
def fitsT (st : St) (nx : Nat) : List (Nat × SV) → Prop
  | [] => True
  | (k, x) :: r => (st.tmps k = x ∧ svLt nx x = true) ∧ fitsT st nx r
def fitsO (st : St) (nx : Nat) : List (Nat × Bx) → Prop
  | [] => True
  | (k, x) :: r => (st.own k = some x ∧ Nat.ble (k + 1) nx = true) ∧ fitsO st nx r
def Ann.fits (A : Ann) (nx : Nat) (a : A.A) (st : St) (m : M) : Prop := A.inv a ∧ m = A.m a ∧ fitsT st nx (A.st a) ∧ fitsO st nx (A.own a)

/-- with a tie to the measures of the loops around -/
def Ann.fitsL (A : Ann) (ctx : List Nat) (nx : Nat) (a : A.A) (st : St) (m : M) : Prop := match A.link with | none => A.fits nx a st m | some l => A.fits nx a st m ∧ l a ctx
def Ann.invL (A : Ann) (ctx : List Nat) (a : A.A) : Prop := match A.link with | none => A.inv a | some l => A.inv a ∧ l a ctx

def firstRegion : Code → Option Nat
  | .region i _ _ => some i
  | .seq a b => match firstRegion a with | some i => some i | none => firstRegion b
  | .cond _ a b => match firstRegion a with | some i => some i | none => firstRegion b
  | .block _ b | .loop b | .scope b => firstRegion b
  | _ => none

/-- how many operations -/
def opsIn : Code → Nat
  | .region _ ops _ => ops.size
  | .seq a b => opsIn a + opsIn b
  | .cond _ a b => opsIn a + opsIn b
  | .block _ b | .loop b | .scope b => opsIn b
  | _ => 0

/-- all that the first knows the second knows -/
def Kn (mi m : M) : Prop := ∀ b o v, mi.π b o = some v → m.π b o = some v
def okc (mi : M) (w : World) : Prop := ∀ b o v, mi.π b o = some v → w.cell? ⟨b, o, none⟩ = some v

/-- an iterator that hands xs on, one behind the other, as long as the memory that it reads stays as it is -/
structure IterC (P : Program) (gf : FuncId) (caps : List Value) (mi : M) {E : Type} (enc : E → List Value) (xs : List E) : Prop where
  ent : ∀ args w, (callFunc gf args).run P w = .ok (.enter gf args) w
  out : ∀ (n l : Nat) (w : World) (J Jx : List E → World → Prop), 2 ≤ n → (∀ pre W, J pre W → okc mi W) →
    (∀ pre W W', J pre W → W.grownBy W' none → J pre W') → (∀ pre W W', Jx pre W → W.grownBy W' none → Jx pre W') →
    (∀ pre x W, J pre W → pre ++ [x] <+: xs → YieldAt Fence.wide (n - 1) P l (enc x).toArray W fun e W' => (e = .returned (.bool true) ∧ J (pre ++ [x]) W') ∨ (e = .returned (.bool false) ∧ Jx (pre ++ [x]) W')) →
    J [] w → CallsIn Fence.wide n P gf (#[.func (.yield l) #[] #[]] ++ caps.toArray) w fun e W' => (∃ v, e = .returned v) ∧ (J xs W' ∨ ∃ pre, Jx pre W')

def dropOwn (st : St) : St := { tmps := fun t => match st.tmps t with | .own _ _ => .unk | x => x, own := fun _ => none, nx := st.nx }
def putPs (st : St) : List Nat → List Value → St
  | p :: ps, v :: vs => putPs (st.put p (.val v)) ps vs
  | _, _ => st

def vcCode (P : Program) (B : Nat) (S : Nat → Prop) (ann : Nat → Ann) : Code → List Nat → St → M → (Exit → St → M → Prop) → Prop
  | .skip, _, st, m, K => K .normal st m
  | .region id ops draw, _, st, m, K =>
    match draw with
    | false => vcOps P B S ops st.nx ops.toList 0 st m fun st' m' => K .normal { st' with nx := st.nx + ops.size } m'
    | true => (P.follows .mixedOrders && drawB ops st.nx st) = true ∧ tree P B S (ann id).loose ops st.nx (ops.size + 1) (List.range ops.size) st m fun st' m' => K .normal { st' with nx := st.nx + ops.size } m'
  | .seq a b, ctx, st, m, K =>
    match (ann ((firstRegion b).getD 0)).cut with
    | false => vcCode P B S ann a ctx st m fun e st m => match e with | .normal => vcCode P B S ann b ctx st m K | e => K e st m
    | true =>
      let A := ann ((firstRegion b).getD 0)
      (vcCode P B S ann a ctx st m fun e st' m => match e with | .normal => ∃ x, A.fitsL ctx (st.nx + opsIn a) x st' m | e => K e st' m) ∧
        ∀ x, A.invL ctx x → vcCode P B S ann b ctx (A.state (st.nx + opsIn a) x) (A.m x) K
  | .cond c x y, ctx, st, m, K =>
    match c with
    | .tmp d => match st.tmps d with
      | .val (.bool b) => ifB b (vcCode P B S ann x ctx (st.put d (.val (.bool true))) m K) (vcCode P B S ann y ctx (st.put d (.val (.bool false))) m K)
      | _ => False
    | .const (.bool b) => ifB b (vcCode P B S ann x ctx st m K) (vcCode P B S ann y ctx st m K)
    | _ => False
  | .block id body, ctx, st, m, K => vcCode P B S ann body ctx st m fun e st m => match e with
    | .exit j => match Nat.beq j id with | true => K .normal st m | false => K (.exit j) st m
    | e => K e st m
  | .loop body, ctx, st, m, K =>
    let A := ann ((firstRegion body).getD 0)
    escAll B A.esc st m fun st m => (∃ a, A.fitsL ctx st.nx a st m) ∧ ∀ a, A.invL ctx a → vcCode P B S ann body (A.μ a :: ctx) (A.state st.nx a) (A.m a) fun e st' m' => match e with
      | .normal => ∃ a', A.fitsL ctx st.nx a' st' m' ∧ A.μ a' < A.μ a
      | e => K e st' m'
  | .rangeFunc g ps assign body, ctx, st, m, K =>
    let A := ann ((firstRegion body).getD 0)
    escAll B A.esc st m fun st m => match evO st g with
      | .val v => ∃ (gf : FuncId) (caps : List Value), v = .func (.func gf) #[] caps.toArray ∧
          ∃ (E : Type) (enc : E → List Value) (xs : List E) (mi : M) (J : List E → A.A → Prop),
            IterC P gf caps mi enc xs ∧ (∀ e, (enc e).length = ps.size ∧ exVals A.sh [] fun vs => enc e = vs) ∧
            (∃ x, (J [] x ∧ A.inv x) ∧ m = A.m x) ∧ (∀ pre x, J pre x → A.inv x → Kn mi (A.m x)) ∧
            (∀ pre e x, pre ++ [e] <+: xs → J pre x → A.inv x → allVals A.sh [] fun vs => enc e = vs →
              vcCode P B S ann assign ctx (putPs (dropOwn st) ps.toList vs) (A.m x) fun ex st1 m1 => match ex with
                | .normal => vcCode P B S ann body ctx st1 m1 fun ex _ m2 => match ex with
                  | .normal => ∃ x', (J (pre ++ [e]) x' ∧ A.inv x') ∧ m2 = A.m x'
                  | .ret => K .ret (dropOwn st) m2
                  | _ => False
                | _ => False) ∧
            (∀ x, J xs x → A.inv x → K .normal (dropOwn st) (A.m x))
      | _ => False
  | .ret, _, st, m, K => K .ret st m
  | .exit id, _, st, m, K => K (.exit id) st m
  | _, _, _, _, _ => False

def resK (P : Program) (st : St) (m : M) : List ResultVar → List Value → (List Value → Prop) → Prop
  | [], acc, K => K acc
  | .tmp t :: r, acc, K => match st.tmps t with | .val v => resK P st m r (acc ++ [v]) K | _ => False
  | .cell a t :: r, acc, K => match st.tmps a with
    | .own i off => match st.own i with
      | some b => match ldOwn P t b.cs off with | some v => resK P st m r (acc ++ [v]) K | none => False
      | none => False
    | .val (.pointer (some ⟨b, off, none⟩)) => exSh (shOf P 20 t) fun v => match aggLike (isAggT P t) v && Nat.beq v.cells.size (sizeT P t) && okT P t with | true => CellsAt m b off v.cells.toList ∧ resK P st m r (acc ++ [v]) K | false => False
    | _ => False

def St.init (args : List Value) : St :=
  { tmps := fun t => match args[t]? with | some v => .val v | none => .val undef, own := fun _ => none, nx := 0 }

def leaf (P : Program) (fn : Func) (Post : Value → M → Prop) : Exit → St → M → Prop
  | .normal, st, m | .ret, st, m => resK P st m fn.results.toList [] fun vs => match vs with | [v] => Done (Post v m) | vs => Done (Post (.tuple vs.toArray) m)
  | _, _, _ => False

/-- no range over a function -/
def noRF : Code → Bool
  | .rangeFunc .. => false
  | .seq a b => noRF a && noRF b
  | .cond _ a b => noRF a && noRF b
  | .block _ b | .loop b | .scope b => noRF b
  | _ => true
def noDefer (o : Oper) : Bool := match o.op with | .defer _ => false | _ => true

def dstsOk (N : Nat) : Code → Bool
  | .region _ ops _ => ops.toList.all fun o => (match o.dst with | some d => Nat.ble (d + 1) N | none => true) && noDefer o
  | .seq a b => dstsOk N a && dstsOk N b
  | .cond _ a b => dstsOk N a && dstsOk N b
  | .block _ b | .scope b => dstsOk N b
  | .loop b => dstsOk N b && noRF b
  | .rangeFunc _ ps a b => (ps.toList.all fun d => Nat.ble (d + 1) N) && (dstsOk N a && noRF a) && (dstsOk N b && noRF b)
  | _ => true

def vcFunW (P : Program) (S : Nat → Prop) (ann : Nat → Ann) (fn : Func) (args : List Value) (m : M) (Post : Value → M → Prop) : Prop :=
  match fn.body with
  | some c => (dstsOk fn.ntmps c && Nat.ble args.length fn.ntmps) = true ∧ vcCode P m.sz S ann c [] (St.init args) m (leaf P fn Post)
  | none => False

def vcFun (P : Program) (ann : Nat → Ann) (fn : Func) (args : List Value) (m : M) (Post : Value → M → Prop) : Prop := vcFunW P (fun _ => False) ann fn args m Post

def noAnn : Nat → Ann := fun _ => { A := Empty, inv := fun _ => True, st := fun _ => [], own := fun _ => [], m := fun a => a.elim, μ := fun _ => 0 }

end Go.Vc
