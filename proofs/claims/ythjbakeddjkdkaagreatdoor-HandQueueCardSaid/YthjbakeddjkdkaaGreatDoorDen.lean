/- A syntactic weakest precondition over the model's code, sound; and words for proofs over its printed forms. -/
import Derived.Still
import Derived.KernelRfl
import Derived.Below
import Derived.Laws.Entries
import Derived.Tactics
import Derived.Laws.AppendOwn
import Derived.Laws.Slices
import Derived.Laws.IdiomCopy
import Derived.Maps.AppendAt
import Derived.Laws.StructEq
/- The evaluator: definitions. A syntactic weakest precondition over the model's code, with environments. -/
namespace Go.Den

/-! ### Worlds -/

/-- From w to w' nothing that was there has changed but the blocks in S; blocks may be new. -/
structure Eff (w w' : World) (S : List Nat) : Prop where
  os : w'.os = w.os
  tape : w'.tape = w.tape
  output : w'.output = w.output
  size : w.heap.size ≤ w'.heap.size
  keep : ∀ b, b < w.heap.size → b ∉ S → w'.heap[b]? = w.heap[b]?

theorem Eff.refl (w : World) : Eff w w [] := ⟨rfl, rfl, rfl, Nat.le_refl _, fun _ _ _ => rfl⟩

theorem Eff.trans {a b c : World} {S T : List Nat} (h : Eff a b S) (k : Eff b c T) : Eff a c (S ++ T) :=
  ⟨k.os.trans h.os, k.tape.trans h.tape, k.output.trans h.output, Nat.le_trans h.size k.size, fun i hi hn =>
    (k.keep i (Nat.lt_of_lt_of_le hi h.size) (fun x => hn (List.mem_append_right _ x))).trans (h.keep i hi (fun x => hn (List.mem_append_left _ x)))⟩

/-- Blocks that were not there when it began drop out. -/
theorem Eff.weak {w w' : World} {S T : List Nat} (h : Eff w w' S) (hs : ∀ b, b ∈ S → b < w.heap.size → b ∈ T) : Eff w w' T :=
  ⟨h.os, h.tape, h.output, h.size, fun i hi hn => h.keep i hi (fun x => hn (hs i x hi))⟩

theorem Eff.below {w w' : World} (h : Eff w w' []) : Go.RowKit.Below w.heap.size w w' :=
  ⟨h.os, h.tape, h.output, h.size, fun k hk => h.keep k hk (by simp)⟩

theorem Eff.of_below {w w' : World} (h : Go.RowKit.Below w.heap.size w w') : Eff w w' [] :=
  ⟨h.os, h.tape, h.output, h.size, fun k hk _ => h.block k hk⟩

/-- What a step that draws leaves. -/
def drawnW (w : World) : World := { w with drawn := w.drawn + 1 }
def pushW (w : World) (o : Obj) : World := { w with heap := w.heap.push o }

theorem Eff.drawn (w : World) : Eff w (drawnW w) [] := ⟨rfl, rfl, rfl, Nat.le_refl _, fun _ _ _ => rfl⟩
theorem Eff.push (w : World) (o : Obj) : Eff w (pushW w o) [] :=
  ⟨rfl, rfl, rfl, by simp [pushW], fun b hb _ => Go.RowKit.Below.heap_alloc w o b hb⟩
theorem Eff.setCell (w : World) (a : Addr) (v : Value) : Eff w (w.setCell a v) [a.block] :=
  ⟨rfl, rfl, rfl, by simp [World.setCell], fun b _ hn => by
    simp only [World.setCell, Array.getElem?_modify]
    rw [if_neg (by intro h; exact hn (by simp [h]))]⟩

/-! ### Facts that a region's loads rest on -/
inductive Fact where
  | cell (p : Addr) (v : Value)
  | obj (r : Nat) (o : Obj)

def Fact.holds (w : World) : Fact → Prop
  | .cell p v => w.cell? p = some v
  | .obj r o => w.heap[r]? = some o

def KEEP (w : World) (l : List Fact) : Prop := ∀ f ∈ l, f.holds w

/-! ### Environments -/
abbrev Env := List (Nat × Value)

def look : Env → Nat → Option Value
  | [], _ => none
  | (k, v) :: r, t => match Nat.beq k t with
    | true => some v
    | false => look r t

def arg (e : Env) : Operand → Option Value
  | .tmp t => look e t
  | .const v => some v
  | .global g => some (.pointer (some ⟨g, 0, none⟩))
  | .func f => some (.func (.func f) #[] #[])

def args (e : Env) : List Operand → Option (List Value)
  | [] => some []
  | x :: r => match arg e x, args e r with
    | some v, some l => some (v :: l)
    | _, _ => none

/-! ### Words of the printed form -/
def ITE (b : Bool) (A B : Prop) : Prop := match b with
  | true => A
  | false => B
def BIND {α : Type} (x : α) (K : α → Prop) : Prop := K x
def NZ (y : Int) (A : Prop) : Prop := y ≠ 0 ∧ A
def GE0 (y : Int) (A : Prop) : Prop := 0 ≤ y ∧ A
def NN (q : Option Addr) (K : Nat → Nat → Prop) : Prop := match q with
  | some ⟨b, o, none⟩ => K b o
  | _ => False
def kNum : IntKind → Nat
  | .i8 => 0 | .i16 => 1 | .i32 => 2 | .i64 => 3 | .u8 => 4 | .u16 => 5 | .u32 => 6 | .u64 => 7
def INTV (k : IntKind) (v : Value) (K : Int → Prop) : Prop := match v with
  | .int k' n => match Nat.beq (kNum k') (kNum k) with
    | true => K n
    | false => False
  | _ => False
def BOOLV (v : Value) (K : Bool → Prop) : Prop := match v with
  | .bool b => K b
  | _ => False
def STRV (v : Value) (K : ByteArray → Prop) : Prop := match v with
  | .string s => K s
  | _ => False
def PTRV (v : Value) (K : Option Addr → Prop) : Prop := match v with
  | .pointer q => K q
  | _ => False
def SLV (v : Value) (K : Option Addr → Nat → Nat → Prop) : Prop := match v with
  | .slice a l c => K a l c
  | _ => False
def MAPV (v : Value) (K : Option Nat → Prop) : Prop := match v with
  | .map q => K q
  | _ => False
def AGGV (v : Value) (K : List Value → Prop) : Prop := match v with
  | .agg cs => K cs.toList
  | _ => False
def TUPV (v : Value) (K : List Value → Prop) : Prop := match v with
  | .tuple cs => K cs.toList
  | _ => False
/-- The cells of a value that is to be stored. -/
def CELLS (v : Value) (K : List Value → Prop) : Prop := match v with
  | .agg cs => K cs.toList
  | .tuple _ => False
  | v => K [v]
/-- It fits one cell. -/
def SCAL (v : Value) : Prop := match v with
  | .agg _ => False
  | .tuple _ => False
  | _ => True

inductive Sh where
  | int (k : IntKind) | bool | str | ptr | sl | map | any

def Sh.as (s : Sh) (v : Value) (K : Value → Prop) : Prop := match s with
  | .int k => INTV k v fun n => K (.int k n)
  | .bool => BOOLV v fun b => K (.bool b)
  | .str => STRV v fun s => K (.string s)
  | .ptr => PTRV v fun q => K (.pointer q)
  | .sl => SLV v fun a l c => K (.slice a l c)
  | .map => MAPV v fun q => K (.map q)
  | .any => K v

def GETV (cs : List Value) (i : Nat) (K : Value → Prop) : Prop := match cs[i]? with
  | some v => K v
  | none => False

def LEN (cs : List Value) (i : Nat) (A : Prop) : Prop := match Nat.beq cs.length i with
  | true => A
  | false => False

def aggFrom (cs : List Value) : List Sh → Nat → (List Value → Prop) → Prop
  | [], i, K => LEN cs i (K [])
  | s :: ss, i, K => GETV cs i fun v => s.as v fun v' => aggFrom cs ss (i + 1) fun l => K (v' :: l)

def shOf : TypeDesc → Sh
  | .int k => .int k
  | .bool => .bool
  | .string => .str
  | .pointer _ => .ptr
  | .slice _ => .sl
  | .map _ _ => .map
  | _ => .any

def flat (P : Program) : Nat → TypeId → List Sh
  | 0, _ => []
  | n + 1, t => match P.underlying t with
    | some (.struct fs) => fs.toList.flatMap fun f => flat P n f.type
    | some (.array m e) => (List.replicate m (flat P n e)).flatten
    | some d => [shOf d]
    | none => []

/-- A value of a type: taken apart as far as its type tells. -/
def asT1 (P : Program) (t : TypeId) (v : Value) (K : Value → Prop) : Prop := match P.underlying t with
  | some (.struct _) => AGGV v fun cs => aggFrom cs (flat P 20 t) 0 fun l => K (.agg l.toArray)
  | some (.array _ _) => AGGV v fun cs => aggFrom cs (flat P 20 t) 0 fun l => K (.agg l.toArray)
  | some d => (shOf d).as v K
  | none => False

def tupFrom (P : Program) (cs : List Value) : List TypeId → Nat → (List Value → Prop) → Prop
  | [], i, K => LEN cs i (K [])
  | t :: ts, i, K => GETV cs i fun v => asT1 P t v fun v' => tupFrom P cs ts (i + 1) fun l => K (v' :: l)

def asT (P : Program) (t : TypeId) (v : Value) (K : Value → Prop) : Prop := match P.underlying t with
  | some (.tuple ts) => TUPV v fun cs => tupFrom P cs ts.toList 0 fun l => K (.tuple l.toArray)
  | _ => asT1 P t v K

/-! ### Memory -/
def LDV (w : World) (p : Addr) (K : Value → Prop) : Prop := match w.cell? p with
  | some v => K v
  | none => False
def LDi (k : IntKind) (w : World) (p : Addr) (K : Int → Prop) : Prop := LDV w p fun v => INTV k v K
def LDb (w : World) (p : Addr) (K : Bool → Prop) : Prop := LDV w p fun v => BOOLV v K
def LDs (w : World) (p : Addr) (K : ByteArray → Prop) : Prop := LDV w p fun v => STRV v K
def LDp (w : World) (p : Addr) (K : Option Addr → Prop) : Prop := LDV w p fun v => PTRV v K
def LDl (w : World) (p : Addr) (K : Option Addr → Nat → Nat → Prop) : Prop := LDV w p fun v => SLV v K
def LDm (w : World) (p : Addr) (K : Option Nat → Prop) : Prop := LDV w p fun v => MAPV v K

def Sh.ld (s : Sh) (w : World) (p : Addr) (K : Value → Prop) : Prop := match s with
  | .int k => LDi k w p fun n => K (.int k n)
  | .bool => LDb w p fun b => K (.bool b)
  | .str => LDs w p fun s => K (.string s)
  | .ptr => LDp w p fun q => K (.pointer q)
  | .sl => LDl w p fun a l c => K (.slice a l c)
  | .map => LDm w p fun q => K (.map q)
  | .any => LDV w p K

def ldCells (w : World) (p : Addr) : List Sh → Nat → (List Value → List Fact → Prop) → Prop
  | [], _, K => K [] []
  | s :: ss, i, K => s.ld w (p.add i) fun v => ldCells w p ss (i + 1) fun l F => K (v :: l) (.cell (p.add i) v :: F)

/-- A variable of a type is read. -/
def ldT (P : Program) (t : TypeId) (w : World) (p : Addr) (K : Value → List Fact → Prop) : Prop := match P.underlying t with
  | some (.struct _) => match Nat.beq (flat P 20 t).length (P.cellsOf t) with
    | true => ldCells w p (flat P 20 t) 0 fun l F => K (.agg l.toArray) F
    | false => False
  | some (.array _ _) => match Nat.beq (flat P 20 t).length (P.cellsOf t) with
    | true => ldCells w p (flat P 20 t) 0 fun l F => K (.agg l.toArray) F
    | false => False
  | some d => (shOf d).ld w p fun v => K v [.cell p v]
  | none => False

def ST1 (w : World) (p : Addr) (v : Value) (K : World → Prop) : Prop :=
  SCAL v ∧ (∃ u, w.cell? p = some u) ∧ w.frozen? p = false ∧ K (w.setCell p v)

def stCells (p : Addr) : List Value → Nat → World → (World → Prop) → Prop
  | [], _, w, K => K w
  | v :: vs, i, w, K => ST1 w (p.add i) v fun w' => stCells p vs (i + 1) w' K

/-- A new block of cells. -/
def NEW (w : World) (l : List Value) (t : TypeId) (K : Nat → World → Prop) : Prop :=
  ∀ b w', Eff w w' [] → w.heap.size ≤ b → w'.heap[b]? = some (.cells l.toArray t (0, 0)) → K b w'
def NEWMAP (w : World) (K : Nat → World → Prop) : Prop :=
  ∀ b w', Eff w w' [] → w.heap.size ≤ b → w'.heap[b]? = some (.map #[] 0) → K b w'
/-- A draw: the heap is the same. -/
def DRAW (w : World) (K : World → Prop) : Prop := ∀ w', Eff w w' [] → w'.heap = w.heap → K w'

/-- A value that leaves the world alone and rests on some facts. -/
def SILX (P : Program) (w : World) (s : Sem Value) (K : Value → List Fact → Prop) : Prop :=
  ∃ v F, KEEP w F ∧ (∀ w', KEEP w' F → s.run P w' = .ok v w') ∧ K v F
/-- A value that rests on nothing but what it is made of. -/
def SILN (P : Program) (s : Sem Value) (K : Value → Prop) : Prop := ∃ v, (∀ w', s.run P w' = .ok v w') ∧ K v
/-- A step that may turn the world. -/
def SEML (P : Program) (w : World) (s : Sem Value) (K : Value → World → Prop) : Prop := match s.run P w with
  | .ok v w' => K v w'
  | .halt _ _ => False
def SEMU (P : Program) (w : World) (s : Sem Unit) (K : World → Prop) : Prop := match s.run P w with
  | .ok _ w' => K w'
  | .halt _ _ => False

def CALL (P : Program) (f : FuncId) (as : List Value) (w : World) (K : Value → World → Prop) : Prop :=
  Calls P f as.toArray w fun e w' => match e with
    | .returned v => K v w'
    | _ => False

theorem CALL.mono {P : Program} {f : FuncId} {as : List Value} {w : World} {K K' : Value → World → Prop} (h : CALL P f as w K) (hk : ∀ v w', K v w' → K' v w') : CALL P f as w K' :=
  Calls.mono h fun e w' he => by cases e <;> first | exact hk _ _ he | exact he

def plainF (P : Program) (f : FuncId) : Bool := match P.funcs[f]? with
  | some fn => fn.body.isSome && !(fn.name == "runtime.NumGoroutine")
  | none => false

/-- A function without a body is called: what the model's table says. -/
def EXT (P : Program) (f : FuncId) (as : List Value) (w : World) (K : Value → World → Prop) : Prop := match (callFunc f as.toArray).run P w with
  | .ok (.value v) w' => K v w'
  | _ => False

/-- A function value is called. -/
def FCALL (P : Program) (v : Value) (as : List Value) (w : World) (K : Value → World → Prop) : Prop := match v with
  | .func (.func f) first captured => plainF P f = true ∧ CALL P f (first.toList ++ as ++ captured.toList) w K
  | _ => False

/-- A method is called by an interface value. -/
def INV (P : Program) (v : Value) (name : String) (as : List Value) (w : World) (K : Value → World → Prop) : Prop :=
  ∃ f l, (callMethod v name as.toArray).run P w = .ok (.enter f l.toArray) w ∧ CALL P f l w K

/-! ### Operations -/
def bitI (op : BinOp) (k : IntKind) (x y : Int) : Int :=
  let a := BitVec.ofInt k.bits x
  let b := BitVec.ofInt k.bits y
  match op with
  | .and => k.wrap (a &&& b).toNat
  | .or => k.wrap (a ||| b).toNat
  | .xor => k.wrap (a ^^^ b).toNat
  | _ => k.wrap (a &&& ~~~b).toNat
def shI (op : BinOp) (k : IntKind) (x y : Int) : Int := match op with
  | .shl => k.wrap (x * 2 ^ (min y.toNat k.bits))
  | _ => x.fdiv (2 ^ (min y.toNat k.bits))

def binI (op : BinOp) (k : IntKind) (x y : Int) (K : Value → Prop) : Prop := match op with
  | .add => BIND (k.wrap (x + y)) fun n => K (.int k n)
  | .sub => BIND (k.wrap (x - y)) fun n => K (.int k n)
  | .mul => BIND (k.wrap (x * y)) fun n => K (.int k n)
  | .quo => NZ y (BIND (k.wrap (x.tdiv y)) fun n => K (.int k n))
  | .rem => NZ y (BIND (x.tmod y) fun n => K (.int k n))
  | .and => BIND (bitI .and k x y) fun n => K (.int k n)
  | .or => BIND (bitI .or k x y) fun n => K (.int k n)
  | .xor => BIND (bitI .xor k x y) fun n => K (.int k n)
  | .andNot => BIND (bitI .andNot k x y) fun n => K (.int k n)
  | .eql => K (.bool (x == y))
  | .neq => K (.bool (x != y))
  | .lss => K (.bool (decide (x < y)))
  | .leq => K (.bool (decide (x ≤ y)))
  | .gtr => K (.bool (decide (x > y)))
  | .geq => K (.bool (decide (x ≥ y)))
  | _ => False

def isShift : BinOp → Bool
  | .shl => true
  | .shr => true
  | _ => false

/-- '==' and its like on what is no number. -/
def binE (op : BinOp) (t : TypeId) (x y : Operand) (a b : Value) : Sem Value := do
  eqGuard op t x y a b
  binOp op t a b

def IDX (a : Option Addr) (len : Nat) (i : Int) (size : Nat) (K : Nat → Nat → Prop) : Prop :=
  0 ≤ i ∧ i < len ∧ match a with
    | some ⟨b, o, none⟩ => K b (o + i.toNat * size)
    | _ => False

def setFrom (cs : List Value) : Nat → List Value → List Value
  | _, [] => cs
  | i, v :: vs => setFrom (cs.set i v) (i + 1) vs

def FIELD (P : Program) (ft : TypeId) (cs : List Value) (off : Nat) (K : Value → Prop) : Prop := match P.underlying ft with
  | some (.struct _) => K (.agg ((cs.drop off).take (P.cellsOf ft)).toArray)
  | some (.array _ _) => K (.agg ((cs.drop off).take (P.cellsOf ft)).toArray)
  | some _ => GETV cs off K
  | none => False

def FUNV (v : Value) (A : Prop) : Prop := match v with
  | .func (.func _) _ _ => A
  | _ => False
def IFAV (v : Value) (A : Prop) : Prop := match v with
  | .iface _ _ => A
  | _ => False

/-- A literal's parts are laid, one behind the other. -/
def layParts (place : Nat → Option (Nat × Nat)) (cells : List Value) : List (Nat × Value) → (List Value → Prop) → Prop
  | [], K => K cells
  | (i, v) :: r, K => match place i with
    | some (off, size) => CELLS v fun l => match Nat.beq l.length size && Nat.ble (off + l.length) cells.length with
      | true => layParts place (setFrom cells off l) r K
      | false => False
    | none => False

def sizeK (P : Program) (t : TypeId) (K : Nat → Prop) : Prop := match P.info? t with
  | some i => K i.size
  | none => False

def hasInfo (P : Program) : List Field → Bool
  | [] => true
  | f :: r => match P.info? f.type with
    | some _ => hasInfo P r
    | none => false

def zeroL (P : Program) (t : TypeId) : Option (List Value) := match P.info? t with
  | some i => match i.zero with
    | some (.agg cs) => some cs.toList
    | some (.tuple _) => none
    | some v => some [v]
    | none => none
  | none => none

def pairs (e : Env) : List (Nat × Operand) → Option (List (Nat × Value))
  | [] => some []
  | (i, x) :: r => match arg e x, pairs e r with
    | some v, some l => some ((i, v) :: l)
    | _, _ => none

def fieldPlaces (P : Program) (fs : List Field) (i : Nat) : Option (Nat × Nat) := match fs[i]? with
  | some f => some (f.offset, P.cellsOf f.type)
  | none => none

/-- Operations that leave the world alone. -/
def isSil : Op → Bool
  | .move _ | .assign _ | .pick .. | .load .. | .nilCheck _ | .binOp .. | .unOp .. | .convert .. | .makeInterface .. | .makeFunc .. | .slice .. | .fieldAddr .. | .field ..
  | .indexAddr .. | .index .. | .lookup .. | .typeAssert .. | .extract .. | .build .. => true
  | .call c => match c.callee with
    | .builtin .len | .builtin .cap | .builtin .min | .builtin .max => true
    | _ => false
  | _ => false

/-- The part of an aggregate. -/
def partL (P : Program) (ft : TypeId) (cs : List Value) (off : Nat) : Option Value := match P.underlying ft with
  | some (.struct _) => some (.agg ((cs.drop off).take (P.cellsOf ft)).toArray)
  | some (.array _ _) => some (.agg ((cs.drop off).take (P.cellsOf ft)).toArray)
  | some _ => cs[off]?
  | none => none

def eqF (P : Program) (eq : TypeId → Value → Value → Option Bool) (xs ys : List Value) : List Field → Option Bool
  | [] => some true
  | f :: fs => match f.name == "_" with
    | true => eqF P eq xs ys fs
    | false => match partL P f.type xs f.offset, partL P f.type ys f.offset with
      | some a, some b => match eq f.type a b, eqF P eq xs ys fs with
        | some r, some s => some (r && s)
        | _, _ => none
      | _, _ => none

/-- Whether two plain values are equal. -/
def eqV (P : Program) : Nat → TypeId → Value → Value → Option Bool
  | 0, _, _, _ => none
  | d + 1, t, x, y => match P.underlying t with
    | some (.int _) => match x, y with
      | .int k a, .int k' b => match Nat.beq (kNum k') (kNum k) with
        | true => some (a == b)
        | false => none
      | _, _ => none
    | some .bool => match x, y with
      | .bool a, .bool b => some (a == b)
      | _, _ => none
    | some .string => match x, y with
      | .string a, .string b => some (a == b)
      | _, _ => none
    | some (.struct fs) => match P.stoodInHeld t with
      | false => match x, y with
        | .agg xs, .agg ys => eqF P (eqV P d) xs.toList ys.toList fs.toList
        | _, _ => none
      | true => none
    | _ => none

def eqOp (P : Program) (op : BinOp) (t : TypeId) (a b : Value) : Option Bool := match op with
  | .eql => match P.eqGuardType P.depth t with
    | false => eqV P 20 t a b
    | true => none
  | .neq => match P.eqGuardType P.depth t with
    | false => match eqV P 20 t a b with
      | some r => some (!r)
      | none => none
    | true => none
  | _ => none

def isInt (P : Program) (t : TypeId) : Bool := match P.underlying t with
  | some (.int _) => true
  | _ => false

def optArg (e : Env) : Option Operand → Option (Option Value)
  | none => some none
  | some x => match arg e x with
    | some v => some (some v)
    | none => none

def silB (P : Program) (w : World) (o : Oper) (b : Builtin) (ts : Array TypeId) (l : List Value) (K : Value → List Fact → Prop) : Prop := match b with
  | .len => match (ts[0]?).bind P.underlying, l with
    | some (.slice _), [.slice _ n _] => K (.int .i64 n) []
    | some .string, [.string s] => K (.int .i64 s.size) []
    | some _, _ => SILX P w (Builtin.len_ ts o.type l.toArray) fun v F => asT1 P o.type v fun v' => K v' F
    | none, _ => False
  | .cap => SILN P (Builtin.cap_ ts o.type l.toArray) fun v => asT1 P o.type v fun v' => K v' []
  | .min => SILN P (Builtin.min_ ts o.type l.toArray) fun v => asT1 P o.type v fun v' => K v' []
  | .max => SILN P (Builtin.max_ ts o.type l.toArray) fun v => asT1 P o.type v fun v' => K v' []
  | _ => False

def sil (P : Program) (e : Env) (w : World) (o : Oper) (K : Value → List Fact → Prop) : Prop := match o.op with
  | .move x => match arg e x with
    | some v => K v []
    | none => False
  | .assign x => match arg e x with
    | some v => K v []
    | none => False
  | .pick c a b => match arg e c with
    | some (.bool t) => ITE t (match arg e a with
        | some v => K v []
        | none => False) (match arg e b with
        | some v => K v []
        | none => False)
    | _ => False
  | .load t a => match arg e a with
    | some (.pointer q) => NN q fun b o => ldT P t w ⟨b, o, none⟩ K
    | _ => False
  | .nilCheck x => match P.underlying o.type with
    | some (.func _ _ _) => match arg e x with
      | some v => FUNV v (K v [])
      | none => False
    | some (.interface _) => match arg e x with
      | some v => IFAV v (K v [])
      | none => False
    | _ => match arg e x with
      | some (.pointer q) => NN q fun b o => K (.pointer (some ⟨b, o, none⟩)) []
      | _ => False
  | .binOp op t x y yt => match isInt P t && isInt P yt with
    | true => match arg e x, arg e y with
      | some (.int k a), some (.int k' b) => match isShift op with
        | true => GE0 b (BIND (shI op k a b) fun n => K (.int k n) [])
        | false => match Nat.beq (kNum k') (kNum k) with
          | true => binI op k a b fun v => K v []
          | false => False
      | _, _ => False
    | false => match arg e x, arg e y with
      | some a, some b => match eqOp P op t a b with
        | some r => K (.bool r) []
        | none => SILN P (binE op t x y a b) fun v => asT1 P o.type v fun v' => K v' []
      | _, _ => False
  | .unOp op t x => match isInt P t with
    | true => match op, arg e x with
      | .neg, some (.int k n) => BIND (k.wrap (0 - n)) fun m => K (.int k m) []
      | .xor, some (.int k n) => BIND (bitI .xor k (if k.signed then -1 else k.max) n) fun m => K (.int k m) []
      | _, _ => False
    | false => match op, arg e x with
      | .not, some (.bool b) => K (.bool (!b)) []
      | _, _ => False
  | .convert s d x => match isInt P s, P.underlying d with
    | true, some (.int k) => match arg e x with
      | some (.int _ n) => BIND (k.wrap n) fun m => K (.int k m) []
      | _ => False
    | _, _ => match arg e x with
      | some v => SILX P w (convert s d v) fun v F => asT1 P o.type v fun v' => K v' F
      | none => False
  | .makeInterface t x => match P.underlying t, arg e x with
    | some (.interface _), _ => False
    | some _, some v => K (.iface t v) []
    | _, _ => False
  | .makeFunc fn a b => match args e a.toList, args e b.toList with
    | some l, some r => K (.func fn l.toArray r.toArray) []
    | _, _ => False
  | .slice t x lo hi mx => match arg e x, optArg e lo, optArg e hi, optArg e mx with
    | some v, some a, some b, some c => SILN P (Instr.sliceAt t v a b c) fun v => asT1 P o.type v fun v' => K v' []
    | _, _, _, _ => False
  | .fieldAddr s x f => match P.underlying s with
    | some (.struct fs) => match fs.toList[f]? with
      | some fl => match Nat.beq (P.cellsOf fl.type) 0 with
        | true => False
        | false => match arg e x with
          | some (.pointer q) => NN q fun b o => K (.pointer (some ⟨b, o + fl.offset, none⟩)) []
          | _ => False
      | none => False
    | _ => False
  | .field t x f => match P.underlying t with
    | some (.struct fs) => match fs.toList[f]? with
      | some fl => match arg e x with
        | some (.agg cs) => FIELD P fl.type cs.toList fl.offset fun v => K v []
        | _ => False
      | none => False
    | _ => False
  | .indexAddr t x i => match P.underlying t with
    | some (.slice el) => match arg e x, arg e i with
      | some (.slice a l _), some (.int _ n) => sizeK P el fun sz => IDX a l n sz fun b o => K (.pointer (some ⟨b, o, none⟩)) []
      | _, _ => False
    | some (.array len el) => match arg e x, arg e i with
      | some (.pointer q), some (.int _ n) => sizeK P el fun sz => IDX q len n sz fun b o => K (.pointer (some ⟨b, o, none⟩)) []
      | _, _ => False
    | _ => False
  | .index t x i => match arg e x, arg e i with
    | some v, some j => SILN P (Instr.index t v j) fun v => asT1 P o.type v fun v' => K v' []
    | _, _ => False
  | .lookup t x i ok => match arg e x, arg e i with
    | some v, some j => SILX P w (Instr.lookup t v j ok) fun v F => asT P o.type v fun v' => K v' F
    | _, _ => False
  | .typeAssert x xt at' ok => match arg e x with
    | some v => SILN P (Instr.typeAssert v xt at' ok) fun v => asT P o.type v fun v' => K v' []
    | none => False
  | .extract x i => match arg e x with
    | some (.tuple vs) => GETV vs.toList i fun v => asT1 P o.type v fun v' => K v' []
    | _ => False
  | .build t ps => match zeroL P t, pairs e ps.toList, P.underlying t with
    | some z, some l, some (.struct fs) => match hasInfo P fs.toList with
      | true => layParts (fieldPlaces P fs.toList) z l fun cs => K (.agg cs.toArray) []
      | false => False
    | some z, some l, some (.array _ el) => sizeK P el fun sz => layParts (fun i => some (i * sz, sz)) z l fun cs => K (.agg cs.toArray) []
    | _, _, _ => False
  | .call c => match c.callee, args e c.args.toList with
    | .builtin b, some l => silB P w o b c.argTypes l K
    | _, _ => False
  | _ => False

def loudB (P : Program) (w : World) (o : Oper) (b : Builtin) (ts : Array TypeId) (l : List Value) (K : Value → World → Prop) : Prop := match b with
  | .append => SEML P w (Builtin.append_ ts o.type l.toArray) fun v w' => asT1 P o.type v fun v' => K v' w'
  | .copy => SEML P w (Builtin.copy_ ts o.type l.toArray) fun v w' => asT1 P o.type v fun v' => K v' w'
  | .delete => SEML P w (Builtin.delete_ ts o.type l.toArray) K
  | .clear => SEML P w (Builtin.clear_ ts o.type l.toArray) K
  | _ => False

def loud (P : Program) (e : Env) (w : World) (o : Oper) (K : Value → World → Prop) : Prop := match o.op with
  | .call c => match c.callee, args e c.args.toList with
    | .value (.func f), some l => match plainF P f with
      | true => CALL P f l w fun v w' => asT P o.type v fun v' => K v' w'
      | false => EXT P f l w fun v w' => asT P o.type v fun v' => K v' w'
    | .value x, some l => match arg e x with
      | some v => FCALL P v l w fun v w' => asT P o.type v fun v' => K v' w'
      | none => False
    | .invoke r name, some l => match arg e r with
      | some v => INV P v name l w fun v w' => asT P o.type v fun v' => K v' w'
      | none => False
    | .builtin b, some l => loudB P w o b c.argTypes l K
    | _, none => False
  | .store t a x => match arg e a, arg e x with
    | some (.pointer q), some v => NN q fun b o' => CELLS v fun l => sizeK P t fun sz => match Nat.beq l.length sz with
      | true => stCells ⟨b, o', none⟩ l 0 w fun w' => K undef w'
      | false => False
    | _, _ => False
  | .box t x => match arg e x with
    | some v => CELLS v fun l => NEW w l t fun b w' => K (.pointer (some ⟨b, 0, none⟩)) w'
    | none => False
  | .alloc t => match zeroL P t with
    | some z => NEW w z t fun b w' => K (.pointer (some ⟨b, 0, none⟩)) w'
    | none => False
  | .buildSlice t n ps => match P.underlying t with
    | some (.slice el) => sizeK P el fun sz => match Nat.beq n 0 with
      | true => match ps.toList with
        | [] => NEW w [] el fun b w' => K (.slice (some ⟨b, 0, none⟩) 0 0) w'
        | _ => False
      | false => match zeroL P el, pairs e ps.toList, Nat.ble (n * sz) 16777216 && Nat.blt 0 (n * sz) with
        | some z, some l, true => match Nat.beq z.length sz with
          | true => layParts (fun i => some (i * sz, sz)) (List.replicate n z).flatten l fun cs =>
            NEW w cs el fun b w' => K (.slice (some ⟨b, 0, none⟩) n n) w'
          | false => False
        | _, _, _ => False
    | _ => False
  | .makeSlice t l c => match arg e l, arg e c with
    | some a, some b => SEML P w (Instr.makeSlice t a b) fun v w' => asT1 P o.type v fun v' => K v' w'
    | _, _ => False
  | .makeMap t r => match r with
    | none => NEWMAP w fun b w' => K (.map (some b)) w'
    | some x => match arg e x with
      | some v => SEML P w (Instr.makeMap t (some v)) fun v w' => asT1 P o.type v fun v' => K v' w'
      | none => False
  | .mapUpdate t m k x => match arg e m, arg e k, arg e x with
    | some a, some b, some c => SEMU P w (Instr.mapUpdate t a b c) fun w' => K undef w'
    | _, _, _ => False
  | .insert t m k x => match arg e m, arg e k, arg e x with
    | some a, some b, some c => SEMU P w (Instr.mapUpdate t a b c) fun w' => K undef w'
    | _, _, _ => False
  | .mapEntry t m k => match arg e m, arg e k with
    | some a, some b => SEML P w (Instr.mapEntry t a b) fun v w' => K v w'
    | _, _ => False
  | .entryStore t m s x => match arg e m, arg e s, arg e x with
    | some a, some b, some c => SEMU P w (Instr.entryStore t a b c) fun w' => K undef w'
    | _, _, _ => False
  | .range t x => match arg e x with
    | some v => SEML P w (Instr.range t v) fun v w' => PTRV v fun q => K (.pointer q) w'
    | none => False
  | .next it s => match arg e it with
    | some v => SEML P w (Instr.next v s o.type) fun v w' => TUPV v fun l => K (.tuple l.toArray) w'
    | none => False
  | _ => False

/-! ### Regions -/
def putE (n : Nat) (dst : Option Tmp) (v : Value) (e : Env) (K : Env → Prop) : Prop := match dst with
  | none => K e
  | some d => match Nat.blt d n with
    | true => K ((d, v) :: e)
    | false => False

def guardE (ops : List Oper) (o : Oper) (e : Env) (run skip : Env → Prop) : Prop := match o.guard with
  | none => run e
  | some (j, want) => match ops[j]? with
    | some oj => match oj.dst with
      | some d => match look e d with
        | some (.bool b) => ITE b (match want with
            | true => run ((d, .bool true) :: e)
            | false => skip ((d, .bool true) :: e)) (match want with
            | true => skip ((d, .bool false) :: e)
            | false => run ((d, .bool false) :: e))
        | some (.tuple _) => skip e
        | _ => False
      | none => False
    | none => False

def seqOps (P : Program) (n : Nat) (ops : List Oper) : List Oper → Env → World → (Env → World → Prop) → Prop
  | [], e, w, K => K e w
  | o :: os, e, w, K => guardE ops o e
      (fun e => match isSil o.op with
        | true => sil P e w o fun v _ => putE n o.dst v e fun e => seqOps P n ops os e w K
        | false => loud P e w o fun v w => putE n o.dst v e fun e => seqOps P n ops os e w K)
      (fun e => putE n o.dst undef e fun e => seqOps P n ops os e w K)

/-- Of each operation those, as bits, for which it waits, however far back. -/
def masks : List Oper → List Nat → List Nat
  | [], acc => acc
  | o :: os, acc => masks os (acc ++ [o.after.toList.foldl (fun s x => match Region.binds .any x with
    | true => s ||| (2 ^ x.on ||| acc.getD x.on 0)
    | false => s) 0])

/-- Does operation j wait for operation i? -/
def bef (ops : List Oper) (i j : Nat) : Bool := Nat.testBit ((masks ops []).getD j 0) i

def pickSil (ops : List Oper) : List Nat → Option Nat
  | [] => none
  | i :: r => match ops[i]? with
    | some o => match isSil o.op with
      | true => some i
      | false => pickSil ops r
    | none => pickSil ops r

def allOf {α : Type} (p : α → Prop) : List α → Prop
  | [] => True
  | [x] => p x
  | x :: r => p x ∧ allOf p r

def drawOps (P : Program) (n : Nat) (ops : Array Oper) (K : Env → World → Prop) : Nat → Array Bool → List (Nat × Fact) → Env → World → Prop
  | 0, listed, _, e, w => match Region.ready .any ops listed with
    | [] => K e w
    | _ => False
  | f + 1, listed, R, e, w => match Region.ready .any ops listed with
    | [] => K e w
    | l => match pickSil ops.toList l with
      | some i => match ops.toList[i]?, Region.free .any ops listed i with
        | some o, true => guardE ops.toList o e
            (fun e => sil P e w o fun v F => putE n o.dst v e fun e => drawOps P n ops K f (listed.setIfInBounds i true) (R ++ F.map fun x => (i, x)) e w)
            (fun e => putE n o.dst undef e fun e => drawOps P n ops K f (listed.setIfInBounds i true) R e w)
        | _, _ => False
      | none => allOf (fun i => match ops.toList[i]? with
        | some o => guardE ops.toList o e
            (fun e => loud P e w o fun v w => putE n o.dst v e fun e =>
              KEEP w ((R.filter fun r => !bef ops.toList r.1 i).map (·.2)) ∧
                drawOps P n ops K f (listed.setIfInBounds i true) (R.filter fun r => !bef ops.toList r.1 i) e w)
            (fun e => putE n o.dst undef e fun e => drawOps P n ops K f (listed.setIfInBounds i true) (R.filter fun r => !bef ops.toList r.1 i) e w)
        | none => False) l

/-! ### Code -/
inductive Ex where
  | normal
  | exit (id : Nat)
  | ret

/-- The slots that a piece of code may write, with their types. -/
def assigned : Code → List (Nat × TypeId)
  | .seq a b => assigned a ++ assigned b
  | .cond _ a b => assigned a ++ assigned b
  | .block _ c => assigned c
  | .loop c => assigned c
  | .region _ ops _ => ops.toList.filterMap fun o => match o.dst with
    | some d => some (d, o.type)
    | none => none
  | _ => []

def hasKey : List (Nat × TypeId) → Nat → Bool
  | [], _ => false
  | (k, _) :: r, t => match Nat.beq k t with
    | true => true
    | false => hasKey r t

def strip (l : List (Nat × TypeId)) : Env → Env
  | [] => []
  | (k, v) :: r => match hasKey l k with
    | true => strip l r
    | false => (k, v) :: strip l r

def hasE : Env → Nat → Bool
  | [], _ => false
  | (k, _) :: r, t => match Nat.beq k t with
    | true => true
    | false => hasE r t

/-- The slots that stand in the environment and that the code may write, each once, with their types. -/
def kept (e : Env) : List (Nat × TypeId) → List (Nat × TypeId) → List (Nat × TypeId)
  | [], acc => acc
  | (k, t) :: r, acc => match hasE e k with
    | true => match hasKey acc k with
      | true => kept e r acc
      | false => kept e r (acc ++ [(k, t)])
    | false => kept e r acc

def tmpsOf : List Operand → List Nat
  | [] => []
  | .tmp t :: r => t :: tmpsOf r
  | _ :: r => tmpsOf r

def inN : List Nat → Nat → Bool
  | [], _ => false
  | k :: r, t => match Nat.beq k t with
    | true => true
    | false => inN r t

/-- The slots that a piece of code reads. -/
def reads : Code → List Nat
  | .seq a b => reads a ++ reads b
  | .cond c a b => tmpsOf [c] ++ (reads a ++ reads b)
  | .block _ c => reads c
  | .loop c => reads c
  | .region _ ops _ => ops.toList.flatMap fun o => tmpsOf o.op.operands.toList
  | _ => []

/-- The slots that the first piece writes and that are read behind it, or that stood before, each once. -/
def keptJ (e : Env) (rs : List Nat) : List (Nat × TypeId) → List (Nat × TypeId) → List (Nat × TypeId)
  | [], acc => acc
  | (k, t) :: r, acc => match hasE e k || inN rs k with
    | true => match hasKey acc k with
      | true => keptJ e rs r acc
      | false => keptJ e rs r (acc ++ [(k, t)])
    | false => keptJ e rs r acc

def looks (e : Env) : List (Nat × TypeId) → Option (List Value)
  | [] => some []
  | (k, _) :: r => match look e k, looks e r with
    | some v, some l => some (v :: l)
    | _, _ => none

/-- A slot's value where ways meet: a variable's address (a box has no type), or a value of a type. -/
def asJ (P : Program) (t : TypeId) (v : Value) (K : Value → Prop) : Prop := match Nat.beq t 0 with
  | true => PTRV v fun q => K (.pointer q)
  | false => asT1 P t v K

/-- For all values of these types. -/
def forT (P : Program) : List (Nat × TypeId) → (List Value → Prop) → (List Value → Env → Prop) → Prop
  | [], I, K => I [] → K [] []
  | (k, t) :: r, I, K => ∀ x : Value, forT P r (fun l => I (x :: l)) (fun l en => asJ P t x fun v => K (x :: l) ((k, v) :: en))

def LOOP (vs : List Value) (w : World) (F : (List Value → World → Prop) → (List Value → World → List Value → World → Prop) → Prop) : Prop :=
  ∃ (I : List Value → World → Prop) (m : List Value → World → Nat), I vs w ∧ F I fun xs w' ys w'' => I ys w'' ∧ m ys w'' < m xs w'

def JOIN (F : (List Value → World → Prop) → Prop) : Prop := ∃ J : List Value → World → Prop, F J

def firstId : Code → Option Nat
  | .seq a _ => firstId a
  | .region id _ _ => some id
  | _ => none

def inL : List Nat → Option Nat → Bool
  | _, none => false
  | [], _ => false
  | x :: r, some y => match Nat.beq x y with
    | true => true
    | false => inL r (some y)

def vc (P : Program) (n : Nat) (js : List Nat) : Code → Env → World → (Ex → Env → World → Prop) → Prop
  | .skip, e, w, K => K .normal e w
  | .ret, e, w, K => K .ret e w
  | .exit id, e, w, K => K (.exit id) e w
  | .seq a b, e, w, K => match inL js (firstId a) with
    | false => vc P n js a e w fun x e w => match x with
      | .normal => vc P n js b e w K
      | .exit id => K (.exit id) e w
      | .ret => K .ret e w
    | true => JOIN fun J =>
        vc P n js a e w (fun x e' w => match x with
          | .normal => match looks e' (keptJ e (reads b) (assigned a) []) with
            | some ys => J ys w
            | none => False
          | .exit id => K (.exit id) e' w
          | .ret => K .ret e' w) ∧
        ∀ w', forT P (keptJ e (reads b) (assigned a) []) (fun l => J l w') fun _ e1 => vc P n js b (e1 ++ strip (assigned a) e) w' K
  | .cond c a b, e, w, K => match arg e c with
    | some (.bool t) => ITE t (vc P n js a e w K) (vc P n js b e w K)
    | _ => False
  | .block id c, e, w, K => vc P n js c e w fun x e w => match x with
    | .normal => K .normal e w
    | .exit j => match Nat.beq j id with
      | true => K .normal e w
      | false => K (.exit j) e w
    | .ret => K .ret e w
  | .loop c, e, w, K => match looks e (kept e (assigned c) []) with
    | some vs => LOOP vs w fun I N => ∀ w', forT P (kept e (assigned c) []) (fun l => I l w') fun xs e1 =>
        vc P n js c (e1 ++ strip (assigned c) e) w' fun x e' w'' => match x with
          | .normal => match looks e' (kept e (assigned c) []) with
            | some ys => N xs w' ys w''
            | none => False
          | .exit id => K (.exit id) e' w''
          | .ret => K .ret e' w''
    | none => False
  | .region _ ops draw, e, w, K => match draw with
    | false => seqOps P n ops.toList ops.toList e w (K .normal)
    | true => match P.follows .mixedOrders && Region.noSelect ops with
      | true => DRAW w fun w => drawOps P n ops (K .normal) ops.size (Array.replicate ops.size false) [] e w
      | false => False
  | _, _, _, _ => False

def resL (P : Program) (e : Env) (w : World) : List ResultVar → (List Value → Prop) → Prop
  | [], K => K []
  | .tmp t :: r, K => match look e t with
    | some v => resL P e w r fun l => K (v :: l)
    | none => False
  | .cell a t :: r, K => match look e a with
    | some (.pointer q) => NN q fun b o => ldT P t w ⟨b, o, none⟩ fun v _ => resL P e w r fun l => K (v :: l)
    | _ => False

def RES (l : List Value) (K : Value → Prop) : Prop := match l with
  | [v] => K v
  | l => K (.tuple l.toArray)

def startE : Nat → List Value → Env
  | _, [] => []
  | i, v :: r => (i, v) :: startE (i + 1) r

/-- What is asked of a function's body. -/
def vcFn (P : Program) (fn : Func) (js : List Nat) (as : List Value) (w : World) (K : Value → World → Prop) : Prop := match fn.body with
  | some c => vc P fn.ntmps js c (startE 0 as) w fun x e w => match x with
    | .exit _ => False
    | _ => resL P e w fn.results.toList fun l => RES l fun v => K v w
  | none => False

end Go.Den

/- The evaluator is sound: single operations. -/
namespace Go.Den

variable {P : Program} {n : Nat} {e : Env} {a : Act} {w : World}

/-- The environment tells what the frame's slots hold. -/
def Agree (n : Nat) (e : Env) (a : Act) : Prop := a.tmps.size = n ∧ a.defers = [] ∧ ∀ t v, look e t = some v → a.tmps[t]? = some v

theorem look_cons_eq (d : Nat) (v : Value) (e : Env) : look ((d, v) :: e) d = some v := by
  show (match Nat.beq d d with | true => some v | false => look e d) = some v
  rw [show Nat.beq d d = true from by simp]

theorem look_cons (k : Nat) (v : Value) (e : Env) (t : Nat) : look ((k, v) :: e) t = if k = t then some v else look e t := by
  show (match Nat.beq k t with | true => some v | false => look e t) = _
  by_cases h : k = t
  · have : Nat.beq k t = true := by simpa using h
    rw [this, if_pos h]
  · have : Nat.beq k t = false := by
      cases hb : Nat.beq k t with
      | false => rfl
      | true => exact absurd (by simpa using hb) h
    rw [this, if_neg h]

theorem Agree.eval (h : Agree n e a) {x : Operand} {v : Value} (hx : arg e x = some v) : a.eval x = v := by
  cases x with
  | tmp t => have := h.2.2 t v hx; simp [Act.eval, this]
  | const u => simpa [arg, Act.eval] using hx
  | global g => simpa [arg, Act.eval] using hx
  | func f => simpa [arg, Act.eval] using hx

theorem Agree.evals (h : Agree n e a) : ∀ {l : List Operand} {vs : List Value}, args e l = some vs → l.map a.eval = vs
  | [], vs, hx => by simpa [args] using hx
  | x :: r, vs, hx => by
    unfold args at hx
    split at hx
    · rename_i v l h1 h2
      cases hx
      simp [h.eval h1, h.evals h2]
    · cases hx

theorem Agree.evalsA (h : Agree n e a) {l : Array Operand} {vs : List Value} (hx : args e l.toList = some vs) : l.map a.eval = vs.toArray := by
  apply Array.toList_inj.1
  simpa using h.evals hx

theorem Agree.opt (h : Agree n e a) {x : Option Operand} {v : Option Value} (hx : optArg e x = some v) : x.map a.eval = v := by
  cases x with
  | none => simpa [optArg] using hx
  | some x =>
    unfold optArg at hx
    dsimp only at hx
    split at hx
    · rename_i u hu
      cases hx
      simp [h.eval hu]
    · cases hx

theorem Agree.pairs (h : Agree n e a) : ∀ {l : List (Nat × Operand)} {vs : List (Nat × Value)}, pairs e l = some vs → l.map (fun (i, x) => (i, a.eval x)) = vs
  | [], vs, hx => by simpa [Go.Den.pairs] using hx
  | (i, x) :: r, vs, hx => by
    unfold Go.Den.pairs at hx
    split at hx
    · rename_i v l h1 h2
      cases hx
      have := h.pairs h2
      simp only [List.map_cons, h.eval h1, this]
    · cases hx

theorem Agree.put (h : Agree n e a) {d : Nat} (hd : d < n) (v : Value) : Agree n ((d, v) :: e) (a.put (some d) v) := by
  refine ⟨by simpa [Act.put] using h.1, h.2.1, fun t u hu => ?_⟩
  rw [look_cons] at hu
  by_cases hdt : d = t
  · subst hdt
    rw [if_pos rfl] at hu
    cases hu
    have : d < a.tmps.size := by rw [h.1]; exact hd
    simp [Act.put, this]
  · rw [if_neg hdt] at hu
    have := h.2.2 t u hu
    simp [Act.put, Array.getElem?_setIfInBounds_ne hdt, this]

theorem Agree.known (h : Agree n e a) {d : Nat} {v : Value} (hd : look e d = some v) : Agree n ((d, v) :: e) a := by
  refine ⟨h.1, h.2.1, fun t u hu => ?_⟩
  rw [look_cons] at hu
  by_cases hdt : d = t
  · subst hdt
    rw [if_pos rfl] at hu
    cases hu
    exact h.2.2 _ _ hd
  · rw [if_neg hdt] at hu
    exact h.2.2 t u hu

theorem Agree.less (h : Agree n e a) {e' : Env} (hs : ∀ t v, look e' t = some v → look e t = some v) : Agree n e' a :=
  ⟨h.1, h.2.1, fun t v hv => h.2.2 t v (hs t v hv)⟩

/-! ### The printed words, inverted -/
theorem kNum_inj {k k' : IntKind} (h : Nat.beq (kNum k') (kNum k) = true) : k' = k := by
  cases k' <;> cases k <;> first | rfl | cases h
theorem INTV.inv {k : IntKind} {v : Value} {K : Int → Prop} (h : INTV k v K) : ∃ n, v = .int k n ∧ K n := by
  unfold INTV at h; split at h
  · split at h
    · rename_i hk; cases kNum_inj hk; exact ⟨_, rfl, h⟩
    · exact h.elim
  · exact h.elim
theorem BOOLV.inv {v : Value} {K : Bool → Prop} (h : BOOLV v K) : ∃ b, v = .bool b ∧ K b := by
  unfold BOOLV at h; split at h
  · exact ⟨_, rfl, h⟩
  · exact h.elim
theorem STRV.inv {v : Value} {K : ByteArray → Prop} (h : STRV v K) : ∃ b, v = .string b ∧ K b := by
  unfold STRV at h; split at h
  · exact ⟨_, rfl, h⟩
  · exact h.elim
theorem PTRV.inv {v : Value} {K : Option Addr → Prop} (h : PTRV v K) : ∃ b, v = .pointer b ∧ K b := by
  unfold PTRV at h; split at h
  · exact ⟨_, rfl, h⟩
  · exact h.elim
theorem SLV.inv {v : Value} {K : Option Addr → Nat → Nat → Prop} (h : SLV v K) : ∃ b l c, v = .slice b l c ∧ K b l c := by
  unfold SLV at h; split at h
  · exact ⟨_, _, _, rfl, h⟩
  · exact h.elim
theorem MAPV.inv {v : Value} {K : Option Nat → Prop} (h : MAPV v K) : ∃ b, v = .map b ∧ K b := by
  unfold MAPV at h; split at h
  · exact ⟨_, rfl, h⟩
  · exact h.elim
theorem AGGV.inv {v : Value} {K : List Value → Prop} (h : AGGV v K) : ∃ cs, v = .agg cs ∧ K cs.toList := by
  unfold AGGV at h; split at h
  · exact ⟨_, rfl, h⟩
  · exact h.elim
theorem TUPV.inv {v : Value} {K : List Value → Prop} (h : TUPV v K) : ∃ cs, v = .tuple cs ∧ K cs.toList := by
  unfold TUPV at h; split at h
  · exact ⟨_, rfl, h⟩
  · exact h.elim
theorem NN.inv {q : Option Addr} {K : Nat → Nat → Prop} (h : NN q K) : ∃ b o, q = some ⟨b, o, none⟩ ∧ K b o := by
  unfold NN at h; split at h
  · exact ⟨_, _, rfl, h⟩
  · exact h.elim
theorem GETV.inv {cs : List Value} {i : Nat} {K : Value → Prop} (h : GETV cs i K) : ∃ v, cs[i]? = some v ∧ K v := by
  unfold GETV at h; split at h
  · exact ⟨_, by assumption, h⟩
  · exact h.elim
theorem LEN.inv {cs : List Value} {i : Nat} {A : Prop} (h : LEN cs i A) : cs.length = i ∧ A := by
  unfold LEN at h; split at h
  · rename_i hb; exact ⟨by simpa using hb, h⟩
  · exact h.elim
theorem LDV.inv {w : World} {p : Addr} {K : Value → Prop} (h : LDV w p K) : ∃ v, w.cell? p = some v ∧ K v := by
  unfold LDV at h; split at h
  · exact ⟨_, by assumption, h⟩
  · exact h.elim
theorem CELLS.inv {v : Value} {K : List Value → Prop} (h : CELLS v K) : K v.cells.toList := by
  cases v <;> first | exact h | exact (h : False).elim
theorem ITE.inv {b : Bool} {A B : Prop} (h : ITE b A B) : (b = true → A) ∧ (b = false → B) := by
  cases b <;> exact ⟨fun h' => by cases h' <;> exact h, fun h' => by cases h' <;> exact h⟩

theorem Sh.as_inv {s : Sh} {v : Value} {K : Value → Prop} (h : s.as v K) : K v := by
  cases s <;> unfold Sh.as at h <;> dsimp only at h
  case int k => obtain ⟨n, e, h'⟩ := INTV.inv h; rw [e]; exact h'
  case bool => obtain ⟨n, e, h'⟩ := BOOLV.inv h; rw [e]; exact h'
  case str => obtain ⟨n, e, h'⟩ := STRV.inv h; rw [e]; exact h'
  case ptr => obtain ⟨n, e, h'⟩ := PTRV.inv h; rw [e]; exact h'
  case sl => obtain ⟨_, _, _, e, h'⟩ := SLV.inv h; rw [e]; exact h'
  case map => obtain ⟨n, e, h'⟩ := MAPV.inv h; rw [e]; exact h'
  case any => exact h

theorem aggFrom_inv {cs : List Value} : ∀ {ss : List Sh} {i : Nat} {K : List Value → Prop}, aggFrom cs ss i K → K (cs.drop i)
  | [], i, K, h => by obtain ⟨e, h'⟩ := LEN.inv h; subst e; simpa using h'
  | s :: ss, i, K, h => by
    obtain ⟨v, hv, h⟩ := GETV.inv h
    have h := aggFrom_inv (Sh.as_inv h)
    have hi : i < cs.length := (List.getElem?_eq_some_iff.1 hv).1
    rw [List.drop_eq_getElem_cons hi]
    rw [List.getElem?_eq_getElem hi] at hv
    cases hv
    exact h

theorem asT1_inv {t : TypeId} {v : Value} {K : Value → Prop} (h : asT1 P t v K) : K v := by
  unfold asT1 at h
  split at h
  · obtain ⟨cs, rfl, h⟩ := h.inv; simpa using aggFrom_inv h
  · obtain ⟨cs, rfl, h⟩ := h.inv; simpa using aggFrom_inv h
  · exact Sh.as_inv h
  · exact h.elim

theorem tupFrom_inv {cs : List Value} : ∀ {ts : List TypeId} {i : Nat} {K : List Value → Prop}, tupFrom P cs ts i K → K (cs.drop i)
  | [], i, K, h => by obtain ⟨e, h'⟩ := LEN.inv h; subst e; simpa using h'
  | s :: ss, i, K, h => by
    obtain ⟨v, hv, h⟩ := GETV.inv h
    have h := tupFrom_inv (asT1_inv h)
    have hi : i < cs.length := (List.getElem?_eq_some_iff.1 hv).1
    rw [List.drop_eq_getElem_cons hi]
    rw [List.getElem?_eq_getElem hi] at hv
    cases hv
    exact h

theorem asT_inv {t : TypeId} {v : Value} {K : Value → Prop} (h : asT P t v K) : K v := by
  unfold asT at h
  split at h
  · obtain ⟨cs, rfl, h⟩ := h.inv; simpa using tupFrom_inv h
  · exact asT1_inv h

theorem Sh.ld_inv {s : Sh} {p : Addr} {K : Value → Prop} (h : s.ld w p K) : ∃ v, w.cell? p = some v ∧ K v := by
  cases s <;> unfold Sh.ld at h <;> dsimp only at h
  case int k => obtain ⟨v, hv, h⟩ := LDV.inv h; obtain ⟨n, e, h'⟩ := INTV.inv h; exact ⟨_, hv, by rw [e]; exact h'⟩
  case bool => obtain ⟨v, hv, h⟩ := LDV.inv h; obtain ⟨n, e, h'⟩ := BOOLV.inv h; exact ⟨_, hv, by rw [e]; exact h'⟩
  case str => obtain ⟨v, hv, h⟩ := LDV.inv h; obtain ⟨n, e, h'⟩ := STRV.inv h; exact ⟨_, hv, by rw [e]; exact h'⟩
  case ptr => obtain ⟨v, hv, h⟩ := LDV.inv h; obtain ⟨n, e, h'⟩ := PTRV.inv h; exact ⟨_, hv, by rw [e]; exact h'⟩
  case sl => obtain ⟨v, hv, h⟩ := LDV.inv h; obtain ⟨_, _, _, e, h'⟩ := SLV.inv h; exact ⟨_, hv, by rw [e]; exact h'⟩
  case map => obtain ⟨v, hv, h⟩ := LDV.inv h; obtain ⟨n, e, h'⟩ := MAPV.inv h; exact ⟨_, hv, by rw [e]; exact h'⟩
  case any => exact LDV.inv h

/-- What loads of a row of cells come to, in whatever world has these facts. -/
theorem ldCells_inv {p : Addr} : ∀ {ss : List Sh} {i : Nat} {K : List Value → List Fact → Prop}, ldCells w p ss i K →
    ∃ l F, l.length = ss.length ∧ KEEP w F ∧ K l F ∧ ∀ w' (acc : Array Value), KEEP w' F → (loadCellsFrom p i ss.length acc).run P w' = .ok (acc ++ l.toArray) w'
  | [], i, K, h => ⟨[], [], rfl, by simp [KEEP], h, fun w' acc _ => by simp [loadCellsFrom]⟩
  | s :: ss, i, K, h => by
    obtain ⟨v, hv, h⟩ := Sh.ld_inv h
    obtain ⟨l, F, hl, hF, hK, hr⟩ := ldCells_inv h
    refine ⟨v :: l, .cell (p.add i) v :: F, by simp [hl], ?_, hK, fun w' acc hk => ?_⟩
    · intro f hf
      rcases List.mem_cons.1 hf with rfl | hf
      · exact hv
      · exact hF f hf
    · have h0 : w'.cell? (p.add i) = some v := hk (.cell (p.add i) v) (by simp)
      simp only [List.length_cons, loadCellsFrom]
      have := hr w' (acc.push v) (fun f hf => hk f (List.mem_cons_of_mem _ hf))
      simp [load, Sem.run, h0, this]

theorem info_of_underlying {t : TypeId} {d : TypeDesc} (hd : P.underlying t = some d) : ∃ i, P.info? t = some i := by
  cases hi : P.info? t with
  | some i => exact ⟨i, rfl⟩
  | none => simp [Program.underlying, hi] at hd

theorem ldAgg_inv {t : TypeId} {d : TypeDesc} {p : Addr} {K : Value → List Fact → Prop} (hd : P.underlying t = some d) (hagg : ∀ w', (isAgg t).run P w' = .ok true w')
    (h : match Nat.beq (flat P 20 t).length (P.cellsOf t) with
      | true => ldCells w p (flat P 20 t) 0 fun l F => K (.agg l.toArray) F
      | false => False) : ∃ v F, KEEP w F ∧ K v F ∧ ∀ w', KEEP w' F → (loadVar t p).run P w' = .ok v w' := by
  split at h
  · rename_i hl
    have hl : (flat P 20 t).length = P.cellsOf t := by simpa using hl
    obtain ⟨l, F, _, hF, hK, hr⟩ := ldCells_inv (P := P) h
    refine ⟨_, F, hF, hK, fun w' hk => ?_⟩
    have h1 := hr w' #[] hk
    rw [hl] at h1
    obtain ⟨i, hi⟩ := info_of_underlying hd
    have hc : P.cellsOf t = i.size := by simp [Program.cellsOf, hi]
    rw [hc] at h1
    simp only [loadVar, Sem.run_bind, hagg, Result.andThen_ok, if_true, sizeOf, typeInfo]
    simp [program, Sem.run, hi, loadCells, h1]
  · exact h.elim

theorem ldT_inv {t : TypeId} {p : Addr} {K : Value → List Fact → Prop} (h : ldT P t w p K) :
    ∃ v F, KEEP w F ∧ K v F ∧ ∀ w', KEEP w' F → (loadVar t p).run P w' = .ok v w' := by
  unfold ldT at h
  split at h
  · rename_i fs hd; exact ldAgg_inv hd (fun w' => by simp [isAgg, run_underlying hd]) h
  · rename_i m el hd; exact ldAgg_inv hd (fun w' => by simp [isAgg, run_underlying hd]) h
  · rename_i d h1 h2 hd
    obtain ⟨v, hv, hK⟩ := Sh.ld_inv h
    refine ⟨v, [.cell p v], by simpa [KEEP, Fact.holds] using hv, hK, fun w' hk => ?_⟩
    have hv' : w'.cell? p = some v := hk (.cell p v) (by simp)
    have hagg : (isAgg t).run P w' = .ok false w' := by
      cases d <;> first | (simp [isAgg, run_underlying hd]; done) | exact absurd rfl (h1 _) | exact absurd rfl (h2 _ _)
    simp only [loadVar, Sem.run_bind, hagg, Result.andThen_ok]
    simp [load, Sem.run, hv']
  · exact h.elim

end Go.Den

/- The evaluator is sound: operations that leave the world alone. -/
namespace Go.Den

variable {P : Program} {n : Nat} {e : Env} {w : World}

/-- The outcome of an operation that leaves the world alone. -/
def Silent (P : Program) (n : Nat) (e : Env) (w : World) (o : Oper) (K : Value → List Fact → Prop) : Prop :=
  ∃ v F, KEEP w F ∧ K v F ∧ ∀ a, Agree n e a → ∀ w', KEEP w' F → (execOp a.eval o).run P w' = .ok (.value v) w'

theorem Silent.none {o : Oper} {K : Value → List Fact → Prop} {v : Value} (hK : K v []) (h : ∀ a, Agree n e a → ∀ w', (execOp a.eval o).run P w' = .ok (.value v) w') : Silent P n e w o K :=
  ⟨v, [], by simp [KEEP], hK, fun a ha w' _ => h a ha w'⟩

theorem Silent.silx {o : Oper} {s : Sem Value} {K : Value → List Fact → Prop} (h : SILX P w s K) (hs : ∀ a, Agree n e a → execOp a.eval o = (do pure (.value (← s)))) : Silent P n e w o K := by
  obtain ⟨v, F, hF, hr, hK⟩ := h
  refine ⟨v, F, hF, hK, fun a ha w' hk => ?_⟩
  rw [hs a ha]
  simp [hr w' hk]

theorem SILX.mono {s : Sem Value} {K K' : Value → List Fact → Prop} (h : SILX P w s K) (hk : ∀ v F, K v F → K' v F) : SILX P w s K' := by
  obtain ⟨v, F, hF, hr, hK⟩ := h
  exact ⟨v, F, hF, hr, hk _ _ hK⟩

theorem IDX.inv {q : Option Addr} {len : Nat} {i : Int} {size : Nat} {K : Nat → Nat → Prop} (h : IDX q len i size K) :
    0 ≤ i ∧ i < len ∧ ∃ b o, q = some ⟨b, o, none⟩ ∧ K b (o + i.toNat * size) := by
  obtain ⟨h0, h1, h⟩ := h
  refine ⟨h0, h1, ?_⟩
  split at h
  · exact ⟨_, _, rfl, h⟩
  · exact h.elim

theorem Addr.add_eq (b o k : Nat) : (Addr.add ⟨b, o, none⟩ k) = ⟨b, o + k, none⟩ := by
  unfold Addr.add; split
  · subst_vars; rfl
  · rfl

theorem binI_inv {op : BinOp} {k : IntKind} {x y : Int} {K : Value → Prop} {t : TypeId} {ox oy : Operand} (hsh : isShift op = false) (h : binI op k x y K) :
    ∃ v, K v ∧ ∀ w', (do eqGuard op t ox oy (.int k x) (.int k y); binOp op t (.int k x) (.int k y) : Sem Value).run P w' = .ok v w' := by
  cases op <;> simp only [binI, BIND, NZ] at h
  case quo => obtain ⟨hy, h⟩ := h; exact ⟨_, h, fun w' => by simp [eqGuard, binOp, Op.intDiv, hy]⟩
  case rem => obtain ⟨hy, h⟩ := h; exact ⟨_, h, fun w' => by simp [eqGuard, binOp, Op.intDiv, hy]⟩
  case and => exact ⟨_, h, fun w' => by simp [eqGuard, binOp, Op.intBits, bitI]⟩
  case or => exact ⟨_, h, fun w' => by simp [eqGuard, binOp, Op.intBits, bitI]⟩
  case xor => exact ⟨_, h, fun w' => by simp [eqGuard, binOp, Op.intBits, bitI]⟩
  case andNot => exact ⟨_, h, fun w' => by simp [eqGuard, binOp, Op.intBits, bitI]⟩
  all_goals first
    | exact h.elim
    | (refine ⟨_, h, fun w' => ?_⟩; first | (simp [eqGuard, binOp, Op.intArith]; done) | (simp [eqGuard, binOp]; rfl))

theorem shI_run {op : BinOp} {k k' : IntKind} {x y : Int} {t : TypeId} {ox oy : Operand} (hsh : isShift op = true) (hy : 0 ≤ y) (w' : World) :
    (do eqGuard op t ox oy (.int k x) (.int k' y); binOp op t (.int k x) (.int k' y) : Sem Value).run P w' = .ok (.int k (shI op k x y)) w' := by
  have : ¬ y < 0 := by omega
  cases op <;> first | (simp [isShift] at hsh; done) | simp [eqGuard, binOp, Op.shift, this, shI]

theorem FIELD_inv {ft : TypeId} {cs : Array Value} {off : Nat} {K : Value → Prop} (h : FIELD P ft cs.toList off K) :
    ∃ v, K v ∧ ∀ w', (part ft cs off).run P w' = .ok v w' := by
  unfold FIELD at h
  have agg : ∀ d, P.underlying ft = some d → (∀ w', (isAgg ft).run P w' = .ok true w') → K (.agg ((cs.toList.drop off).take (P.cellsOf ft)).toArray) → ∃ v, K v ∧ ∀ w', (part ft cs off).run P w' = .ok v w' := by
    intro d hd ha h
    refine ⟨_, h, fun w' => ?_⟩
    obtain ⟨i, hi⟩ := info_of_underlying hd
    have hc : P.cellsOf ft = i.size := by simp [Program.cellsOf, hi]
    simp only [part, Sem.run_bind, ha, Result.andThen_ok, if_true, sizeOf, typeInfo]
    simp only [program, Sem.run, Result.andThen_ok, hi, Sem.run_pure]
    rw [hc]
    congr 2
    apply Array.toList_inj.1
    simp [List.take_drop]
  split at h
  · rename_i hd; exact agg _ hd (fun w' => by simp [isAgg, run_underlying hd]) h
  · rename_i hd; exact agg _ hd (fun w' => by simp [isAgg, run_underlying hd]) h
  · rename_i d h1 h2 hd
    obtain ⟨v, hv, hK⟩ := GETV.inv h
    refine ⟨v, hK, fun w' => ?_⟩
    have ha : (isAgg ft).run P w' = .ok false w' := by
      cases d <;> first | (simp [isAgg, run_underlying hd]; done) | exact absurd rfl (h1 _) | exact absurd rfl (h2 _ _)
    have hv' : cs[off]? = some v := by simpa using hv
    simp only [part, Sem.run_bind, ha, Result.andThen_ok, Bool.false_eq_true, if_false, hv', Sem.run_pure]
  · exact h.elim

/-! a literal -/
theorem setFrom_eq (cs : List Value) : ∀ (i : Nat) (l : List Value), setFrom cs i l = (l.zipIdx.foldl (fun c (x : Value × Nat) => c.set (i + x.2) x.1) cs) := by
  intro i l
  induction l generalizing cs i with
  | nil => rfl
  | cons v l ih =>
    simp only [setFrom, ih, List.zipIdx_cons, List.foldl_cons, Nat.add_zero]
    have : ∀ (c : List Value) (m : Nat), l.zipIdx.foldl (fun c (x : Value × Nat) => c.set (i + 1 + x.2) x.1) c = (l.zipIdx 1).foldl (fun c (x : Value × Nat) => c.set (i + x.2) x.1) c := by
      intro c _
      rw [show l.zipIdx 1 = (l.zipIdx 0).map (fun x => (x.1, x.2 + 1)) from by rw [List.zipIdx_succ]]
      rw [List.foldl_map]
      simp only [Nat.add_assoc, Nat.add_comm 1]
    exact this _ 0

theorem fill_set (cells : Array Value) (off : Nat) (l : Array Value) :
    (l.zipIdx.foldl (fun cs (c, j) => cs.setIfInBounds (off + j) c) cells) = (setFrom cells.toList off l.toList).toArray := by
  rw [setFrom_eq]
  have key : ∀ (m : List (Value × Nat)) (c : Array Value), (m.foldl (fun cs (x : Value × Nat) => cs.setIfInBounds (off + x.2) x.1) c) = (m.foldl (fun c (x : Value × Nat) => c.set (off + x.2) x.1) c.toList).toArray := by
    intro m
    induction m with
    | nil => intro c; simp
    | cons x m ih => intro c; simp only [List.foldl_cons, ih]; simp
  rw [← Array.foldl_toList]
  simpa using key l.toList.zipIdx cells

theorem setFrom_length (cs : List Value) (i : Nat) (l : List Value) : (setFrom cs i l).length = cs.length := by
  induction l generalizing cs i with
  | nil => rfl
  | cons v l ih => simp [setFrom, ih]

theorem layParts_inv {place : Nat → Option (Nat × Nat)} : ∀ {ps : List (Nat × Value)} {cells : List Value} {K : List Value → Prop}, layParts place cells ps K →
    ∃ cs, K cs ∧ Instr.fill place cells.toArray ps = some cs.toArray
  | [], cells, K, h => ⟨cells, h, rfl⟩
  | (i, v) :: r, cells, K, h => by
    unfold layParts at h
    split at h
    · rename_i off size hp
      have h := CELLS.inv h
      split at h
      · rename_i hb
        obtain ⟨cs, hK, hf⟩ := layParts_inv h
        refine ⟨cs, hK, ?_⟩
        simp only [Bool.and_eq_true] at hb
        have h1 : v.cells.size = size := by have := hb.1; simpa using this
        have h2 : off + v.cells.size ≤ cells.length := by have := hb.2; rw [Nat.ble_eq] at this; simpa using this
        unfold Instr.fill
        simp only [hp]
        rw [if_neg (by simp [h1]; omega)]
        rw [fill_set]
        exact hf
      · exact h.elim
    · exact h.elim

theorem zeroL_run {t : TypeId} {z : List Value} (h : zeroL P t = some z) (w' : World) : ∃ v, (zeroValue t).run P w' = .ok v w' ∧ v.cells = z.toArray ∧ ∃ i, P.info? t = some i := by
  unfold zeroL at h
  split at h
  · rename_i i hi
    have hz : ∀ v, i.zero = some v → (zeroValue t).run P w' = .ok v w' := fun v hv => by
      simp [zeroValue, typeInfo, program, Sem.run, hi, hv]
    split at h
    · rename_i cs hv; cases h; exact ⟨_, hz _ hv, by simp [Value.cells], i, hi⟩
    · cases h
    · rename_i v h1 _ hv
      cases h
      refine ⟨_, hz _ hv, ?_, i, hi⟩
      cases v <;> first | rfl | exact absurd rfl (h1 _)
    · cases h
  · cases h

theorem hasInfo_spec : ∀ {fs : List Field}, hasInfo P fs = true → ∀ f ∈ fs, ∃ i, P.info? f.type = some i
  | [], _, _, h => by cases h
  | g :: r, h, f, hf => by
    unfold hasInfo at h
    split at h
    · rename_i i hi
      rcases List.mem_cons.1 hf with rfl | hf
      · exact ⟨i, hi⟩
      · exact hasInfo_spec h f hf
    · cases h

theorem run_sizeOf {t : TypeId} {i : TypeInfo} (hi : P.info? t = some i) (w' : World) : (sizeOf t).run P w' = .ok i.size w' := by
  simp [sizeOf, typeInfo, program, Sem.run, hi]

theorem mapM_places {fs : List Field} (h : ∀ f ∈ fs, ∃ i, P.info? f.type = some i) (w' : World) :
    (fs.mapM (fun f => do pure (f.offset, ← sizeOf f.type)) : Sem (List (Nat × Nat))).run P w' = .ok (fs.map fun f => (f.offset, P.cellsOf f.type)) w' := by
  induction fs with
  | nil => simp
  | cons f fs ih =>
    obtain ⟨i, hi⟩ := h f (by simp)
    have hc : P.cellsOf f.type = i.size := by simp [Program.cellsOf, hi]
    have ih := ih (fun g hg => h g (by simp [hg]))
    simp only [List.mapM_cons, Sem.run_bind, run_sizeOf hi, Result.andThen_ok, Sem.run_pure, ih, List.map_cons, hc]

theorem sizeK.inv {t : TypeId} {K : Nat → Prop} (h : sizeK P t K) : ∃ i, P.info? t = some i ∧ K i.size := by
  unfold sizeK at h; split at h
  · exact ⟨_, by assumption, h⟩
  · exact h.elim

theorem build_run {t : TypeId} {z : List Value} {l : List (Nat × Value)} {cs : List Value} (hz : zeroL P t = some z) {place : Nat → Option (Nat × Nat)} (hf : Instr.fill place z.toArray l = some cs.toArray)
    (hp : (∃ fs, P.underlying t = some (.struct fs) ∧ place = fieldPlaces P fs.toList ∧ hasInfo P fs.toList = true) ∨
      (∃ m el i, P.underlying t = some (.array m el) ∧ P.info? el = some i ∧ place = fun j => some (j * i.size, i.size))) (w' : World) :
    (Instr.build t l.toArray).run P w' = .ok (.agg cs.toArray) w' := by
  obtain ⟨v, hv, hvc, _⟩ := zeroL_run hz w'
  simp only [Instr.build, Sem.run_bind, hv, Result.andThen_ok, hvc]
  rcases hp with ⟨fs, hd, rfl, hi⟩ | ⟨m, el, i, hd, hi, rfl⟩
  · simp only [run_underlying hd, Result.andThen_ok]
    have hm := mapM_places (hasInfo_spec hi) w'
    have h2 : (fs.mapM (fun f => do pure (f.offset, ← sizeOf f.type)) : Sem (Array (Nat × Nat))).run P w' = .ok (fs.map fun f => (f.offset, P.cellsOf f.type)) w' := by
      obtain ⟨l, rfl⟩ : ∃ l, fs = List.toArray l := ⟨fs.toList, rfl⟩
      rw [List.mapM_toArray]
      simp only [Sem.run_map, hm, Result.andThen_ok]
      simp
    simp only [Sem.run_bind, h2, Result.andThen_ok]
    have hpl : (fun i => (fs.map fun f => (f.offset, P.cellsOf f.type))[i]?) = fieldPlaces P fs.toList := by
      funext i
      simp only [fieldPlaces, Array.getElem?_map, Array.getElem?_toList]
      cases fs[i]? <;> rfl
    simp only [hpl, hf, Sem.run_pure]
  · simp only [run_underlying hd, Result.andThen_ok, Sem.run_bind, run_sizeOf hi, hf, Sem.run_pure]

theorem isInt_spec {t : TypeId} (h : isInt P t = true) : ∃ k, P.underlying t = some (.int k) := by
  unfold isInt at h
  split at h
  · exact ⟨_, by assumption⟩
  · cases h

theorem asT1.silx {o : Oper} {s : Sem Value} {t : TypeId} {K : Value → List Fact → Prop} (h : SILX P w s fun v F => asT1 P t v fun v' => K v' F) (hs : ∀ a, Agree n e a → execOp a.eval o = (do pure (.value (← s)))) : Silent P n e w o K :=
  Silent.silx (h.mono fun _ _ h => asT1_inv h) hs
theorem SILN.silx {s : Sem Value} {K : Value → List Fact → Prop} (h : SILN P s fun v => K v []) : SILX P w s K := by
  obtain ⟨v, hr, hK⟩ := h
  exact ⟨v, [], (fun f hf => by cases hf), fun w' _ => hr w', hK⟩
theorem asT1.siln {o : Oper} {s : Sem Value} {t : TypeId} {K : Value → List Fact → Prop} (h : SILN P s fun v => asT1 P t v fun v' => K v' []) (hs : ∀ a, Agree n e a → execOp a.eval o = (do pure (.value (← s)))) : Silent P n e w o K :=
  asT1.silx (SILN.silx (K := fun v F => asT1 P t v fun v' => K v' F) h) hs
theorem asT.silx {o : Oper} {s : Sem Value} {t : TypeId} {K : Value → List Fact → Prop} (h : SILX P w s fun v F => asT P t v fun v' => K v' F) (hs : ∀ a, Agree n e a → execOp a.eval o = (do pure (.value (← s)))) : Silent P n e w o K :=
  Silent.silx (h.mono fun _ _ h => asT_inv h) hs

theorem asT.siln {o : Oper} {s : Sem Value} {t : TypeId} {K : Value → List Fact → Prop} (h : SILN P s fun v => asT P t v fun v' => K v' []) (hs : ∀ a, Agree n e a → execOp a.eval o = (do pure (.value (← s)))) : Silent P n e w o K :=
  asT.silx (SILN.silx (K := fun v F => asT P t v fun v' => K v' F) h) hs

theorem silB_sound {o : Oper} {b : Builtin} {ts : Array TypeId} {l : List Value} {K : Value → List Fact → Prop} (h : silB P w o b ts l K)
    (hex : ∀ a, Agree n e a → execOp a.eval o = builtin b ts o.type (match o.op with | .call c => (c.args.map fun | .const _ => true | _ => false) | _ => #[]) l.toArray) : Silent P n e w o K := by
  cases b <;> simp only [silB] at h
  case cap => exact asT1.siln h fun a ha => by rw [hex a ha]; rfl
  case min => exact asT1.siln h fun a ha => by rw [hex a ha]; rfl
  case max => exact asT1.siln h fun a ha => by rw [hex a ha]; rfl
  case len =>
    split at h
    · rename_i el a0 k0 c0 hts
      have ⟨t, h0, h1⟩ : ∃ t, ts[0]? = some t ∧ P.underlying t = some (.slice el) := by
        cases h0 : ts[0]? with
        | none => simp [h0] at hts
        | some t => exact ⟨t, rfl, by simpa [h0] using hts⟩
      exact Silent.none h fun a ha w' => by rw [hex a ha]; simp [builtin, Builtin.len_, h0, run_underlying h1, goInt]
    · rename_i s hts
      have ⟨t, h0, h1⟩ : ∃ t, ts[0]? = some t ∧ P.underlying t = some .string := by
        cases h0 : ts[0]? with
        | none => simp [h0] at hts
        | some t => exact ⟨t, rfl, by simpa [h0] using hts⟩
      exact Silent.none h fun a ha w' => by rw [hex a ha]; simp [builtin, Builtin.len_, h0, run_underlying h1, goInt]
    · exact asT1.silx h fun a ha => by rw [hex a ha]; rfl
    · exact h.elim

theorem partL_run {ft : TypeId} {cs : Array Value} {off : Nat} {v : Value} (h : partL P ft cs.toList off = some v) (w' : World) : (part ft cs off).run P w' = .ok v w' := by
  have hf : FIELD P ft cs.toList off (fun u => u = v) := by
    unfold FIELD
    unfold partL at h
    split at h
    · simpa using h
    · simpa using h
    · show GETV _ _ _
      unfold GETV; rw [h]
    · cases h
  obtain ⟨u, hu, hr⟩ := FIELD_inv hf
  rw [← hu]; exact hr w'

theorem eqF_run {d : Nat} {eq : TypeId → Value → Value → Option Bool} (heq : ∀ t x y b, eq t x y = some b → ∀ w', (Op.equalIn d t x y).run P w' = .ok b w') {xs ys : Array Value} :
    ∀ {fs : List Field} {b : Bool}, eqF P eq xs.toList ys.toList fs = some b → ∀ w', (Op.eqFields d xs ys fs).run P w' = .ok b w'
  | [], b, h, w' => by cases h; simp [Op.eqFields]
  | f :: fs, b, h, w' => by
    unfold eqF at h
    unfold Op.eqFields
    split at h
    · rename_i hn
      have hn : f.name = "_" := by simpa using hn
      rw [if_neg (by simp [hn])]
      exact eqF_run heq h w'
    · rename_i hn
      have hn : f.name ≠ "_" := by simpa using hn
      rw [if_pos hn]
      split at h
      · rename_i u v hu hv
        split at h
        · rename_i r s hr hs
          cases h
          simp only [Sem.run_bind, partL_run hu, partL_run hv, Result.andThen_ok, heq _ _ _ _ hr]
          cases r with
          | false => simp
          | true => simpa using eqF_run heq hs w'
        · cases h
      · cases h

theorem eqV_run : ∀ {d : Nat} {t : TypeId} {x y : Value} {b : Bool}, eqV P d t x y = some b → ∀ m, d ≤ m → ∀ w', (Op.equalIn m t x y).run P w' = .ok b w'
  | 0, _, _, _, _, h, _, _, _ => by cases h
  | d + 1, t, x, y, b, h, m, hm, w' => by
    obtain ⟨m, rfl⟩ : ∃ k, m = k + 1 := ⟨m - 1, by omega⟩
    unfold eqV at h
    split at h
    · rename_i hd
      split at h
      · split at h
        · rename_i hk
          cases kNum_inj hk
          cases h
          exact run_equalIn_int w' m t _ _ _ _ hd
        · cases h
      · cases h
    · rename_i hd
      split at h
      · cases h
        exact run_equalIn_bool' w' m t _ _ hd
      · cases h
    · rename_i hd
      split at h
      · cases h
        rw [run_equalIn_string w' m t _ _ hd, beq_toListBytes]
      · cases h
    · rename_i fs hd
      split at h
      · rename_i hs
        split at h
        · rename_i xs ys
          have hfs : P.fieldsOf t = fs := by simp [Program.fieldsOf, hd]
          rw [run_equalIn_agg w' m t xs ys (by rw [hfs]; exact hd) hs, hfs]
          exact eqF_run (fun t x y b hb w' => eqV_run hb m (by omega) w') h w'
        · cases h
      · cases h
    · cases h

theorem eqV_agg {d : Nat} {t : TypeId} {x y : Value} {b : Bool} (h : eqV P d t x y = some b) : (∃ xs ys, x = .agg xs ∧ y = .agg ys) ∨ (∃ p q, x = .bool p ∧ y = .bool q) ∨ (∃ p q, x = .string p ∧ y = .string q) ∨ (∃ k p q, x = .int k p ∧ y = .int k q) := by
  cases d with
  | zero => cases h
  | succ d =>
    unfold eqV at h
    split at h
    · split at h
      · split at h
        · rename_i hk; cases kNum_inj hk; exact .inr (.inr (.inr ⟨_, _, _, rfl, rfl⟩))
        · cases h
      · cases h
    · split at h
      · exact .inr (.inl ⟨_, _, rfl, rfl⟩)
      · cases h
    · split at h
      · exact .inr (.inr (.inl ⟨_, _, rfl, rfl⟩))
      · cases h
    · split at h
      · split at h
        · exact .inl ⟨_, _, rfl, rfl⟩
        · cases h
      · cases h
    · cases h

theorem eqOp_run {op : BinOp} {t : TypeId} {a b : Value} {r : Bool} {ox oy : Operand} (h : eqOp P op t a b = some r) (w' : World) : (binE op t ox oy a b).run P w' = .ok (.bool r) w' := by
  have key : ∀ s, eqV P 20 t a b = some s → P.eqGuardType P.depth t = false → (binE .eql t ox oy a b).run P w' = .ok (.bool s) w' ∧ (binE .neq t ox oy a b).run P w' = .ok (.bool (!s)) w' := by
    intro s hs hg
    have hr := eqV_run hs 10000 (by omega) w'
    unfold binE
    rcases eqV_agg hs with ⟨xs, ys, rfl, rfl⟩ | ⟨p, q, rfl, rfl⟩ | ⟨p, q, rfl, rfl⟩ | ⟨k, p, q, rfl, rfl⟩
    · simp only [Sem.run_bind, run_eqGuard_agg w' _ t ox oy xs ys hg, Result.andThen_ok, run_eql_struct, run_neq_struct, hr]
      exact ⟨trivial, trivial⟩
    · have h0 : eqV P 20 t (.bool p) (.bool q) = some s := hs
      simp only [Sem.run_bind, eqGuard, binOp, Op.equal, Op.maxDepth]
      simp [hr]
    · simp only [Sem.run_bind, eqGuard, binOp]
      have he : (p == q) = s := by
        unfold eqV at hs
        split at hs <;> first | (cases hs; rfl) | cases hs | (split at hs <;> cases hs)
      rw [← he, beq_toListBytes]
      simp [Op.stringOp]
    · simp only [Sem.run_bind, eqGuard, binOp]
      have he : (p == q) = s := by
        unfold eqV at hs
        split at hs
        · have hk : Nat.beq (kNum k) (kNum k) = true := by simp
          simp only [hk] at hs
          cases hs; rfl
        · cases hs
        · cases hs
        · split at hs <;> cases hs
        · cases hs
      rw [← he]
      constructor <;> simp <;> rfl
  unfold eqOp at h
  split at h
  · split at h
    · rename_i hg; exact (key r h hg).1
    · cases h
  · split at h
    · rename_i hg
      split at h
      · rename_i s hs; cases h; exact (key s hs hg).2
      · cases h
    · cases h
  · cases h

theorem sil_sound {o : Oper} {K : Value → List Fact → Prop} (h : sil P e w o K) : Silent P n e w o K := by
  obtain ⟨dst, op, ty, pos, after, guard⟩ := o
  unfold sil at h
  cases op <;> dsimp only at h
  case move x =>
    split at h
    · rename_i v hv; exact Silent.none h fun a ha w' => by simp [execOp, ha.eval hv]
    · exact h.elim
  case assign x =>
    split at h
    · rename_i v hv; exact Silent.none h fun a ha w' => by simp [execOp, ha.eval hv]
    · exact h.elim
  case pick c x y =>
    split at h
    · rename_i t ht
      obtain ⟨h1, h2⟩ := ITE.inv h
      cases t with
      | true =>
        have h := h1 rfl
        split at h
        · rename_i v hv; exact Silent.none h fun a ha w' => by simp [execOp, ha.eval hv, ha.eval ht, asBool]
        · exact h.elim
      | false =>
        have h := h2 rfl
        split at h
        · rename_i v hv; exact Silent.none h fun a ha w' => by simp [execOp, ha.eval hv, ha.eval ht, asBool]
        · exact h.elim
    · exact h.elim
  case load t x =>
    split at h
    · rename_i q hq
      obtain ⟨b, o, rfl, h⟩ := NN.inv h
      obtain ⟨v, F, hF, hK, hr⟩ := ldT_inv h
      exact ⟨v, F, hF, hK, fun a ha w' hk => by simp [execOp, ha.eval hq, Instr.loadAt, Instr.sureAddr, hr w' hk]⟩
    · exact h.elim
  case nilCheck x =>
    split at h
    · split at h
      · rename_i v hv
        unfold FUNV at h
        split at h
        · exact Silent.none h fun a ha w' => by simp only [execOp, ha.eval hv]; rfl
        · exact h.elim
      · exact h.elim
    · split at h
      · rename_i v hv
        unfold IFAV at h
        split at h
        · exact Silent.none h fun a ha w' => by simp only [execOp, ha.eval hv]; rfl
        · exact h.elim
      · exact h.elim
    · split at h
      · rename_i q hq
        obtain ⟨b, o, rfl, h⟩ := NN.inv h
        exact Silent.none h fun a ha w' => by simp only [execOp, ha.eval hq]; rfl
      · exact h.elim
  case binOp op t x y yt =>
    split at h
    · split at h
      · rename_i k x0 k' y0 hx hy
        split at h
        · rename_i hsh
          obtain ⟨h0, h⟩ := h
          exact Silent.none h fun a ha w' => by
            simp only [execOp, ha.eval hx, ha.eval hy]
            rw [Sem.run_bind, shI_run hsh h0]
            rfl
        · rename_i hsh
          split at h
          · rename_i hkk
            have hkk : k' = k := by cases k' <;> cases k <;> first | rfl | cases hkk
            subst hkk
            obtain ⟨v, hK, hr⟩ := binI_inv (P := P) (t := t) (ox := x) (oy := y) hsh h
            exact Silent.none hK fun a ha w' => by
              simp only [execOp, ha.eval hx, ha.eval hy]
              rw [Sem.run_bind, hr]
              rfl
          · exact h.elim
      · exact h.elim
    · split at h
      · rename_i u v hu hv
        split at h
        · rename_i r hr
          exact Silent.none h fun a ha w' => by
            have := eqOp_run (ox := x) (oy := y) hr w'
            unfold binE at this
            simp only [execOp, ha.eval hu, ha.eval hv]
            rw [Sem.run_bind, this]
            rfl
        · exact asT1.siln h fun a ha => by simp only [execOp, ha.eval hu, ha.eval hv]; rfl
      · exact h.elim
  case unOp op t x =>
    split at h
    · split at h
      · rename_i k m hm
        exact Silent.none h fun a ha w' => by simp [execOp, ha.eval hm, Op.unary, Op.intArith]
      · rename_i k m hm
        exact Silent.none h fun a ha w' => by simp [execOp, ha.eval hm, Op.unary, Op.intBits, bitI]
      · exact h.elim
    · split at h
      · rename_i b hb
        exact Silent.none h fun a ha w' => by simp [execOp, ha.eval hb, Op.unary]
      · exact h.elim
  case convert s d x =>
    split at h
    · rename_i k hs hd
      obtain ⟨k0, hs⟩ := isInt_spec hs
      split at h
      · rename_i m hm
        exact Silent.none h fun a ha w' => by simp [execOp, ha.eval hm, convert, run_underlying hs, run_underlying hd, Conv.intToInt]
      · exact h.elim
    · split at h
      · rename_i v hv
        exact asT1.silx h fun a ha => by simp only [execOp, ha.eval hv]
      · exact h.elim
  case makeInterface t x =>
    split at h
    · exact h.elim
    · rename_i d v hni hd hv
      exact Silent.none h fun a ha w' => by
        simp only [execOp, ha.eval hv]
        cases d <;> first
          | exact absurd rfl (hni _)
          | simp [Instr.makeInterface, run_underlying hd]
    · exact h.elim
  case makeFunc fn x y =>
    split at h
    · rename_i l r hl hr
      exact Silent.none h fun a ha w' => by simp [execOp, ha.evalsA hl, ha.evalsA hr, Instr.makeFunc]
    · exact h.elim
  case slice t x lo hi mx =>
    split at h
    · rename_i v l hh m hv hl hh' hm
      exact asT1.siln h fun a ha => by simp only [execOp, ha.eval hv, ha.opt hl, ha.opt hh', ha.opt hm]
    · exact h.elim
  case fieldAddr s x f =>
    split at h
    · rename_i fs hd
      split at h
      · rename_i fl hfl
        split at h
        · exact h.elim
        · rename_i hsz
          split at h
          · rename_i q hq
            obtain ⟨b, o, rfl, h⟩ := NN.inv h
            have hsz' : P.cellsOf fl.type ≠ 0 := fun h0 => by simp [h0] at hsz
            have ⟨i, hi⟩ : ∃ i, P.info? fl.type = some i := by
              cases hi : P.info? fl.type with
              | some i => exact ⟨i, rfl⟩
              | none => simp [Program.cellsOf, hi] at hsz'
            have hs : i.size ≠ 0 := by simpa [Program.cellsOf, hi] using hsz'
            have hfl' : fs[f]? = some fl := by simpa using hfl
            exact Silent.none h fun a ha w' => by
              simp [execOp, ha.eval hq, Instr.fieldAt, run_underlying hd, hfl', Instr.sureAddr, fieldPlace, run_sizeOf hi, hs, Addr.add_eq]
          · exact h.elim
      · exact h.elim
    · exact h.elim
  case field t x f =>
    split at h
    · rename_i fs hd
      split at h
      · rename_i fl hfl
        split at h
        · rename_i cs hcs
          obtain ⟨v, hK, hr⟩ := FIELD_inv h
          have hfl' : fs[f]? = some fl := by simpa using hfl
          exact Silent.none hK fun a ha w' => by
            simp [execOp, ha.eval hcs, Instr.field, run_underlying hd, hfl', asAgg, hr]
        · exact h.elim
      · exact h.elim
    · exact h.elim
  case indexAddr t x ix =>
    split at h
    · rename_i el hd
      split at h
      · rename_i q l c k m hx hi
        obtain ⟨i, hinfo, h⟩ := sizeK.inv h
        obtain ⟨h0, h1, b, o, rfl, hK⟩ := IDX.inv h
        exact Silent.none hK fun a ha w' => by
          simp [execOp, ha.eval hx, ha.eval hi, Instr.indexAt, run_underlying hd, asIntOf, h0, h1, run_sizeOf hinfo, Addr.add_eq]
      · exact h.elim
    · rename_i len el hd
      split at h
      · rename_i q k m hx hi
        obtain ⟨i, hinfo, h⟩ := sizeK.inv h
        obtain ⟨h0, h1, b, o, rfl, hK⟩ := IDX.inv h
        exact Silent.none hK fun a ha w' => by
          simp [execOp, ha.eval hx, ha.eval hi, Instr.indexAt, run_underlying hd, asIntOf, h0, h1, run_sizeOf hinfo, Addr.add_eq, Instr.sureAddr]
      · exact h.elim
    · exact h.elim
  case index t x ix =>
    split at h
    · rename_i u v hu hv
      exact asT1.siln h fun a ha => by simp only [execOp, ha.eval hu, ha.eval hv]
    · exact h.elim
  case lookup t x ix ok =>
    split at h
    · rename_i u v hu hv
      exact asT.silx h fun a ha => by simp only [execOp, ha.eval hu, ha.eval hv]
    · exact h.elim
  case typeAssert x xt at' ok =>
    split at h
    · rename_i v hv
      exact asT.siln h fun a ha => by simp only [execOp, ha.eval hv]
    · exact h.elim
  case extract x i =>
    split at h
    · rename_i vs hv
      obtain ⟨v, hv', h⟩ := GETV.inv h
      have h := asT1_inv h
      have hv' : vs[i]? = some v := by simpa using hv'
      exact Silent.none h fun a ha w' => by simp [execOp, ha.eval hv, Instr.extract, hv']
    · exact h.elim
  case build t ps =>
    split at h
    · rename_i z l fs hz hl hd
      split at h
      · rename_i hi
        obtain ⟨cs, hK, hf⟩ := layParts_inv h
        exact Silent.none hK fun a ha w' => by
          have hp := ha.pairs hl
          have : (ps.map fun (i, x) => (i, a.eval x)) = l.toArray := by
            apply Array.toList_inj.1; simpa using hp
          simp only [execOp, this, Sem.run_bind, build_run hz hf (.inl ⟨fs, hd, rfl, hi⟩) w']
          rfl
      · exact h.elim
    · rename_i z l m el hz hl hd
      obtain ⟨i, hinfo, h⟩ := sizeK.inv h
      obtain ⟨cs, hK, hf⟩ := layParts_inv h
      exact Silent.none hK fun a ha w' => by
        have hp := ha.pairs hl
        have : (ps.map fun (i, x) => (i, a.eval x)) = l.toArray := by
          apply Array.toList_inj.1; simpa using hp
        simp only [execOp, this, Sem.run_bind, build_run hz hf (.inr ⟨m, el, i, hd, hinfo, rfl⟩) w']
        rfl
    · exact h.elim
  case call c =>
    split at h
    · rename_i b l hc hl
      refine silB_sound h fun a ha => ?_
      simp only [execOp, resolve, hc, ha.evalsA hl]
      rfl
    · exact h.elim
  all_goals exact h.elim

end Go.Den


/- The evaluator is sound: operations that turn the world. -/
namespace Go.Den

variable {P : Program} {n : Nat} {e : Env} {w : World}

/-- The outcome of an operation that may turn the world. -/
def Loud (P : Program) (n : Nat) (e : Env) (w : World) (o : Oper) (K : Value → World → Prop) : Prop :=
  ∀ a, Agree n e a → ∀ (next : Act → World → Prop) (Q : Exit → Act → World → Prop), (∀ v w', K v w' → next (a.put o.dst v) w') → o.wp P a w next Q

theorem Loud.value {o : Oper} {K : Value → World → Prop} {v : Value} {w' : World} (hK : K v w') (h : ∀ a, Agree n e a → (execOp a.eval o).run P w = .ok (.value v) w') : Loud P n e w o K :=
  fun a ha next Q hn => by unfold Oper.wp; rw [h a ha]; exact hn _ _ hK

theorem Loud.skip {o : Oper} {K : Value → World → Prop} {w' : World} (hK : K undef w') (h : ∀ a, Agree n e a → (execOp a.eval o).run P w = .ok .skip w') : Loud P n e w o K :=
  fun a ha next Q hn => by unfold Oper.wp; rw [h a ha]; exact hn _ _ hK

theorem Loud.enter {o : Oper} {K : Value → World → Prop} {f : FuncId} {l : List Value} (hK : CALL P f l w K)
    (h : ∀ a, Agree n e a → (execOp a.eval o).run P w = .ok (.enter f l.toArray) w) : Loud P n e w o K :=
  fun a ha next Q hn => by
    unfold Oper.wp; rw [h a ha, Oper.upon_enter]
    exact Calls.mono hK fun en w' he => by cases en <;> first | exact hn _ _ he | exact he.elim

theorem SEML.inv {s : Sem Value} {K : Value → World → Prop} (h : SEML P w s K) : ∃ v w', s.run P w = .ok v w' ∧ K v w' := by
  unfold SEML at h; split at h
  · exact ⟨_, _, by assumption, h⟩
  · exact h.elim
theorem SEMU.inv {s : Sem Unit} {K : World → Prop} (h : SEMU P w s K) : ∃ w', s.run P w = .ok () w' ∧ K w' := by
  unfold SEMU at h; split at h
  · exact ⟨_, by assumption, h⟩
  · exact h.elim

theorem Loud.seml {o : Oper} {s : Sem Value} {K : Value → World → Prop} (h : SEML P w s K) (hs : ∀ a, Agree n e a → execOp a.eval o = (do pure (.value (← s)))) : Loud P n e w o K := by
  obtain ⟨v, w', hr, hK⟩ := h.inv
  exact Loud.value hK fun a ha => by rw [hs a ha]; simp [hr]
theorem Loud.semu {o : Oper} {s : Sem Unit} {K : Value → World → Prop} (h : SEMU P w s fun w' => K undef w') (hs : ∀ a, Agree n e a → execOp a.eval o = (do s; pure .skip)) : Loud P n e w o K := by
  obtain ⟨w', hr, hK⟩ := h.inv
  exact Loud.skip hK fun a ha => by rw [hs a ha]; simp [hr]

theorem SEML.mono {s : Sem Value} {K K' : Value → World → Prop} (h : SEML P w s K) (hk : ∀ v w', K v w' → K' v w') : SEML P w s K' := by
  obtain ⟨v, w', hr, hK⟩ := h.inv
  unfold SEML; rw [hr]; exact hk _ _ hK

theorem plainF_run {f : FuncId} (h : plainF P f = true) (l : Array Value) (w : World) : (callFunc f l).run P w = .ok (.enter f l) w := by
  unfold plainF at h
  split at h
  · rename_i fn hf
    simp only [Bool.and_eq_true, Bool.not_eq_true'] at h
    have hb : fn.body.isNone = false := by cases hb : fn.body <;> simp [hb] at h ⊢
    simp only [callFunc, Sem.run_bind, program, Sem.run, Result.andThen_ok, hf, h.2, hb, Bool.false_eq_true, if_false, Sem.run_pure]
  · cases h

theorem stCells_inv {p : Addr} : ∀ {l : List Value} {i : Nat} {w : World} {K : World → Prop}, stCells p l i w K → ∃ w', K w' ∧ (storeCells p l i).run P w = .ok () w'
  | [], i, w, K, h => ⟨w, h, rfl⟩
  | v :: vs, i, w, K, h => by
    obtain ⟨hs, ⟨u, hu⟩, hf, h⟩ := h
    obtain ⟨w', hK, hr⟩ := stCells_inv h
    refine ⟨w', hK, ?_⟩
    simp only [storeCells, Sem.run_bind]
    have : (store (p.add i) v).run P w = .ok () (w.setCell (p.add i) v) := by
      cases v <;> first | exact hs.elim | simp [store, Sem.run, hu, hf]
    rw [this]
    exact hr

theorem NEW.inv {l : List Value} {t : TypeId} {K : Nat → World → Prop} (h : NEW w l t K) : K w.heap.size (pushW w (.cells l.toArray t (0, 0))) :=
  h _ _ (Eff.push _ _) (Nat.le_refl _) (by show (w.heap.push _)[w.heap.size]? = _; simp)
theorem NEWMAP.inv {K : Nat → World → Prop} (h : NEWMAP w K) : K w.heap.size (pushW w (.map #[] 0)) :=
  h _ _ (Eff.push _ _) (Nat.le_refl _) (by show (w.heap.push _)[w.heap.size]? = _; simp)

theorem newRow_run (t : TypeId) (l : Array Value) (w : World) : (newRow t l).run P w = .ok ⟨w.heap.size, 0, none⟩ (pushW w (.cells l t (0, 0))) := rfl

theorem loudB_sound {o : Oper} {b : Builtin} {ts : Array TypeId} {l : List Value} {K : Value → World → Prop} (h : loudB P w o b ts l K)
    (hex : ∀ a, Agree n e a → execOp a.eval o = builtin b ts o.type (match o.op with | .call c => (c.args.map fun | .const _ => true | _ => false) | _ => #[]) l.toArray) : Loud P n e w o K := by
  cases b <;> simp only [loudB] at h
  case append => exact Loud.seml (h.mono fun _ _ h => asT1_inv h) fun a ha => by rw [hex a ha]; rfl
  case copy => exact Loud.seml (h.mono fun _ _ h => asT1_inv h) fun a ha => by rw [hex a ha]; rfl
  case delete => exact Loud.seml h fun a ha => by rw [hex a ha]; rfl
  case clear => exact Loud.seml h fun a ha => by rw [hex a ha]; rfl

theorem replicate_range (z : List Value) (m : Nat) : ((Array.range (m * z.length)).map fun i => z.toArray[i % z.toArray.size]!) = (List.replicate m z).flatten.toArray := by
  apply Array.toList_inj.1
  apply List.ext_getElem?
  intro i
  simp only [Array.toList_map, Array.toList_range, List.getElem?_map]
  induction m generalizing i with
  | zero => simp
  | succ m ih =>
    rw [List.replicate_succ, List.flatten_cons]
    by_cases hi : i < z.length
    · rw [List.getElem?_append_left hi]
      have : i < (m + 1) * z.length := by rw [Nat.succ_mul]; omega
      rw [List.getElem?_range this]
      simp [Nat.mod_eq_of_lt hi, hi]
    · rw [List.getElem?_append_right (by omega), ← ih]
      by_cases h2 : i < (m + 1) * z.length
      · have h3 : i - z.length < m * z.length := by rw [Nat.succ_mul] at h2; omega
        rw [List.getElem?_range h2, List.getElem?_range h3]
        have : (i - z.length) % z.length = i % z.length := by
          rw [← Nat.mod_eq_sub_mod (by omega)]
        simp [this]
      · have h3 : ¬ i - z.length < m * z.length := by rw [Nat.succ_mul] at h2; omega
        rw [List.getElem?_eq_none (by simpa using h2), List.getElem?_eq_none (by simpa using h3)]

theorem loud_sound {o : Oper} {K : Value → World → Prop} (h : loud P e w o K) : Loud P n e w o K := by
  obtain ⟨dst, op, ty, pos, after, guard⟩ := o
  unfold loud at h
  cases op <;> dsimp only at h
  case call c =>
    split at h
    · rename_i f l hc hl
      split at h
      · rename_i hp
        refine Loud.enter (f := f) (l := l) (h.mono fun _ _ h => asT_inv h) fun a ha => ?_
        simp only [execOp, resolve, hc, ha.evalsA hl, Sem.run_bind]
        have : a.eval (.func f) = .func (.func f) #[] #[] := rfl
        simp [this, Deferred.ofValue, invoke, plainF_run hp]
      · unfold EXT at h
        split at h
        · rename_i v w' hr
          refine Loud.value (asT_inv h) fun a ha => ?_
          simp only [execOp, resolve, hc, ha.evalsA hl, Sem.run_bind]
          have : a.eval (.func f) = .func (.func f) #[] #[] := rfl
          simp [this, Deferred.ofValue, invoke, hr]
        · exact h.elim
    · rename_i x l _ hc hl
      split at h
      · rename_i v hv
        unfold FCALL at h
        split at h
        · rename_i f first captured
          obtain ⟨hp, h⟩ := h
          refine Loud.enter (h.mono fun _ _ h => asT_inv h) fun a ha => ?_
          simp only [execOp, resolve, hc, ha.evalsA hl, ha.eval hv, Sem.run_bind]
          simp [Deferred.ofValue, invoke, plainF_run hp]
        · exact h.elim
      · exact h.elim
    · rename_i r name l hc hl
      split at h
      · rename_i v hv
        obtain ⟨f, l', hm, h⟩ := h
        refine Loud.enter (h.mono fun _ _ h => asT_inv h) fun a ha => ?_
        simp only [execOp, resolve, hc, ha.evalsA hl, ha.eval hv, Sem.run_bind, Sem.run_pure, Result.andThen_ok, invoke]
        simp [hm]
      · exact h.elim
    · rename_i b l hc hl
      refine loudB_sound h fun a ha => ?_
      simp only [execOp, resolve, hc, ha.evalsA hl]
      rfl
    · exact h.elim
  case store t x y =>
    split at h
    · rename_i q v hq hv
      obtain ⟨b, o, rfl, h1⟩ := NN.inv h
      have h2 := CELLS.inv h1
      obtain ⟨i, hi, h⟩ := sizeK.inv h2
      split at h
      · rename_i hl
        obtain ⟨w', hK, hr⟩ := stCells_inv (P := P) h
        have hl' : v.cells.size = i.size := by simpa using hl
        exact Loud.skip hK fun a ha => by
          simp only [execOp, ha.eval hq, ha.eval hv, Instr.storeAt, Instr.sureAddr, storeVar, Sem.run_bind, Sem.run_pure, Result.andThen_ok, run_sizeOf hi, hl', ne_eq, not_true_eq_false, if_false, hr]
      · exact h.elim
    · exact h.elim
  case box t x =>
    split at h
    · rename_i v hv
      have h := CELLS.inv h
      exact Loud.value h.inv fun a ha => by
        simp only [execOp, ha.eval hv, Instr.box, newVar, Sem.run_bind, newRow_run, Result.andThen_ok, Sem.run_pure, Array.toArray_toList]
    · exact h.elim
  case alloc t =>
    split at h
    · rename_i z hz
      obtain ⟨v, hv, hc, _⟩ := zeroL_run hz w
      exact Loud.value h.inv fun a ha => by
        simp only [execOp, Instr.alloc, newVar, Sem.run_bind, hv, newRow_run, hc, Result.andThen_ok, Sem.run_pure]
    · exact h.elim
  case buildSlice t m ps =>
    split at h
    · rename_i el hd
      obtain ⟨i, hi, h1⟩ := sizeK.inv h
      clear h
      split at h1
      · rename_i hm
        have hm : m = 0 := by simpa using hm
        subst hm
        split at h1
        · rename_i hps
          have h := NEW.inv h1
          have hps : ps = #[] := by simpa using hps
          subst hps
          exact Loud.value h fun a ha => by
            simp only [execOp, Instr.buildSlice, Sem.run_bind, run_underlying hd, Result.andThen_ok, run_sizeOf hi]
            rw [if_neg (by simp), if_pos (by simp)]
            have e0 : Array.range (0 * i.size) = #[] := by rw [Nat.zero_mul]; rfl
            simp only [Sem.run_bind, Sem.run_pure, Result.andThen_ok, e0, Array.map_empty, Instr.fill]
            rfl
        · exact h1.elim
      have h := h1
      clear h1
      split at h
      · rename_i z l hz hl hb
        split at h
        · rename_i hzl
          obtain ⟨cs, h, hf⟩ := layParts_inv h
          have h := h.inv
          simp only [Bool.and_eq_true] at hb
          have hb1 : m * i.size ≤ 16777216 := by have := hb.1; rw [Nat.ble_eq] at this; exact this
          have hb2 : 0 < m * i.size := by have := hb.2; rw [Nat.blt_eq] at this; exact this
          have hzl' : z.length = i.size := by simpa using hzl
          exact Loud.value h fun a ha => by
            have hp := ha.pairs hl
            have hps : (ps.map fun (i, x) => (i, a.eval x)) = l.toArray := by
              apply Array.toList_inj.1; simpa using hp
            obtain ⟨v, hv, hvc, _⟩ := zeroL_run hz w
            have hr := replicate_range z m
            simp only [execOp, hps, Instr.buildSlice, Sem.run_bind, run_underlying hd, Result.andThen_ok, run_sizeOf hi]
            rw [if_neg (by omega), if_neg (by omega)]
            simp only [Sem.run_bind, Sem.run_pure, Result.andThen_ok, hv, hvc]
            rw [← hzl', hr] 
            rw [← hzl'] at hf
            simp only [hf, Sem.run_bind, newRow_run, Result.andThen_ok, Sem.run_pure]
        · exact h.elim
      · exact h.elim
    · exact h.elim
  case makeSlice t l c =>
    split at h
    · rename_i u v hu hv
      exact Loud.seml (h.mono fun _ _ h => asT1_inv h) fun a ha => by simp only [execOp, ha.eval hu, ha.eval hv]
    · exact h.elim
  case makeMap t r =>
    cases r with
    | none =>
      have h := NEWMAP.inv h
      exact Loud.value h fun a ha => rfl
    | some x =>
      dsimp only at h
      split at h
      · rename_i v hv
        exact Loud.seml (h.mono fun _ _ h => asT1_inv h) fun a ha => by simp only [execOp, Option.map_some, ha.eval hv]
      · exact h.elim
  case mapUpdate t m k x =>
    split at h
    · rename_i u v y hu hv hy
      exact Loud.semu h fun a ha => by simp only [execOp, ha.eval hu, ha.eval hv, ha.eval hy]
    · exact h.elim
  case insert t m k x =>
    split at h
    · rename_i u v y hu hv hy
      exact Loud.semu h fun a ha => by simp only [execOp, ha.eval hu, ha.eval hv, ha.eval hy]
    · exact h.elim
  case mapEntry t m k =>
    split at h
    · rename_i u v hu hv
      exact Loud.seml h fun a ha => by simp only [execOp, ha.eval hu, ha.eval hv]
    · exact h.elim
  case entryStore t m s x =>
    split at h
    · rename_i u v y hu hv hy
      exact Loud.semu h fun a ha => by simp only [execOp, ha.eval hu, ha.eval hv, ha.eval hy]
    · exact h.elim
  case range t x =>
    split at h
    · rename_i v hv
      exact Loud.seml (h.mono fun _ _ h => by obtain ⟨q, rfl, h'⟩ := PTRV.inv h; exact h') fun a ha => by simp only [execOp, ha.eval hv]
    · exact h.elim
  case next it s =>
    split at h
    · rename_i v hv
      exact Loud.seml (h.mono fun _ _ h => by obtain ⟨q, rfl, h'⟩ := TUPV.inv h; simpa using h') fun a ha => by simp only [execOp, ha.eval hv]
    · exact h.elim
  all_goals exact h.elim

end Go.Den

/- The evaluator is sound: regions, in whatever order they draw. -/
namespace Go.Den

variable {P : Program} {n : Nat} {ops : Array Oper}

theorem guardE_inv {o : Oper} {e : Env} {a : Act} {run skip : Env → Prop} (h : guardE ops.toList o e run skip) (ha : Agree n e a) :
    ∃ e', Agree n e' a ∧ ((Region.wanted o (yielded ops a.tmps) = true ∧ run e') ∨ (Region.wanted o (yielded ops a.tmps) = false ∧ skip e')) := by
  unfold guardE at h
  split at h
  · rename_i hg
    exact ⟨e, ha, .inl ⟨by simp [Region.wanted, hg], h⟩⟩
  · rename_i j want hg
    split at h
    · rename_i oj hj
      have hj' : ops[j]? = some oj := by simpa using hj
      split at h
      · rename_i d hd
        have key : ∀ b, a.tmps[d]? = some (.bool b) → Region.wanted o (yielded ops a.tmps) = (b == want) := by
          intro b hb
          simp [Region.wanted, hg, yielded, hj', hd, hb]
        split at h
        · rename_i b hb
          have hb' := ha.2.2 _ _ hb
          obtain ⟨h1, h2⟩ := ITE.inv h
          cases b with
          | true =>
            have h := h1 rfl
            refine ⟨_, ha.known hb, ?_⟩
            cases want with
            | true => exact .inl ⟨by rw [key _ hb']; rfl, h⟩
            | false => exact .inr ⟨by rw [key _ hb']; rfl, h⟩
          | false =>
            have h := h2 rfl
            refine ⟨_, ha.known hb, ?_⟩
            cases want with
            | true => exact .inr ⟨by rw [key _ hb']; rfl, h⟩
            | false => exact .inl ⟨by rw [key _ hb']; rfl, h⟩
        · rename_i vs hv
          have hv' := ha.2.2 _ _ hv
          exact ⟨e, ha, .inr ⟨by simp [Region.wanted, hg, yielded, hj', hd, hv'], h⟩⟩
        · exact h.elim
      · exact h.elim
    · exact h.elim

theorem putE_inv {dst : Option Tmp} {v : Value} {e : Env} {a : Act} {K : Env → Prop} (h : putE n dst v e K) (ha : Agree n e a) : ∃ e', Agree n e' (a.put dst v) ∧ K e' := by
  unfold putE at h
  split at h
  · exact ⟨e, ha, h⟩
  · rename_i d
    split at h
    · rename_i hd
      exact ⟨_, ha.put (by rw [Nat.blt_eq] at hd; exact hd) v, h⟩
    · exact h.elim

theorem Silent.wp {e : Env} {w : World} {o : Oper} {K : Value → List Fact → Prop} (h : Silent P n e w o K) :
    ∃ v F, KEEP w F ∧ K v F ∧ ∀ a, Agree n e a → ∀ (next : Act → World → Prop) Q, next (a.put o.dst v) w → o.wp P a w next Q := by
  obtain ⟨v, F, hF, hK, hr⟩ := h
  exact ⟨v, F, hF, hK, fun a ha next Q hn => by unfold Oper.wp; rw [hr a ha w hF]; exact hn⟩

/-! ### A region whose order is the text's -/
theorem seqOps_sound {Fr : Act → Prop} {K : Env → World → Prop} {Q : Exit → Act → World → Prop} (hQ : ∀ e a w, Agree n e a → Fr a → K e w → Q .normal a w) :
    ∀ {l : List Oper} {e : Env} {w : World} {a : Act}, (∀ o ∈ l, ∀ a v, Fr a → Fr (a.put o.dst v)) → seqOps P n ops.toList l e w K → Agree n e a → Fr a → wpList P ops Q l a w
  | [], e, w, a, _, h, ha, hf => hQ e a w ha hf h
  | o :: os, e, w, a, hl, h, ha, hf => by
    unfold seqOps at h
    obtain ⟨e', ha', h⟩ := guardE_inv h ha
    have hrest : ∀ {e w a}, seqOps P n ops.toList os e w K → Agree n e a → Fr a → wpList P ops Q os a w := fun h ha hf => seqOps_sound hQ (fun o ho => hl o (List.mem_cons_of_mem _ ho)) h ha hf
    have ho := hl o (by simp)
    unfold wpList
    rcases h with ⟨hw, h⟩ | ⟨hw, h⟩
    · rw [if_pos hw]
      left
      split at h
      · obtain ⟨v, F, _, hK, hwp⟩ := (sil_sound (n := n) h).wp
        obtain ⟨e'', ha'', hK⟩ := putE_inv hK ha'
        exact hwp a ha' _ _ (hrest hK ha'' (ho _ _ hf))
      · exact loud_sound h a ha' _ _ fun v w' hK => by
          obtain ⟨e'', ha'', hK⟩ := putE_inv hK ha'
          exact hrest hK ha'' (ho _ _ hf)
    · rw [if_neg (by simp [hw])]
      obtain ⟨e'', ha'', hK⟩ := putE_inv h ha'
      exact hrest hK ha'' (ho _ _ hf)

/-! ### A region that draws its order -/
section
variable {Q : Exit → Act → World → Prop}

/-- What has come up is closed under what it waits for. -/
def Closed (ops : Array Oper) (listed : Array Bool) : Prop :=
  ∀ j o, ops[j]? = some o → listed.getD j false = true → ∀ x ∈ o.after, Region.binds .any x = true → listed.getD x.on false = true

theorem getD_false_of_set {listed : Array Bool} {i j : Nat} (h : (listed.setIfInBounds i true).getD j false = true) : j = i ∨ listed.getD j false = true := by
  by_cases hij : i = j
  · exact .inl hij.symm
  · right; rw [getD_set_ne false hij] at h; exact h

theorem Closed.set {listed : Array Bool} (hc : Closed ops listed) {i : Nat} (hi : i ∈ Region.ready .any ops listed) : Closed ops (listed.setIfInBounds i true) := by
  intro j o hj hl x hx hb
  obtain ⟨_, o', ho', hall⟩ := mem_ready.1 hi
  rcases getD_false_of_set hl with rfl | hl
  · rw [hj] at ho'; cases ho'
    exact getD_set_true (hall x hx hb)
  · exact getD_set_true (hc j o hj hl x hx hb)

theorem mask_bit (acc : List Nat) (i : Nat) : ∀ (l : List Edge) (s : Nat), (l.foldl (fun s x => match Region.binds .any x with
    | true => s ||| (2 ^ x.on ||| acc.getD x.on 0)
    | false => s) s).testBit i = true → s.testBit i = true ∨ ∃ x ∈ l, Region.binds .any x = true ∧ (i = x.on ∨ (acc.getD x.on 0).testBit i = true)
  | [], s, h => .inl h
  | x :: l, s, h => by
    rw [List.foldl_cons] at h
    rcases mask_bit acc i l _ h with h | ⟨y, hy, h⟩
    · split at h
      · rename_i hb
        simp only [Nat.testBit_or, Bool.or_eq_true] at h
        rcases h with h | h | h
        · exact .inl h
        · refine .inr ⟨x, by simp, hb, .inl ?_⟩
          rw [Nat.testBit_two_pow] at h
          exact (of_decide_eq_true h).symm
        · exact .inr ⟨x, by simp, hb, .inr h⟩
      · exact .inl h
    · exact .inr ⟨y, List.mem_cons_of_mem _ hy, h⟩

/-- What the masks say. -/
def MaskOk (ops : List Oper) (acc : List Nat) : Prop := ∀ k m, acc[k]? = some m → ∀ i, m.testBit i = true →
  ∃ o x, ops[k]? = some o ∧ x ∈ o.after ∧ Region.binds .any x = true ∧ (i = x.on ∨ (x.on < k ∧ ∃ m', acc[x.on]? = some m' ∧ m'.testBit i = true))

theorem masks_ok (all : List Oper) : ∀ (l : List Oper) (acc : List Nat), MaskOk all acc → (∀ j, l[j]? = all[acc.length + j]?) → MaskOk all (masks l acc)
  | [], acc, h, _ => h
  | o :: os, acc, h, hl => by
    unfold masks
    refine masks_ok all os _ ?_ ?_
    · intro k m hk i hi
      rcases Nat.lt_or_ge k acc.length with hlt | hge
      · rw [List.getElem?_append_left hlt] at hk
        obtain ⟨o', x, h1, h2, h3, h4⟩ := h k m hk i hi
        refine ⟨o', x, h1, h2, h3, h4.imp id ?_⟩
        rintro ⟨h5, m', h6, h7⟩
        exact ⟨h5, m', by rw [List.getElem?_append_left (by omega)]; exact h6, h7⟩
      · rw [List.getElem?_append_right hge] at hk
        have hk0 : k = acc.length := by
          rcases Nat.eq_or_lt_of_le hge with h | h
          · exact h.symm
          · rw [List.getElem?_eq_none (by simp; omega)] at hk; cases hk
        subst hk0
        simp only [Nat.sub_self, List.getElem?_cons_zero, Option.some.injEq] at hk
        subst hk
        rcases mask_bit acc i _ 0 hi with h0 | ⟨x, hx, hb, h1⟩
        · simp at h0
        · refine ⟨o, x, by simpa using (hl 0).symm, by simpa using hx, hb, h1.imp id fun h1 => ?_⟩
          have hlt : x.on < acc.length := by
            rcases Nat.lt_or_ge x.on acc.length with h | h
            · exact h
            · simp [List.getD_eq_getElem?_getD, List.getElem?_eq_none h] at h1
          refine ⟨hlt, acc[x.on], ?_, ?_⟩
          · rw [List.getElem?_append_left hlt]; exact List.getElem?_eq_getElem hlt
          · simpa [List.getD_eq_getElem?_getD, List.getElem?_eq_getElem hlt] using h1
    · intro j
      have := hl (j + 1)
      simp only [List.length_append, List.length_cons, List.length_nil]
      rw [show acc.length + (0 + 1) + j = acc.length + (j + 1) from by omega, ← this]
      simp

theorem bef_listed {listed : Array Bool} (hc : Closed ops listed) {i : Nat} : ∀ (j : Nat) (m : Nat), (masks ops.toList [])[j]? = some m → (∀ o, ops[j]? = some o → ∀ x ∈ o.after, Region.binds .any x = true → listed.getD x.on false = true) →
    m.testBit i = true → listed.getD i false = true := by
  have hok : MaskOk ops.toList (masks ops.toList []) := masks_ok ops.toList ops.toList [] (fun k m hk => by simp at hk) (fun j => by simp)
  intro j
  induction j using Nat.strongRecOn with
  | _ j ih =>
    intro m hm hp hi
    obtain ⟨o, x, h1, h2, h3, h4⟩ := hok j m hm i hi
    have ho : ops[j]? = some o := by simpa using h1
    have hl := hp o ho x h2 h3
    rcases h4 with rfl | ⟨h5, m', h6, h7⟩
    · exact hl
    · exact ih x.on h5 m' h6 (fun o' ho' y hy hb' => hc x.on o' ho' hl y hy hb') h7

theorem bef_ready {listed : Array Bool} (hc : Closed ops listed) {i j : Nat} (hi : i ∈ Region.ready .any ops listed) (hj : j ∈ Region.ready .any ops listed) : bef ops.toList i j = false := by
  cases h : bef ops.toList i j with
  | false => rfl
  | true =>
    obtain ⟨h0, _⟩ := mem_ready.1 hi
    obtain ⟨_, o, ho, hall⟩ := mem_ready.1 hj
    unfold bef at h
    rw [List.getD_eq_getElem?_getD] at h
    cases hm : (masks ops.toList [])[j]? with
    | none => simp [hm] at h
    | some m =>
      rw [hm] at h
      have h1 := bef_listed hc j m hm (fun o' ho' x hx hb => by rw [ho] at ho'; cases ho'; exact hall x hx hb) h
      exfalso
      rcases Nat.lt_or_ge i listed.size with h' | h'
      · simp [h'] at h0 h1; rw [h0] at h1; cases h1
      · simp [Array.getElem?_eq_none h'] at h1

def keepR (ops : Array Oper) (R : List (Nat × Fact)) (i : Nat) : List (Nat × Fact) := R.filter fun r => !bef ops.toList r.1 i

/-- Whatever order is picked from here on: and the facts hold behind each operation that doesn't wait for theirs. -/
def wpAnyR (P : Program) (ops : Array Oper) (Q : Exit → Act → World → Prop) : Nat → Array Bool → List (Nat × Fact) → Act → World → Prop
  | 0, listed, _, a, w => Region.ready .any ops listed = [] ∧ Q .normal a w
  | f + 1, listed, R, a, w => (Region.ready .any ops listed = [] → Q .normal a w) ∧ ∀ i ∈ Region.ready .any ops listed,
      wpOp P ops Q i (fun a' w' => (∀ r ∈ keepR ops R i, r.2.holds w') ∧ wpAnyR P ops Q f (listed.setIfInBounds i true) (keepR ops R i) a' w') a w

theorem wpAny_of_wpAnyR : ∀ {f : Nat} {listed : Array Bool} {R : List (Nat × Fact)} {a : Act} {w : World}, wpAnyR P ops Q f listed R a w → wpAny P .any ops Q f listed a w
  | 0, _, _, _, _, h => h
  | _ + 1, _, _, _, _, h => ⟨h.1, fun i hi => wpOp_mono (fun _ _ h => wpAny_of_wpAnyR h.2) (h.2 i hi)⟩

theorem wpAnyR.mono : ∀ {f : Nat} {listed : Array Bool} {R R' : List (Nat × Fact)} {a : Act} {w : World}, wpAnyR P ops Q f listed R a w → (∀ r ∈ R', r ∈ R) → wpAnyR P ops Q f listed R' a w
  | 0, _, _, _, _, _, h, _ => h
  | _ + 1, _, R, R', _, _, h, hs => ⟨h.1, fun i hi => wpOp_mono (fun _ _ h =>
      have hs' : ∀ r ∈ keepR ops R' i, r ∈ keepR ops R i := fun r hr => by
        simp only [keepR, List.mem_filter] at hr ⊢; exact ⟨hs r hr.1, hr.2⟩
      ⟨fun r hr => h.1 r (hs' r hr), h.2.mono hs'⟩) (h.2 i hi)⟩

/-- What an operation yields, wherever its facts hold. -/
def YieldsF (P : Program) (ops : Array Oper) (F : List Fact) (o : Oper) (v : Value) (a : Act) : Prop :=
  (Region.wanted o (yielded ops a.tmps) = true ∧ ∀ w, KEEP w F → (execOp a.eval o).run P w = .ok (.value v) w) ∨
  (Region.wanted o (yielded ops a.tmps) = false ∧ v = undef)

theorem YieldsF.of_same {F : List Fact} {o : Oper} {v : Value} {a a' : Act} (hy : YieldsF P ops F o v a) (he : execOp a'.eval o = execOp a.eval o)
    (hw : Region.wanted o (yielded ops a'.tmps) = Region.wanted o (yielded ops a.tmps)) : YieldsF P ops F o v a' := by
  unfold YieldsF at *
  rw [he, hw]
  exact hy

theorem YieldsF.wpOp {i : Nat} {o : Oper} {F : List Fact} {v : Value} {a : Act} {w : World} (hi : ops[i]? = some o) (hF : KEEP w F) (hy : YieldsF P ops F o v a) {K : Act → World → Prop} (h : K (a.put o.dst v) w) :
    wpOp P ops Q i K a w := by
  unfold Go.wpOp
  simp only [hi]
  rcases hy with ⟨hw, hv⟩ | ⟨hw, rfl⟩
  · simp only [hw, if_true]
    left
    unfold Oper.wp
    rw [hv w hF]
    exact h
  · simp only [hw, Bool.false_eq_true, if_false]
    exact h

/-- An operation j that is apart from i: it is the same to it whether i's value stands already. -/
theorem wpOp_put {j : Nat} {oi oj : Oper} {v : Value} {F : List Fact} (hQp : ∀ c a w, ¬ Q (.panic c) a w) (hQo : ¬ LetsOut Q) (hj : ops[j]? = some oj) (hap : oi.apart ops oj = true)
    (hsi : ∀ cs b, oi.op ≠ .select cs b) (hsj : ∀ cs b, oj.op ≠ .select cs b) {K : Act → World → Prop} {a : Act} {w : World}
    (hy : YieldsF P ops F oi v a) (h : wpOp P ops Q j K (a.put oi.dst v) w) :
    wpOp P ops Q j (fun a' w' => YieldsF P ops F oi v a' ∧ K (a'.put oi.dst v) w') a w := by
  obtain ⟨h1, h2, h3⟩ := Oper.apart_spec hap
  have keep : ∀ (a : Act), YieldsF P ops F oi v a → ∀ u, YieldsF P ops F oi v (a.put oj.dst u) := fun a hy u =>
    hy.of_same (execOp_put oi hsi a oj.dst u h3) (wanted_put oi a oj.dst u h3)
  have defers : ∀ d, YieldsF P ops F oi v a → YieldsF P ops F oi v { a with defers := d :: a.defers } := fun d hy => by
    refine hy.of_same ?_ rfl
    congr 1
  unfold Go.wpOp at *
  simp only [hj] at *
  rw [wanted_put oj a oi.dst v h1] at h
  split
  · rename_i hw
    simp only [hw, if_true] at h
    rcases h with h | ⟨_, h⟩
    · left
      unfold Oper.wp at *
      rw [execOp_put oj hsj a oi.dst v h1] at h
      generalize (execOp a.eval oj).run P w = r at *
      cases r with
      | ok nx w' =>
        cases nx <;> simp only [Oper.upon] at h ⊢
        case value u => exact ⟨keep a hy u, by rw [← Act.put_comm a v u h2]; exact h⟩
        case skip => exact ⟨keep a hy _, by rw [← Act.put_comm a v undef h2]; exact h⟩
        case defer d =>
          refine ⟨keep _ (defers d hy) _, ?_⟩
          rw [← Act.put_comm _ v undef h2, ← Act.put_defers]
          exact h
        case enter f args =>
          exact Calls.mono h fun en w'' he => by
            cases en with
            | returned u => exact ⟨keep a hy u, by rw [← Act.put_comm a v u h2]; exact he⟩
            | panicked c => exact absurd he (hQp _ _ _)
            | outgrown => exact he
        case row row args =>
          exact Rows.mono h fun u w'' he => ⟨keep a hy u, by rw [← Act.put_comm a v u h2]; exact he⟩
      | halt x w' =>
        cases x <;> simp only [Oper.upon] at h ⊢
        exact absurd h (hQp _ _ _)
    · exact absurd h hQo
  · rename_i hw
    simp only [hw] at h
    exact ⟨keep a hy _, by rw [← Act.put_comm a v undef h2]; exact h⟩

/-- An operation that may come up now and leaves the world alone may be taken first. -/
theorem wpAnyR_first {i : Nat} {oi : Oper} {v : Value} {F : List Fact} (hQp : ∀ c a w, ¬ Q (.panic c) a w) (hQo : ¬ LetsOut Q) (hi : ops[i]? = some oi)
    (hsel : ∀ (j : Nat) (o : Oper) cs b, ops[j]? = some o → o.op ≠ .select cs b) :
    ∀ (fuel : Nat) (listed : Array Bool) (R : List (Nat × Fact)) (a : Act) (w : World), Closed ops listed →
      (∀ j oj, ops[j]? = some oj → j ≠ i → listed.getD j true = false → (∀ x ∈ oj.after, Region.binds .any x = true → x.on ≠ i) → oi.apart ops oj = true) →
      i ∈ Region.ready .any ops listed → KEEP w F → YieldsF P ops F oi v a → (∀ r ∈ R, r.2.holds w) →
      wpAnyR P ops Q fuel (listed.setIfInBounds i true) (R ++ F.map fun x => (i, x)) (a.put oi.dst v) w → wpAnyR P ops Q (fuel + 1) listed R a w := by
  intro fuel
  have sub : ∀ (R : List (Nat × Fact)) (j : Nat), ∀ r ∈ keepR ops R j, r ∈ R := fun R j r hr => (List.mem_filter.1 hr).1
  induction fuel with
  | zero =>
    intro listed R a w _ _ hr hF hy hR H
    refine ⟨fun h => (by rw [h] at hr; cases hr), fun j hj => ?_⟩
    by_cases hji : j = i
    · subst hji
      exact YieldsF.wpOp hi hF hy ⟨fun r hr => hR r (sub _ _ r hr), H⟩
    · have := ready_mono hj hji
      rw [H.1] at this
      cases this
  | succ fuel ih =>
    intro listed R a w hc hfree hr hF hy hR H
    refine ⟨fun h => (by rw [h] at hr; cases hr), fun j hj => ?_⟩
    by_cases hji : j = i
    · subst hji
      exact YieldsF.wpOp hi hF hy ⟨fun r hr => hR r (sub _ _ r hr), H.mono fun r hr => List.mem_append_left _ (sub _ _ r hr)⟩
    · have h1 := H.2 j (ready_mono hj hji)
      obtain ⟨hjun, oj, hoj, hall⟩ := mem_ready.1 hj
      have hnot : ∀ x ∈ oj.after, Region.binds .any x = true → x.on ≠ i := fun x hx hb heq => by
        have h1 := hall x hx hb
        have h0 := (mem_ready.1 hr).1
        rw [heq] at h1
        rcases Nat.lt_or_ge i listed.size with h' | h'
        · simp [h'] at h0 h1; rw [h0] at h1; cases h1
        · simp [Array.getElem?_eq_none h'] at h1
      have hb := bef_ready hc hr hj
      have hkF : ∀ x ∈ F, (i, x) ∈ keepR ops (R ++ F.map fun x => (i, x)) j := fun x hx => by
        simp only [keepR, List.mem_filter, List.mem_append, List.mem_map]
        exact ⟨.inr ⟨x, hx, rfl⟩, by simp [hb]⟩
      have hkR : ∀ r ∈ keepR ops R j, r ∈ keepR ops (R ++ F.map fun x => (i, x)) j := fun r hr => by
        simp only [keepR, List.mem_filter, List.mem_append] at hr ⊢
        exact ⟨.inl hr.1, hr.2⟩
      have h2 := wpOp_put hQp hQo hoj (hfree j oj hoj hji hjun hnot) (fun cs b => hsel i oi cs b hi) (fun cs b => hsel j oj cs b hoj) hy h1
      have hfree' : ∀ k ok, ops[k]? = some ok → k ≠ i → (listed.setIfInBounds j true).getD k true = false →
          (∀ x ∈ ok.after, Region.binds .any x = true → x.on ≠ i) → oi.apart ops ok = true := fun k ok hk hki hun hno => by
        refine hfree k ok hk hki ?_ hno
        by_cases hjk : j = k
        · subst hjk; exact hjun
        · rw [getD_set_ne true hjk] at hun; exact hun
      refine wpOp_mono (fun a' w' h3 => ?_) h2
      obtain ⟨hy', hfacts, h4⟩ := h3
      refine ⟨fun r hr => hfacts r (hkR r hr), ?_⟩
      refine ih (listed.setIfInBounds j true) (keepR ops R j) a' w' (hc.set hj) hfree' (ready_mono hr (Ne.symm hji)) (fun x hx => hfacts (i, x) (hkF x hx)) hy' (fun r hr => hfacts r (hkR r hr)) ?_
      rw [Array.setIfInBounds_comm _ _ hji]
      refine h4.mono fun r hr => ?_
      rcases List.mem_append.1 hr with hr | hr
      · exact hkR r hr
      · obtain ⟨x, hx, rfl⟩ := List.mem_map.1 hr
        exact hkF x hx

theorem pickSil_mem {ops : List Oper} : ∀ {l : List Nat} {i : Nat}, pickSil ops l = some i → i ∈ l
  | [], _, h => by cases h
  | j :: r, i, h => by
    unfold pickSil at h
    split at h
    · split at h
      · cases h; simp
      · exact List.mem_cons_of_mem _ (pickSil_mem h)
    · exact List.mem_cons_of_mem _ (pickSil_mem h)

theorem allOf_spec {α : Type} {p : α → Prop} : ∀ {l : List α}, allOf p l → ∀ x ∈ l, p x
  | [], _, x, hx => by cases hx
  | [y], h, x, hx => by
    have : x = y := by simpa using hx
    subst this; exact h
  | y :: z :: r, h, x, hx => by
    obtain ⟨h1, h2⟩ := h
    rcases List.mem_cons.1 hx with rfl | hx
    · exact h1
    · exact allOf_spec h2 x hx

theorem drawOps_sound {Fr : Act → Prop} {K : Env → World → Prop} (hQ : ∀ e a w, Agree n e a → Fr a → K e w → Q .normal a w) (hQp : ∀ c a w, ¬ Q (.panic c) a w) (hQo : ¬ LetsOut Q)
    (hsel : Region.noSelect ops = true) (hFr : ∀ o ∈ ops, ∀ a v, Fr a → Fr (a.put o.dst v)) :
    ∀ {f : Nat} {listed : Array Bool} {R : List (Nat × Fact)} {e : Env} {w : World} {a : Act}, drawOps P n ops K f listed R e w → Closed ops listed → (∀ r ∈ R, r.2.holds w) → Agree n e a → Fr a →
      wpAnyR P ops Q f listed R a w
  | 0, listed, R, e, w, a, h, _, _, ha, hf => by
    unfold drawOps at h
    split at h
    · rename_i hr; exact ⟨hr, hQ e a w ha hf h⟩
    · exact h.elim
  | f + 1, listed, R, e, w, a, h, hc, hR, ha, hf => by
    unfold drawOps at h
    split at h
    · rename_i hr
      exact ⟨fun _ => hQ e a w ha hf h, fun i hi => by rw [hr] at hi; cases hi⟩
    · rename_i hr
      split at h
      · rename_i i hp
        have hi := pickSil_mem hp
        split at h
        · rename_i o ho hfree
          have ho : ops[i]? = some o := by simpa using ho
          have hoF := hFr o (Array.mem_of_getElem? ho)
          obtain ⟨e', ha', h⟩ := guardE_inv h ha
          have fin : ∀ v F, KEEP w F → YieldsF P ops F o v a → (putE n o.dst v e' fun e => drawOps P n ops K f (listed.setIfInBounds i true) (R ++ F.map fun x => (i, x)) e w) → wpAnyR P ops Q (f + 1) listed R a w := by
            intro v F hF hy hK
            obtain ⟨e'', ha'', hK⟩ := putE_inv hK ha'
            refine wpAnyR_first hQp hQo ho (Region.noSelect_spec hsel) f listed R a w hc (Region.free_spec ho hfree) hi hF hy hR ?_
            refine drawOps_sound hQ hQp hQo hsel hFr hK (hc.set hi) ?_ ha'' (hoF _ _ hf)
            intro r hr
            rcases List.mem_append.1 hr with hr | hr
            · exact hR r hr
            · obtain ⟨x, hx, rfl⟩ := List.mem_map.1 hr
              exact hF x hx
          rcases h with ⟨hw, h⟩ | ⟨hw, h⟩
          · obtain ⟨v, F, hF, hK, hrun⟩ := sil_sound (n := n) h
            exact fin v F hF (.inl ⟨hw, fun w' hk => hrun a ha' w' hk⟩) hK
          · exact fin undef [] (by simp [KEEP]) (.inr ⟨hw, rfl⟩) (by simpa using h)
        · exact h.elim
      · have h := allOf_spec h
        refine ⟨fun h0 => absurd h0 hr, fun i hi => ?_⟩
        have h := h i hi
        split at h
        · rename_i o ho
          have ho : ops[i]? = some o := by simpa using ho
          have hoF := hFr o (Array.mem_of_getElem? ho)
          obtain ⟨e', ha', h⟩ := guardE_inv h ha
          unfold wpOp
          simp only [ho]
          rcases h with ⟨hw, h⟩ | ⟨hw, h⟩
          · rw [if_pos hw]
            left
            refine loud_sound h a ha' _ _ fun v w' hK => ?_
            obtain ⟨e'', ha'', hk, hK⟩ := putE_inv hK ha'
            have hk' : ∀ r ∈ keepR ops R i, r.2.holds w' := fun r hr => hk r.2 (List.mem_map.2 ⟨r, hr, rfl⟩)
            exact ⟨hk', drawOps_sound hQ hQp hQo hsel hFr hK (hc.set hi) hk' ha'' (hoF _ _ hf)⟩
          · rw [if_neg (by simp [hw])]
            obtain ⟨e'', ha'', hK⟩ := putE_inv h ha'
            have hk' : ∀ r ∈ keepR ops R i, r.2.holds w := fun r hr => hR r (List.mem_filter.1 hr).1
            exact ⟨hk', drawOps_sound hQ hQp hQo hsel hFr hK (hc.set hi) hk' ha'' (hoF _ _ hf)⟩
        · exact h.elim

end
end Go.Den

/- The evaluator is sound: code, and functions. -/
namespace Go.Den

variable {P : Program} {n : Nat}

/-- What a piece of code leaves. -/
def lift (n : Nat) (S : List (Nat × TypeId)) (a₀ : Act) (K : Ex → Env → World → Prop) : Exit → Act → World → Prop
  | .normal, a, w => (∀ k, hasKey S k = false → a.tmps[k]? = a₀.tmps[k]?) ∧ ∃ e, Agree n e a ∧ K .normal e w
  | .exit id, a, w => (∀ k, hasKey S k = false → a.tmps[k]? = a₀.tmps[k]?) ∧ ∃ e, Agree n e a ∧ K (.exit id) e w
  | .ret, a, w => (∀ k, hasKey S k = false → a.tmps[k]? = a₀.tmps[k]?) ∧ ∃ e, Agree n e a ∧ K .ret e w
  | _, _, _ => False

theorem hasKey_cons (j : Nat) (u : TypeId) (r : List (Nat × TypeId)) (k : Nat) : hasKey ((j, u) :: r) k = if j = k then true else hasKey r k := by
  show (match Nat.beq j k with | true => true | false => hasKey r k) = _
  by_cases h : j = k
  · have : Nat.beq j k = true := by simpa using h
    rw [this, if_pos h]
  · have : Nat.beq j k = false := by
      cases hb : Nat.beq j k with
      | false => rfl
      | true => exact absurd (by simpa using hb) h
    rw [this, if_neg h]

theorem hasKey_append {S T : List (Nat × TypeId)} {k : Nat} (h : hasKey (S ++ T) k = false) : hasKey S k = false ∧ hasKey T k = false := by
  induction S with
  | nil => exact ⟨rfl, h⟩
  | cons x S ih =>
    obtain ⟨j, t⟩ := x
    rw [List.cons_append, hasKey_cons] at h
    rw [hasKey_cons]
    by_cases hjk : j = k
    · rw [if_pos hjk] at h; cases h
    · rw [if_neg hjk] at h ⊢; exact ih h

theorem hasKey_mem {S : List (Nat × TypeId)} {k : Nat} {t : TypeId} (h : (k, t) ∈ S) : hasKey S k = true := by
  induction S with
  | nil => cases h
  | cons x S ih =>
    obtain ⟨j, u⟩ := x
    rw [hasKey_cons]
    by_cases hjk : j = k
    · rw [if_pos hjk]
    · rw [if_neg hjk]
      rcases List.mem_cons.1 h with h | h
      · cases h; exact absurd rfl hjk
      · exact ih h

theorem look_strip {S : List (Nat × TypeId)} : ∀ {e : Env} {k : Nat} {v : Value}, look (strip S e) k = some v → hasKey S k = false ∧ look e k = some v
  | [], _, _, h => by cases h
  | (j, u) :: r, k, v, h => by
    unfold strip at h
    split at h
    · rename_i hb
      obtain ⟨h1, h2⟩ := look_strip h
      refine ⟨h1, ?_⟩
      rw [look_cons]
      rw [if_neg (fun hjk => by subst hjk; rw [h1] at hb; cases hb)]
      exact h2
    · rename_i hb
      rw [look_cons] at h ⊢
      by_cases hjk : j = k
      · subst hjk
        rw [if_pos rfl] at h ⊢
        exact ⟨hb, h⟩
      · rw [if_neg hjk] at h ⊢
        exact look_strip h

def zipE : List (Nat × TypeId) → List Value → Env
  | (k, _) :: r, v :: l => (k, v) :: zipE r l
  | _, _ => []

def valsOf (a : Act) (ms : List (Nat × TypeId)) : List Value := ms.map fun m => a.tmps.getD m.1 undef

theorem looks_vals {e : Env} {a : Act} (ha : Agree n e a) : ∀ {ms : List (Nat × TypeId)} {ys : List Value}, looks e ms = some ys → ys = valsOf a ms ∧ ∀ m ∈ ms, a.tmps[m.1]? = some (a.tmps.getD m.1 undef)
  | [], ys, h => by cases h; exact ⟨rfl, fun _ h => by cases h⟩
  | (k, t) :: r, ys, h => by
    unfold looks at h
    split at h
    · rename_i v l hv hl
      cases h
      obtain ⟨h1, h2⟩ := looks_vals ha hl
      have hv := ha.2.2 _ _ hv
      refine ⟨by simp [valsOf, hv, h1], fun m hm => ?_⟩
      rcases List.mem_cons.1 hm with rfl | hm
      · simp [hv]
      · exact h2 m hm
    · cases h

theorem look_zipE {a : Act} : ∀ {ms : List (Nat × TypeId)} {k : Nat} {v : Value}, (∀ m ∈ ms, a.tmps[m.1]? = some (a.tmps.getD m.1 undef)) → look (zipE ms (valsOf a ms)) k = some v → a.tmps[k]? = some v
  | [], _, _, _, h => by cases h
  | (j, t) :: r, k, v, hm, h => by
    have h : look ((j, a.tmps.getD j undef) :: zipE r (valsOf a r)) k = some v := h
    rw [look_cons] at h
    by_cases hjk : j = k
    · subst hjk
      rw [if_pos rfl] at h
      cases h
      exact hm (j, t) (by simp)
    · rw [if_neg hjk] at h
      exact look_zipE (fun m hm' => hm m (List.mem_cons_of_mem _ hm')) h

theorem look_append {e e' : Env} {k : Nat} {v : Value} (h : look (e ++ e') k = some v) : look e k = some v ∨ look e' k = some v := by
  induction e with
  | nil => exact .inr h
  | cons x e ih =>
    obtain ⟨j, u⟩ := x
    rw [List.cons_append, look_cons] at h
    rw [look_cons]
    by_cases hjk : j = k
    · rw [if_pos hjk] at h ⊢; exact .inl h
    · rw [if_neg hjk] at h ⊢; exact ih h

theorem agree_again {S ms : List (Nat × TypeId)} {e : Env} {a₀ a : Act} (h0 : Agree n e a₀) (ha : a.tmps.size = n) (hd : a.defers = []) (hk : ∀ k, hasKey S k = false → a.tmps[k]? = a₀.tmps[k]?)
    (hm : ∀ m ∈ ms, a.tmps[m.1]? = some (a.tmps.getD m.1 undef)) : Agree n (zipE ms (valsOf a ms) ++ strip S e) a := by
  refine ⟨ha, hd, fun k v hv => ?_⟩
  rcases look_append hv with hv | hv
  · exact look_zipE hm hv
  · obtain ⟨h1, h2⟩ := look_strip hv
    rw [hk k h1]
    exact h0.2.2 _ _ h2

theorem asJ_inv {P : Program} {t : TypeId} {v : Value} {K : Value → Prop} (h : asJ P t v K) : K v := by
  unfold asJ at h
  split at h
  · unfold PTRV at h
    split at h
    · exact h
    · exact h.elim
  · exact asT1_inv h

theorem forT_inv : ∀ {ms : List (Nat × TypeId)} {I : List Value → Prop} {K : List Value → Env → Prop} {xs : List Value}, forT P ms I K → xs.length = ms.length → I xs → K xs (zipE ms xs)
  | [], I, K, xs, h, hl, hI => by
    obtain rfl : xs = [] := List.length_eq_zero_iff.1 hl
    exact h hI
  | (k, t) :: r, I, K, xs, h, hl, hI => by
    cases xs with
    | nil => cases hl
    | cons x xs =>
      have := forT_inv (xs := xs) (h x) (by simpa using hl) hI
      exact asJ_inv this

theorem assigned_fr {id : Nat} {ops : Array Oper} {d : Bool} {a₀ : Act} (o : Oper) (ho : o ∈ ops) (a : Act) (v : Value)
    (h : ∀ k, hasKey (assigned (.region id ops d)) k = false → a.tmps[k]? = a₀.tmps[k]?) : ∀ k, hasKey (assigned (.region id ops d)) k = false → (a.put o.dst v).tmps[k]? = a₀.tmps[k]? := by
  intro k hk
  rw [← h k hk]
  cases hd : o.dst with
  | none => rfl
  | some j =>
    have hjk : j ≠ k := fun hjk => by
      subst hjk
      have : (j, o.type) ∈ assigned (.region id ops d) := by
        simp only [assigned, List.mem_filterMap]
        exact ⟨o, by simpa using ho, by simp [hd]⟩
      rw [hasKey_mem this] at hk
      cases hk
    simp [Act.put, Array.getElem?_setIfInBounds_ne hjk]

theorem lift_mono {S S' : List (Nat × TypeId)} {a₀ a₁ : Act} {K : Ex → Env → World → Prop} (hk : ∀ k, hasKey S' k = false → hasKey S k = false ∧ a₁.tmps[k]? = a₀.tmps[k]?) :
    ∀ x a w, lift n S a₁ K x a w → lift n S' a₀ K x a w := by
  intro x a w h
  cases x <;> simp only [lift] at h ⊢
  all_goals exact ⟨fun k hs => (h.1 k (hk k hs).1).trans (hk k hs).2, h.2⟩

theorem vc_sound (js : List Nat) : ∀ {c : Code} {e : Env} {w : World} {K : Ex → Env → World → Prop} {a : Act}, vc P n js c e w K → Agree n e a → c.wp P (lift n (assigned c) a K) a w
  | .skip, e, w, K, a, h, ha => wp_skip ⟨fun _ _ => rfl, e, ha, h⟩
  | .ret, e, w, K, a, h, ha => wp_ret ⟨fun _ _ => rfl, e, ha, h⟩
  | .exit id, e, w, K, a, h, ha => wp_exit ⟨fun _ _ => rfl, e, ha, h⟩
  | .seq x y, e, w, K, a, h, ha => by
    unfold vc at h
    split at h
    · refine wp_seq ?_
      refine Code.wp_mono ?_ (vc_sound js h ha)
      intro x' a' w' hl
      cases x' <;> simp only [lift, Exit.then] at hl ⊢
      case normal =>
        obtain ⟨hk, e', ha', hv⟩ := hl
        refine Code.wp_mono (lift_mono fun k hs => ?_) (vc_sound js hv ha')
        obtain ⟨h1, h2⟩ := hasKey_append hs
        exact ⟨h2, hk k h1⟩
      all_goals
        obtain ⟨hk, hv⟩ := hl
        exact ⟨fun k hs => hk k (hasKey_append hs).1, hv⟩
    · obtain ⟨J, h, hj⟩ := h
      refine wp_seq ?_
      refine Code.wp_mono ?_ (vc_sound js h ha)
      intro x' a' w' hl
      cases x' <;> simp only [lift, Exit.then] at hl ⊢
      case normal =>
        obtain ⟨hk, e', ha', hv⟩ := hl
        split at hv
        · rename_i ys hy
          obtain ⟨rfl, hm⟩ := looks_vals ha' hy
          have h2 := forT_inv (xs := valsOf a' (keptJ e (reads y) (assigned x) [])) (hj w') (by simp [valsOf]) hv
          have ha'' := agree_again (S := assigned x) ha ha'.1 ha'.2.1 hk hm
          refine Code.wp_mono (lift_mono fun k hs => ?_) (vc_sound js h2 ha'')
          obtain ⟨h1, h2⟩ := hasKey_append hs
          exact ⟨h2, hk k h1⟩
        · exact hv.elim
      all_goals
        obtain ⟨hk, hv⟩ := hl
        exact ⟨fun k hs => hk k (hasKey_append hs).1, hv⟩
  | .cond c x y, e, w, K, a, h, ha => by
    unfold vc at h
    split at h
    · rename_i t ht
      obtain ⟨h1, h2⟩ := ITE.inv h
      refine wp_cond_split (ha.eval ht) (fun hb => ?_) (fun hb => ?_)
      · exact Code.wp_mono (lift_mono fun k hs => ⟨(hasKey_append hs).1, rfl⟩) (vc_sound js (h1 hb) ha)
      · exact Code.wp_mono (lift_mono fun k hs => ⟨(hasKey_append hs).2, rfl⟩) (vc_sound js (h2 hb) ha)
    · exact h.elim
  | .block id c, e, w, K, a, h, ha => by
    unfold vc at h
    refine wp_block (Code.wp_mono ?_ (vc_sound js h ha))
    intro x' a' w' hl
    cases x' <;> simp only [lift, Exit.inBlock] at hl ⊢
    case normal => exact hl
    case ret => exact hl
    case exit j =>
      obtain ⟨hk, e', ha', hv⟩ := hl
      split at hv
      · rename_i hb
        have : j = id := by simpa using hb
        rw [if_pos this]
        exact ⟨hk, e', ha', hv⟩
      · rename_i hb
        have : j ≠ id := fun h => by subst h; simp at hb
        rw [if_neg this]
        exact ⟨hk, e', ha', hv⟩
  | .loop c, e, w, K, a, h, ha => by
    unfold vc at h
    split at h
    · rename_i vs hvs
      obtain ⟨I, m, h0, h⟩ := h
      obtain ⟨rfl, hm0⟩ := looks_vals ha hvs
      let ms := kept e (assigned c) []
      refine wp_loop (fun a' w' => a'.tmps.size = n ∧ a'.defers = [] ∧ (∀ k, hasKey (assigned c) k = false → a'.tmps[k]? = a.tmps[k]?) ∧ (∀ x ∈ ms, a'.tmps[x.1]? = some (a'.tmps.getD x.1 undef)) ∧ I (valsOf a' ms) w')
        (fun a' w' => m (valsOf a' ms) w') ⟨ha.1, ha.2.1, fun _ _ => rfl, hm0, h0⟩ ?_
      rintro a' w' ⟨h1, h2, h3, h4, h5⟩
      have h6 := forT_inv (xs := valsOf a' ms) (h w') (by simp [valsOf, ms]) h5
      have ha' := agree_again (S := assigned c) ha h1 h2 h3 h4
      refine Code.wp_mono ?_ (vc_sound js h6 ha')
      intro x' a'' w'' hl
      cases x' <;> simp only [lift, Exit.then] at hl ⊢
      case normal =>
        obtain ⟨hk, e', ha'', hv⟩ := hl
        split at hv
        · rename_i ys hy
          obtain ⟨rfl, hm⟩ := looks_vals ha'' hy
          exact ⟨⟨ha''.1, ha''.2.1, fun k hs => (hk k hs).trans (h3 k hs), hm, hv.1⟩, hv.2⟩
        · exact hv.elim
      all_goals
        obtain ⟨hk, hv⟩ := hl
        exact ⟨fun k hs => (hk k hs).trans (h3 k hs), hv⟩
    · exact h.elim
  | .region id ops draw, e, w, K, a, h, ha => by
    unfold vc at h
    split at h
    · refine wp_region_list ?_
      refine seqOps_sound (Fr := fun a' => ∀ k, hasKey (assigned (.region id ops false)) k = false → a'.tmps[k]? = a.tmps[k]?) (fun e' a' w' ha' hf hK => ⟨hf, e', ha', hK⟩) ?_ h ha (fun _ _ => rfl)
      intro o ho a' v hf
      exact assigned_fr o (by simpa using ho) a' v hf
    · split at h
      · rename_i hb
        simp only [Bool.and_eq_true] at hb
        refine wp_region_any hb.1 (wpAny_of_wpAnyR (R := []) ?_)
        have h := h _ (Eff.drawn w) rfl
        refine drawOps_sound (Fr := fun a' => ∀ k, hasKey (assigned (.region id ops true)) k = false → a'.tmps[k]? = a.tmps[k]?) (fun e' a' w' ha' hf hK => ⟨hf, e', ha', hK⟩)
          (fun _ _ _ h => h) (fun ⟨_, _, h⟩ => h) hb.2 (fun o ho a' v hf => assigned_fr o ho a' v hf) h ?_ (by simp) ha (fun _ _ => rfl)
        intro j o hj hl
        rw [Array.getD_eq_getD_getElem?, Array.getElem?_replicate] at hl
        split at hl <;> cases hl
      · exact h.elim
  | .rangeFunc .., _, _, _, _, h, _ => h.elim
  | .scope _, _, _, _, _, h, _ => h.elim
  | .label _, _, _, _, _, h, _ => h.elim
  | .goto _, _, _, _, _, h, _ => h.elim
  | .refuse _, _, _, _, _, h, _ => h.elim

def resS (tmps : Array Value) : ResultVar → Sem Value
  | .tmp t => pure (tmps.getD t undef)
  | .cell x t => do loadVar t (← asAddr (tmps.getD x undef))

theorem resL_inv {e : Env} {w : World} {a : Act} (ha : Agree n e a) : ∀ {l : List ResultVar} {K : List Value → Prop}, resL P e w l K →
    ∃ vs, K vs ∧ (l.mapM (resS a.tmps)).run P w = .ok vs w
  | [], K, h => ⟨[], h, by simp⟩
  | .tmp t :: r, K, h => by
    unfold resL at h
    split at h
    · rename_i v hv
      obtain ⟨vs, hK, hr⟩ := resL_inv ha h
      have hv := ha.2.2 _ _ hv
      have h0 : (resS a.tmps (.tmp t)).run P w = .ok v w := by simp [resS, hv]
      exact ⟨v :: vs, hK, by simp only [List.mapM_cons, Sem.run_bind, h0, Sem.run_pure, Result.andThen_ok, hr]⟩
    · exact h.elim
  | .cell x t :: r, K, h => by
    unfold resL at h
    split at h
    · rename_i q hq
      obtain ⟨b, o, rfl, h1⟩ := NN.inv h
      obtain ⟨v, F, hF, h2, hr2⟩ := ldT_inv h1
      obtain ⟨vs, hK, hr⟩ := resL_inv ha h2
      have hq := ha.2.2 _ _ hq
      have hq' : a.tmps.getD x undef = .pointer (some ⟨b, o, none⟩) := by simp [hq]
      have h0 : (resS a.tmps (.cell x t)).run P w = .ok v w := by
        show (do loadVar t (← asAddr (a.tmps.getD x undef)) : Sem Value).run P w = _
        rw [hq']
        exact hr2 w hF
      exact ⟨v :: vs, hK, by simp only [List.mapM_cons, Sem.run_bind, h0, Sem.run_pure, Result.andThen_ok, hr]⟩
    · exact h.elim

theorem RES.run {l : List Value} {K : Value → Prop} (h : RES l K) : K (if h : l.toArray.size = 1 then l.toArray[0] else .tuple l.toArray) := by
  unfold RES at h
  split at h
  · exact h
  · rename_i h1
    rw [dif_neg]
    · exact h
    · intro hl
      have hl : l.length = 1 := by simpa using hl
      obtain ⟨v, rfl⟩ := List.length_eq_one_iff.1 hl
      exact h1 v rfl

theorem results_of {fn : Func} {e : Env} {w : World} {a : Act} {K : Value → Prop} (ha : Agree n e a) (h : resL P e w fn.results.toList fun l => RES l K) :
    ∃ v, (results fn a.tmps).run P w = .ok v w ∧ K v := by
  obtain ⟨vs, hK, hr⟩ := resL_inv ha h
  refine ⟨_, ?_, hK.run⟩
  obtain ⟨l, hl⟩ : ∃ l, fn.results = List.toArray l := ⟨fn.results.toList, rfl⟩
  rw [hl] at hr
  have e1 : results fn a.tmps = (do let vs ← fn.results.mapM (resS a.tmps); pure (if h : vs.size = 1 then vs[0] else .tuple vs)) := by
    unfold results
    rfl
  rw [e1, hl]
  simp only [List.mapM_toArray, Sem.run_bind, Sem.run_map, hr, Result.andThen_ok, Sem.run_pure]

theorem look_startE : ∀ {as : List Value} {i k : Nat} {v : Value}, look (startE i as) k = some v → i ≤ k ∧ as[k - i]? = some v
  | [], _, _, _, h => by cases h
  | u :: r, i, k, v, h => by
    unfold startE at h
    rw [look_cons] at h
    by_cases hik : i = k
    · subst hik
      rw [if_pos rfl] at h
      cases h
      exact ⟨Nat.le_refl _, by simp⟩
    · rw [if_neg hik] at h
      obtain ⟨h1, h2⟩ := look_startE h
      refine ⟨by omega, ?_⟩
      have : k - i = (k - (i + 1)) + 1 := by omega
      rw [this]
      simpa using h2

/-- A function's contract out of the evaluator. -/
theorem call_of_vc (js : List Nat) {f : FuncId} {fn : Func} {c : Code} {as : List Value} {w : World} {K : Value → World → Prop} (hf : P.funcs[f]? = some fn) (hb : fn.body = some c)
    (hn : as.length ≤ fn.ntmps) (h : vcFn P fn js as w K) : CALL P f as w K := by
  unfold vcFn at h
  rw [hb] at h
  dsimp only at h
  refine calls_of_wp hf hb ?_
  have ha : Agree fn.ntmps (startE 0 as) { tmps := as.toArray ++ Array.replicate (fn.ntmps - as.toArray.size) undef, defers := [] } := by
    refine ⟨by simp; omega, rfl, fun t v hv => ?_⟩
    obtain ⟨_, hv⟩ := look_startE hv
    have ht : t < as.length := by
      have := (List.getElem?_eq_some_iff.1 hv).1; simpa using this
    show (as.toArray ++ _)[t]? = some v
    rw [Array.getElem?_append_left (by simpa using ht)]
    simpa using hv
  refine Code.wp_mono ?_ (vc_sound js h ha)
  intro x a w' hl
  cases x <;> simp only [lift] at hl
  case normal =>
    obtain ⟨_, e, ha, hK⟩ := hl
    obtain ⟨v, hr, hK⟩ := results_of ha hK
    exact ⟨ha.2.1, v, hr, hK⟩
  case ret =>
    obtain ⟨_, e, ha, hK⟩ := hl
    obtain ⟨v, hr, hK⟩ := results_of ha hK
    exact ⟨ha.2.1, v, hr, hK⟩
  case exit id => exact hl.2.elim fun _ h => h.2.elim

end Go.Den

/- Words for proofs over the printed forms. -/
namespace Go.Den

/-! ### Cells -/
def cellH (h : Array Obj) (b o : Nat) : Option Value := match h[b]? with
  | some (.cells c _ _) => c[o]?
  | _ => none

theorem cell_eq (w : World) (b o : Nat) : w.cell? ⟨b, o, none⟩ = cellH w.heap b o := by
  unfold World.cell? cellH
  dsimp only
  cases w.heap[b]? with
  | none => rfl
  | some x => cases x <;> simp

theorem cellH_lt {h : Array Obj} {b o : Nat} {v : Value} (hc : cellH h b o = some v) : b < h.size := by
  unfold cellH at hc
  rcases Nat.lt_or_ge b h.size with hb | hb
  · exact hb
  · simp [Array.getElem?_eq_none hb] at hc

theorem cellH_of {h : Array Obj} {b : Nat} {l : List Value} {t : TypeId} {f : Nat × Nat} (hb : h[b]? = some (.cells l.toArray t f)) (o : Nat) : cellH h b o = l[o]? := by
  simp [cellH, hb]

theorem obj_lt {h : Array Obj} {b : Nat} {x : Obj} (hb : h[b]? = some x) : b < h.size := (Array.getElem?_eq_some_iff.1 hb).1

theorem Eff.obj {w w' : World} {S : List Nat} (h : Eff w w' S) {b : Nat} {x : Obj} (hb : w.heap[b]? = some x) (hS : b ∉ S) : w'.heap[b]? = some x := by
  rw [h.keep b (obj_lt hb) hS, hb]

theorem Eff.cell {w w' : World} {S : List Nat} (h : Eff w w' S) {b : Nat} (hb : b < w.heap.size) (hS : b ∉ S) (o : Nat) : cellH w'.heap b o = cellH w.heap b o := by
  unfold cellH; rw [h.keep b hb hS]

theorem Eff.cell0 {w w' : World} (h : Eff w w' []) {b o : Nat} {v : Value} (hc : cellH w.heap b o = some v) : cellH w'.heap b o = some v := by
  rw [h.cell (cellH_lt hc) (by simp), hc]

theorem Eff.trans0 {a b c : World} (h : Eff a b []) (k : Eff b c []) : Eff a c [] := h.trans k

theorem Eff.obj0 {w w' : World} (h : Eff w w' []) {b : Nat} {x : Obj} (hb : w.heap[b]? = some x) : w'.heap[b]? = some x := h.obj hb (by simp)

/-! ### The words, one by one -/
section
variable {P : Program} {w : World}

theorem ITE_intro {b : Bool} {A B : Prop} (h1 : b = true → A) (h2 : b = false → B) : ITE b A B := by
  cases b
  · exact h2 rfl
  · exact h1 rfl
theorem ITE_d {p : Prop} [Decidable p] {A B : Prop} (h1 : p → A) (h2 : ¬ p → B) : ITE (decide p) A B :=
  ITE_intro (fun h => h1 (of_decide_eq_true h)) (fun h => h2 (of_decide_eq_false h))
theorem ITE_eq {x y : Int} {A B : Prop} (h1 : x = y → A) (h2 : x ≠ y → B) : ITE (x == y) A B :=
  ITE_intro (fun h => h1 (eq_of_beq h)) (fun h => h2 (ne_of_beq_false h))
theorem ITE_ne {x y : Int} {A B : Prop} (h1 : x ≠ y → A) (h2 : x = y → B) : ITE (x != y) A B :=
  ITE_intro (fun h => h1 (by simpa using h)) (fun h => h2 (by simpa using h))
theorem ITE_true {A B : Prop} : ITE true A B = A := rfl
theorem ITE_false {A B : Prop} : ITE false A B = B := rfl

theorem LDV_of {b o : Nat} {v : Value} {K : Value → Prop} (h : cellH w.heap b o = some v) : LDV w ⟨b, o, none⟩ K = K v := by
  unfold LDV; rw [cell_eq, h]
theorem INTV_int {k : IntKind} {n : Int} {K : Int → Prop} : INTV k (.int k n) K = K n := by cases k <;> rfl
theorem BOOLV_bool {b : Bool} {K : Bool → Prop} : BOOLV (.bool b) K = K b := rfl
theorem STRV_string {b : ByteArray} {K : ByteArray → Prop} : STRV (.string b) K = K b := rfl
theorem SLV_slice {a : Option Addr} {l c : Nat} {K : Option Addr → Nat → Nat → Prop} : SLV (.slice a l c) K = K a l c := rfl
theorem PTRV_pointer {a : Option Addr} {K : Option Addr → Prop} : PTRV (.pointer a) K = K a := rfl
theorem TUPV_tuple {l : List Value} {K : List Value → Prop} : TUPV (.tuple l.toArray) K = K l := rfl
theorem AGGV_agg {l : List Value} {K : List Value → Prop} : AGGV (.agg l.toArray) K = K l := rfl
theorem GETV_0 {a : Value} {l : List Value} {K : Value → Prop} : GETV (a :: l) 0 K = K a := rfl
theorem GETV_1 {a b : Value} {l : List Value} {K : Value → Prop} : GETV (a :: b :: l) 1 K = K b := rfl
theorem GETV_2 {a b c : Value} {l : List Value} {K : Value → Prop} : GETV (a :: b :: c :: l) 2 K = K c := rfl
theorem GETV_3 {a b c d : Value} {l : List Value} {K : Value → Prop} : GETV (a :: b :: c :: d :: l) 3 K = K d := rfl
theorem GETV_4 {a b c d e : Value} {l : List Value} {K : Value → Prop} : GETV (a :: b :: c :: d :: e :: l) 4 K = K e := rfl
theorem GETV_5 {a b c d e f : Value} {l : List Value} {K : Value → Prop} : GETV (a :: b :: c :: d :: e :: f :: l) 5 K = K f := rfl
theorem LEN_1 {a : Value} {A : Prop} : LEN [a] 1 A = A := rfl
theorem LEN_2 {a b : Value} {A : Prop} : LEN [a, b] 2 A = A := rfl
theorem LEN_3 {a b c : Value} {A : Prop} : LEN [a, b, c] 3 A = A := rfl
theorem LEN_4 {a b c d : Value} {A : Prop} : LEN [a, b, c, d] 4 A = A := rfl
theorem LEN_5 {a b c d e : Value} {A : Prop} : LEN [a, b, c, d, e] 5 A = A := rfl
theorem LEN_6 {a b c d e f : Value} {A : Prop} : LEN [a, b, c, d, e, f] 6 A = A := rfl
/-- A pair of a number and a truth value, and its like. -/
theorem TUP_ib {k : IntKind} {x : Int} {y : Bool} {K : Int → Bool → Prop} :
    (TUPV (.tuple #[.int k x, .bool y]) fun cs => GETV cs 0 fun v => INTV k v fun n => GETV cs 1 fun u => BOOLV u fun t => LEN cs 2 (K n t)) = K x y := by cases k <;> rfl
theorem TUP_iib {k j : IntKind} {x z : Int} {y : Bool} {K : Int → Int → Bool → Prop} :
    (TUPV (.tuple #[.int k x, .int j z, .bool y]) fun cs => GETV cs 0 fun v => INTV k v fun n => GETV cs 1 fun v2 => INTV j v2 fun m => GETV cs 2 fun u => BOOLV u fun t => LEN cs 3 (K n m t)) = K x z y := by cases k <;> cases j <;> rfl
theorem TUP_aiib {k j : IntKind} {x z : Int} {y : Bool} {K : Int → Int → Bool → Prop} :
    (TUPV (.tuple #[.agg #[.int k x, .int j z], .bool y]) fun cs => GETV cs 0 fun a => AGGV a fun ds => GETV ds 0 fun v => INTV k v fun n => GETV ds 1 fun v2 => INTV j v2 fun m => LEN ds 2 (GETV cs 1 fun u => BOOLV u fun t => LEN cs 2 (K n m t))) = K x z y := by cases k <;> cases j <;> rfl
theorem LDi_of {k : IntKind} {b o : Nat} {n : Int} {K : Int → Prop} (h : cellH w.heap b o = some (.int k n)) : LDi k w ⟨b, o, none⟩ K = K n := by
  unfold LDi; rw [LDV_of h, INTV_int]
theorem LDb_of {b o : Nat} {n : Bool} {K : Bool → Prop} (h : cellH w.heap b o = some (.bool n)) : LDb w ⟨b, o, none⟩ K = K n := by
  unfold LDb; rw [LDV_of h]; rfl
theorem LDs_of {b o : Nat} {n : ByteArray} {K : ByteArray → Prop} (h : cellH w.heap b o = some (.string n)) : LDs w ⟨b, o, none⟩ K = K n := by
  unfold LDs; rw [LDV_of h]; rfl
theorem LDp_of {b o : Nat} {n : Option Addr} {K : Option Addr → Prop} (h : cellH w.heap b o = some (.pointer n)) : LDp w ⟨b, o, none⟩ K = K n := by
  unfold LDp; rw [LDV_of h]; rfl
theorem LDl_of {b o : Nat} {a : Option Addr} {l c : Nat} {K : Option Addr → Nat → Nat → Prop} (h : cellH w.heap b o = some (.slice a l c)) : LDl w ⟨b, o, none⟩ K = K a l c := by
  unfold LDl; rw [LDV_of h]; rfl
theorem LDm_of {b o : Nat} {n : Option Nat} {K : Option Nat → Prop} (h : cellH w.heap b o = some (.map n)) : LDm w ⟨b, o, none⟩ K = K n := by
  unfold LDm; rw [LDV_of h]; rfl
theorem LEN_of {cs : List Value} {i : Nat} {A : Prop} (h : cs.length = i) : LEN cs i A = A := by
  subst h; unfold LEN; rw [show Nat.beq cs.length cs.length = true from by simp]
theorem NZ_of {y : Int} {A : Prop} (h : y ≠ 0) (hA : A) : NZ y A := ⟨h, hA⟩
theorem GE0_of {y : Int} {A : Prop} (h : 0 ≤ y) (hA : A) : GE0 y A := ⟨h, hA⟩

theorem KEEP_nil : KEEP w [] := fun _ h => by cases h
theorem KEEP_cell {b o : Nat} {v : Value} {r : List Fact} (h : cellH w.heap b o = some v) (hr : KEEP w r) : KEEP w (.cell ⟨b, o, none⟩ v :: r) := by
  intro f hf
  rcases List.mem_cons.1 hf with rfl | hf
  · show w.cell? _ = _; rw [cell_eq, h]
  · exact hr f hf

/-- A store into a block of its own. -/
theorem ST1_of {b o : Nat} {l : List Value} {t : TypeId} {v : Value} {K : World → Prop} (hs : SCAL v) (hb : w.heap[b]? = some (.cells l.toArray t (0, 0))) (ho : o < l.length)
    (hK : ∀ w', w'.heap[b]? = some (.cells (l.set o v).toArray t (0, 0)) → Eff w w' [b] → K w') : ST1 w ⟨b, o, none⟩ v K := by
  refine ⟨hs, ⟨l[o], ?_⟩, ?_, hK _ ?_ (Eff.setCell w ⟨b, o, none⟩ v)⟩
  · rw [cell_eq, cellH_of hb]; exact List.getElem?_eq_getElem ho
  · simp [World.frozen?, hb]
  · simp only [World.setCell, Array.getElem?_modify, if_true, hb, Option.map_some]
    simp

/-! loops -/
theorem LOOP_of {vs : List Value} {F : (List Value → World → Prop) → (List Value → World → List Value → World → Prop) → Prop} (I : List Value → World → Prop) (m : List Value → World → Nat) (h0 : I vs w)
    (h : F I fun xs w' ys w'' => I ys w'' ∧ m ys w'' < m xs w') : LOOP vs w F := ⟨I, m, h0, h⟩

/-- Pure values. -/
theorem SILX_of {s : Sem Value} {K : Value → List Fact → Prop} {v : Value} (h : ∀ w', s.run P w' = .ok v w') (hK : K v []) : SILX P w s K :=
  ⟨v, [], KEEP_nil, fun w' _ => h w', hK⟩
theorem SILN_of {s : Sem Value} {K : Value → Prop} {v : Value} (h : ∀ w', s.run P w' = .ok v w') (hK : K v) : SILN P s K := ⟨v, h, hK⟩
theorem EXT_of {f : FuncId} {as : List Value} {K : Value → World → Prop} {v : Value} {w' : World} (h : (callFunc f as.toArray).run P w = .ok (.value v) w') (hK : K v w') : EXT P f as w K := by
  unfold EXT; rw [h]; exact hK
theorem SEML_of {s : Sem Value} {K : Value → World → Prop} {v : Value} {w' : World} (h : s.run P w = .ok v w') (hK : K v w') : SEML P w s K := by
  unfold SEML; rw [h]; exact hK
end

/-! ### Numbers -/
theorem wrap_i64 {x : Int} (h1 : -9223372036854775808 ≤ x) (h2 : x ≤ 9223372036854775807) : IntKind.i64.wrap x = x := by
  rw [IntKind.wrap_i64]
  omega

theorem BINDw {x : Int} {K : Int → Prop} (h1 : -9223372036854775808 ≤ x) (h2 : x ≤ 9223372036854775807) (hK : K x) : BIND (IntKind.i64.wrap x) K := by
  unfold BIND; rw [wrap_i64 h1 h2]; exact hK
theorem BINDx {α : Type} {x y : α} {K : α → Prop} (h : x = y) (hK : K y) : BIND x K := by
  unfold BIND; rw [h]; exact hK
theorem wrap_u64 {x : Int} (h1 : 0 ≤ x) (h2 : x ≤ 18446744073709551615) : IntKind.u64.wrap x = x := by
  have : IntKind.u64.wrap x = x % 18446744073709551616 := by simp [IntKind.wrap, IntKind.bits, IntKind.signed]
  rw [this]; omega
theorem wrap_u64' (x : Int) : IntKind.u64.wrap x = x % 18446744073709551616 := by simp [IntKind.wrap, IntKind.bits, IntKind.signed]
theorem BINDu {x : Int} {K : Int → Prop} (h1 : 0 ≤ x) (h2 : x ≤ 18446744073709551615) (hK : K x) : BIND (IntKind.u64.wrap x) K := by
  unfold BIND; rw [wrap_u64 h1 h2]; exact hK

/-! ### Slices -/
/-- The slice (a, l) has these elements, each of so many cells. -/
def Sl {α : Type} (enc : α → List Value) (size : Nat) (h : Array Obj) (a : Option Addr) (l : Nat) (xs : List α) : Prop :=
  l = xs.length ∧ (xs = [] ∨ ∃ b o, a = some ⟨b, o, none⟩ ∧ ∀ i x, xs[i]? = some x → ∀ j v, (enc x)[j]? = some v → cellH h b (o + i * size + j) = some v)

def encI (k : IntKind) (n : Int) : List Value := [.int k n]
abbrev SlI := @Sl Int (encI .i64) 1

theorem Sl.eff {α : Type} {enc : α → List Value} {size : Nat} {w w' : World} {a : Option Addr} {l : Nat} {xs : List α} (h : Sl enc size w.heap a l xs) (hE : Eff w w' []) : Sl enc size w'.heap a l xs := by
  refine ⟨h.1, h.2.imp id ?_⟩
  rintro ⟨b, o, ha, hc⟩
  exact ⟨b, o, ha, fun i x hx j v hv => hE.cell0 (hc i x hx j v hv)⟩

theorem Sl.heap {α : Type} {enc : α → List Value} {size : Nat} {h h' : Array Obj} {a : Option Addr} {l : Nat} {xs : List α} (hs : Sl enc size h a l xs) (hh : h' = h) : Sl enc size h' a l xs := hh ▸ hs

theorem IDX_sl {α : Type} {enc : α → List Value} {size : Nat} {h : Array Obj} {a : Option Addr} {l : Nat} {xs : List α} {i : Int} {K : Nat → Nat → Prop} (hs : Sl enc size h a l xs) (h0 : 0 ≤ i) (h1 : i < l)
    (hK : ∀ b o x, xs[i.toNat]? = some x → (∀ j v, (enc x)[j]? = some v → cellH h b (o + j) = some v) → K b o) : IDX a l i size K := by
  refine ⟨h0, h1, ?_⟩
  obtain ⟨hl, hx⟩ := hs
  have hi : i.toNat < xs.length := by omega
  rcases hx with rfl | ⟨b, o, rfl, hc⟩
  · simp at hi
  · exact hK b _ _ (List.getElem?_eq_getElem hi) (hc _ _ (List.getElem?_eq_getElem hi))

theorem IDX_arr {b o n size : Nat} {i : Int} (j : Nat) {K : Nat → Nat → Prop} (h0 : 0 ≤ i) (h1 : i < n) (hj : o + i.toNat * size = j) (hK : K b j) : IDX (some ⟨b, o, none⟩) n i size K :=
  ⟨h0, h1, by subst hj; exact hK⟩

theorem IDX_i {h : Array Obj} {a : Option Addr} {l : Nat} {xs : List Int} {i : Int} {K : Nat → Nat → Prop} (hs : SlI h a l xs) (h0 : 0 ≤ i) (h1 : i < l)
    (hK : ∀ b o, cellH h b o = some (.int .i64 (xs.getD i.toNat 0)) → K b o) : IDX a l i 1 K :=
  IDX_sl hs h0 h1 fun b o x hx hc => hK b o (by
    rw [List.getD_eq_getElem?_getD, hx]
    simpa using hc 0 (.int .i64 x) rfl)

end Go.Den

/- Slices of one's own, and append. -/
namespace Go.Den

section
variable {P : Program} {w : World}

/-- What is to be known of a slice's type. -/
def Elem (P : Program) (t e : TypeId) (size bytes : Nat) : Prop :=
  P.underlying t = some (.slice e) ∧ ∃ i z, P.info? e = some i ∧ i.zero = some z ∧ i.size = size ∧ i.bytes = bytes ∧ z.cells.size = size ∧ 0 < size

def elemB (P : Program) (t e size bytes : Nat) : Bool := match P.underlying t with
  | some (.slice e') => Nat.beq e' e && match P.info? e with
    | some i => Nat.beq i.size size && Nat.beq i.bytes bytes && Nat.blt 0 size && match i.zero with
      | some z => Nat.beq z.cells.size size
      | none => false
    | none => false
  | _ => false

theorem Elem.of {t e : TypeId} {size bytes : Nat} (h : elemB P t e size bytes = true) : Elem P t e size bytes := by
  unfold elemB at h
  split at h
  · rename_i e' ht
    simp only [Bool.and_eq_true] at h
    obtain ⟨he, h⟩ := h
    have he : e' = e := by simpa using he
    subst he
    split at h
    · rename_i i hi
      simp only [Bool.and_eq_true] at h
      obtain ⟨⟨⟨h1, h2⟩, h3⟩, h⟩ := h
      split at h
      · rename_i z hz
        exact ⟨ht, i, z, hi, hz, by simpa using h1, by simpa using h2, by simpa using h, by rw [Nat.blt_eq] at h3; exact h3⟩
      · cases h
    · cases h
  · cases h

/-- The block that a slice of one's own lies in. -/
def ownL (v : Value) : List Nat := match v.ownBlock with
  | some b => [b]
  | none => []

theorem Eff.of_grown {w w' : World} {v : Value} (h : w.grownBy w' v.ownBlock) : Eff w w' (ownL v) :=
  ⟨h.os, h.tape, h.output, h.size, fun b hb hn => h.block b hb (fun e => hn (by simp [ownL, ← e]))⟩

theorem own_eff {base e size n : Nat} {v : Value} {xs : List Value} {w w' : World} {S : List Nat} (h : w.ownsRow base e size v n xs) (hE : Eff w w' S) (hS : ∀ b ∈ ownL v, b ∉ S) : w'.ownsRow base e size v n xs := by
  refine ⟨h.1, h.2.imp id ?_⟩
  rintro ⟨g, cap, cur, rfl, hb, hg, rest⟩
  refine ⟨g, cap, cur, rfl, hb, ?_, rest⟩
  exact hE.obj hg (hS g (by simp [ownL, Value.ownBlock]))

theorem own_eff0 {base e size n : Nat} {v : Value} {xs : List Value} {w w' : World} (h : w.ownsRow base e size v n xs) (hE : Eff w w' []) : w'.ownsRow base e size v n xs :=
  own_eff h hE (by simp)

theorem own_base {base e size n : Nat} {v : Value} {xs : List Value} {w : World} (h : w.ownsRow base e size v n xs) : ∀ b ∈ ownL v, base ≤ b := by
  intro b hb
  rcases h.2 with ⟨rfl, _⟩ | ⟨g, cap, cur, rfl, hb', _⟩
  · simp [ownL, Value.ownBlock] at hb
  · simp [ownL, Value.ownBlock] at hb; omega

/-- What was there when it began stays: a step upon blocks of one's own. -/
theorem Eff.own {w₀ w w' : World} {S : List Nat} (h : Eff w₀ w []) (hE : Eff w w' S) (hS : ∀ b ∈ S, w₀.heap.size ≤ b) : Eff w₀ w' [] :=
  (h.trans hE).weak fun b hb hlt => by
    have := hS b (by simpa using hb); omega

theorem own_slice {base e size n : Nat} {v : Value} {xs : List Value} {w : World} (h : w.ownsRow base e size v n xs) : ∃ a c, v = .slice a n c := by
  rcases h.2 with ⟨rfl, rfl⟩ | ⟨g, cap, cur, rfl, _⟩
  · exact ⟨none, 0, rfl⟩
  · exact ⟨_, _, rfl⟩

theorem own_cap {base e size n l c : Nat} {a : Option Addr} {xs : List Value} {w : World} (h : w.ownsRow base e size (.slice a l c) n xs) : n ≤ c := by
  rcases h.2 with ⟨hv, hn⟩ | ⟨g, cap, cur, hv, _, _, hnc, _⟩
  · cases hv; omega
  · cases hv; exact hnc

/-- append, to a slice of one's own, of what lies in a block. -/
theorem SEML_append {t e ty : TypeId} {size bytes base n m c b o : Nat} {v : Value} {xs news : List Value} {K : Value → World → Prop} (hel : Elem P t e size bytes) (hown : w.ownsRow base e size v n xs)
    (hl : news.length = m * size) (hnews : ∀ j u, news[j]? = some u → cellH w.heap b (o + j) = some u) (h1 : ∀ u ∈ news, SCAL u) (hb : (n + m) * bytes ≤ 140737488355328) (hn : n + m ≤ 140737488355328) (hbase : base ≤ w.heap.size)
    (hK : ∀ a' c' w', w'.ownsRow base e size (.slice a' (n + m) c') (n + m) (xs ++ news) → Eff w w' (ownL v) → K (.slice a' (n + m) c') w') :
    SEML P w (Builtin.append_ #[t, t] ty #[v, .slice (some ⟨b, o, none⟩) m c]) K := by
  obtain ⟨ht, i, z, hi, hz, hs, hby, hzs, hpos⟩ := hel
  obtain ⟨v', w', hr, h2, h3, _⟩ := run_append_own (P := P) w base t ty e i z size bytes ht hi hz hs hby hzs hpos v n xs hown ⟨b, o, none⟩ m c news hl
    (fun j u hu => by rw [Addr.add_eq, cell_eq]; exact hnews j u hu)
    (fun u hu => by have := h1 u hu; cases u <;> first | rfl | exact this.elim) (by simp only [maxLen]; omega) hb hbase
  obtain ⟨a', c', rfl⟩ := own_slice h2
  exact SEML_of hr (hK _ _ _ h2 (Eff.of_grown h3))

/-- A slice of one's own reads as its cells tell. -/
theorem own_sl {α : Type} {enc : α → List Value} {base e size n c : Nat} {a : Option Addr} {l : Nat} {xs : List α} (hsz : ∀ x, (enc x).length = size) (hpos : 0 < size) (h : w.ownsRow base e size (.slice a l c) n (xs.flatMap enc)) :
    l = n ∧ Sl enc size w.heap a l xs := by
  have hlen : (xs.flatMap enc).length = xs.length * size := by
    clear h
    induction xs with
    | nil => simp
    | cons x xs ih => simp only [List.flatMap_cons, List.length_append, ih, hsz, List.length_cons, Nat.succ_mul]; omega
  have h1 := h.1
  rw [hlen] at h1
  have hxn : xs.length = n := Nat.eq_of_mul_eq_mul_right hpos h1
  rcases h.2 with ⟨hv, hn⟩ | ⟨g, cap, cur, hv, _, hg, hnc, _, hcs, htake⟩
  · cases hv
    have : xs = [] := List.length_eq_zero_iff.1 (by omega)
    subst this
    exact ⟨hn.symm, rfl, .inl rfl⟩
  · cases hv
    refine ⟨rfl, hxn.symm, .inr ⟨g, 0, rfl, fun i x hx j u hu => ?_⟩⟩
    have hi : i < xs.length := (List.getElem?_eq_some_iff.1 hx).1
    have hj : j < size := by rw [← hsz x]; exact (List.getElem?_eq_some_iff.1 hu).1
    have key : ∀ (ys : List α) (i : Nat) (x : α), ys[i]? = some x → (ys.flatMap enc)[i * size + j]? = some u ∨ enc x ≠ enc x ∨ (enc x)[j]? ≠ some u := by
      intro ys
      induction ys with
      | nil => intro i x hx; simp at hx
      | cons y ys ih =>
        intro i x hx
        cases i with
        | zero =>
          simp only [List.getElem?_cons_zero, Option.some.injEq] at hx
          subst hx
          by_cases hu : (enc y)[j]? = some u
          · left
            rw [List.flatMap_cons, Nat.zero_mul, Nat.zero_add, List.getElem?_append_left (by rw [hsz]; exact hj)]
            exact hu
          · exact .inr (.inr hu)
        | succ i =>
          simp only [List.getElem?_cons_succ] at hx
          rcases ih i x hx with h | h
          · left
            rw [List.flatMap_cons, List.getElem?_append_right (by rw [hsz, Nat.succ_mul]; omega), hsz]
            rw [show (i + 1) * size + j - size = i * size + j from by rw [Nat.succ_mul]; omega]
            exact h
          · exact .inr h
    rcases key xs i x hx with h | h | h
    · unfold cellH
      rw [hg]
      dsimp only
      have hlt : i * size + j < n * size := by
        have : (i + 1) * size ≤ n * size := Nat.mul_le_mul_right _ (by omega)
        rw [Nat.succ_mul] at this; omega
      rw [← htake, List.getElem?_take, if_pos hlt] at h
      simpa using h
    · exact absurd rfl h
    · exact absurd hu h

theorem flat_encI (k : IntKind) (xs : List Int) : xs.flatMap (encI k) = xs.map (Value.int k) := by
  induction xs with
  | nil => rfl
  | cons x xs ih => rw [List.flatMap_cons, ih]; rfl

theorem own_slI {base e n c : Nat} {a : Option Addr} {l : Nat} {xs : List Int} {k : IntKind} (h : w.ownsRow base e 1 (.slice a l c) n (xs.map (Value.int k))) : l = n ∧ Sl (encI k) 1 w.heap a l xs :=
  own_sl (fun _ => rfl) (by omega) (c := c) (base := base) (e := e) (by rw [flat_encI]; exact h)

/-! ### Slices of slices -/
theorem Elem.size_run {t e : TypeId} {size bytes : Nat} (h : Elem P t e size bytes) : P.underlying t = some (.slice (P.elem t)) ∧ ∀ w, (sizeOf (P.elem t)).run P w = .ok size w := by
  obtain ⟨ht, i, z, hi, _, hs, _⟩ := h
  have e1 : P.elem t = e := by simp [Program.elem, ht]
  refine ⟨by rw [e1]; exact ht, fun w => ?_⟩
  rw [e1, run_sizeOf hi, hs]

def subA (a : Option Addr) (c lo size : Nat) : Option Addr := if c = lo then a else a.map (·.add (lo * size))

theorem SILN_lh {t e : TypeId} {size bytes l c : Nat} {a : Option Addr} {lo hi : Int} {K : Value → Prop} (hel : Elem P t e size bytes) (h0 : 0 ≤ lo) (h1 : lo ≤ hi) (h2 : hi ≤ c)
    (hK : K (.slice (subA a c lo.toNat size) (hi.toNat - lo.toNat) (c - lo.toNat))) : SILN P (Instr.sliceAt t (.slice a l c) (some (.int .i64 lo)) (some (.int .i64 hi)) none) K := by
  obtain ⟨ht, hs⟩ := hel.size_run
  refine SILN_of (fun w' => ?_) hK
  rw [run_sliceAt_slice w' t _ _ _ _ ht, run_slice_lh w' t a l c ht .i64 .i64 lo hi h0 h1 h2, hs]
  rfl
theorem SILN_h {t e : TypeId} {size bytes l c : Nat} {a : Option Addr} {hi : Int} {K : Value → Prop} (hel : Elem P t e size bytes) (h0 : 0 ≤ hi) (h2 : hi ≤ c)
    (hK : K (.slice (subA a c 0 size) hi.toNat c)) : SILN P (Instr.sliceAt t (.slice a l c) none (some (.int .i64 hi)) none) K := by
  obtain ⟨ht, hs⟩ := hel.size_run
  refine SILN_of (fun w' => ?_) hK
  rw [run_sliceAt_slice w' t _ _ _ _ ht, run_slice_h w' t a l c ht .i64 hi h0 h2, hs]
  rfl
theorem SILN_l {t e : TypeId} {size bytes l c : Nat} {a : Option Addr} {lo : Int} {K : Value → Prop} (hel : Elem P t e size bytes) (h0 : 0 ≤ lo) (h2 : lo ≤ l)
    (hK : K (.slice (subA a c lo.toNat size) (l - lo.toNat) (c - lo.toNat))) : SILN P (Instr.sliceAt t (.slice a l c) (some (.int .i64 lo)) none none) K := by
  obtain ⟨ht, hs⟩ := hel.size_run
  refine SILN_of (fun w' => ?_) hK
  rw [run_sliceAt_slice w' t _ _ _ _ ht, run_slice_l w' t a l c ht .i64 lo h0 h2, hs]
  rfl

theorem Sl.sub {α : Type} {enc : α → List Value} {size : Nat} {h : Array Obj} {a : Option Addr} {l c : Nat} {xs : List α} (hs : Sl enc size h a l xs) {lo hi : Nat} (h1 : lo ≤ hi) (h2 : hi ≤ l) (h3 : l ≤ c) :
    Sl enc size h (subA a c lo size) (hi - lo) ((xs.drop lo).take (hi - lo)) := by
  obtain ⟨hl, hx⟩ := hs
  refine ⟨by simp; omega, ?_⟩
  by_cases he : lo = hi
  · left; simp [he]
  rcases hx with rfl | ⟨b, o, rfl, hc⟩
  · simp at hl; omega
  right
  refine ⟨b, o + lo * size, ?_, fun i x hx j v hv => ?_⟩
  · unfold subA
    rw [if_neg (by omega)]
    simp [Addr.add_eq]
  · rw [List.getElem?_take] at hx
    split at hx
    · rw [List.getElem?_drop] at hx
      have := hc (lo + i) x hx j v hv
      rw [Nat.add_mul] at this
      rw [← this]; congr 1; omega
    · cases hx
end
end Go.Den

/- Writing into a block of one's own: runs of cells, copy, clear, append of zero values. -/
namespace Go.Den

section
variable {P : Program} {w : World}

/-- A run of cells is laid over others. -/
def splice (l : List Value) (o : Nat) (news : List Value) : List Value := l.take o ++ news ++ l.drop (o + news.length)

theorem splice_nil (l : List Value) (o : Nat) : splice l o [] = l := by simp [splice]

theorem splice_cons (l : List Value) (o : Nat) (v : Value) (r : List Value) (h : o < l.length) : splice (l.set o v) (o + 1) r = splice l o (v :: r) := by
  have h1 : (l.set o v).take (o + 1) = l.take o ++ [v] := by
    rw [List.take_set, List.take_succ_eq_append_getElem h, List.set_append_right _ _ (by simp; omega)]
    simp [Nat.min_eq_left (Nat.le_of_lt h)]
  have h2 : (l.set o v).drop (o + 1 + r.length) = l.drop (o + (v :: r).length) := by
    rw [List.drop_set_of_lt (by omega)]
    simp only [List.length_cons]
    congr 1; omega
  unfold splice
  rw [h1, h2]
  simp

theorem splice_len {l news : List Value} {o : Nat} (h : o + news.length ≤ l.length) : (splice l o news).length = l.length := by
  simp [splice]; omega

theorem setCells_heap {g : Nat} {te : TypeId} : ∀ (news : List Value) (o : Nat) (w : World) (cur : List Value), w.heap[g]? = some (.cells cur.toArray te (0, 0)) → o + news.length ≤ cur.length →
    (w.setCells g o news).heap[g]? = some (.cells (splice cur o news).toArray te (0, 0)) ∧ Eff w (w.setCells g o news) [g]
  | [], o, w, cur, h, _ => by
    rw [splice_nil]
    exact ⟨h, (Eff.refl w).weak (by simp)⟩
  | v :: r, o, w, cur, h, hl => by
    simp only [List.length_cons] at hl
    have h1 : (w.setCell ⟨g, o, none⟩ v).heap[g]? = some (.cells (cur.set o v).toArray te (0, 0)) := by
      simp only [World.setCell, Array.getElem?_modify, if_true, h, Option.map_some]
      simp
    obtain ⟨h2, h3⟩ := setCells_heap r (o + 1) _ (cur.set o v) h1 (by simp; omega)
    rw [splice_cons _ _ _ _ (by omega)] at h2
    exact ⟨h2, ((Eff.setCell w ⟨g, o, none⟩ v).trans h3).weak (by simp)⟩

theorem scal_one {v : Value} (h : SCAL v) : v.oneCell' = true := by cases v <;> first | rfl | exact h.elim

theorem store_run {g o : Nat} {te : TypeId} {cur news : List Value} (hg : w.heap[g]? = some (.cells cur.toArray te (0, 0))) (hl : o + news.length ≤ cur.length) (h1 : ∀ u ∈ news, SCAL u) :
    ∃ w', (storeCells ⟨g, o, none⟩ news 0).run P w = .ok () w' ∧ w'.heap[g]? = some (.cells (splice cur o news).toArray te (0, 0)) ∧ Eff w w' [g] := by
  have hst := run_storeCells_cells (P := P) g o news 0 w (fun j hj => by
      rw [cell_eq, cellH_of hg, Nat.add_zero, List.getElem?_eq_getElem (by omega)]; rfl) (fun j _ => by simp [World.frozen?, hg]) (fun u hu => scal_one (h1 u hu))
  obtain ⟨h2, h3⟩ := setCells_heap news o w cur hg hl
  exact ⟨_, hst, h2, h3⟩

/-- copy into a block of one's own. -/
theorem SEML_copy {t s e ty te : TypeId} {size bytes g o dLen dCap sLen sCap : Nat} {sa : Option Addr} {cur news : List Value} {K : Value → World → Prop} (hel : Elem P t e size bytes)
    (hg : w.heap[g]? = some (.cells cur.toArray te (0, 0))) (hl : news.length = min sLen dLen * size) (hfit : o + news.length ≤ cur.length) (h1 : ∀ u ∈ news, SCAL u)
    (hsrc : news = [] ∨ ∃ b p, sa = some ⟨b, p, none⟩ ∧ ∀ j u, news[j]? = some u → cellH w.heap b (p + j) = some u)
    (hK : ∀ w', w'.heap[g]? = some (.cells (splice cur o news).toArray te (0, 0)) → Eff w w' [g] → K (.int .i64 (min sLen dLen : Nat)) w') :
    SEML P w (Builtin.copy_ #[t, s] ty #[.slice (some ⟨g, o, none⟩) dLen dCap, .slice sa sLen sCap]) K := by
  obtain ⟨ht, i, z, hi, hz, hs, hby, hzs, hpos⟩ := hel
  obtain ⟨w', hr, h2, h3⟩ := store_run (P := P) hg hfit h1
  have hfc : (Builtin.firstCells size (min sLen dLen) (.slice sa sLen sCap)).run P w = .ok news.toArray w := by
    rcases hsrc with rfl | ⟨b, p, rfl, hc⟩
    · cases sa with
      | none => simp [Builtin.firstCells]
      | some a =>
        have h0 : min sLen dLen * size = 0 := by simpa using hl.symm
        have := run_firstCells_some (P := P) w size (min sLen dLen) a sLen sCap [] (by simpa using hl) (by simp)
        exact this
    · exact run_firstCells_some (P := P) w size (min sLen dLen) _ sLen sCap news hl (fun j u hu => by rw [Addr.add_eq, cell_eq]; exact hc j u hu)
  refine SEML_of (w' := w') (v := .int .i64 (min sLen dLen : Nat)) ?_ (hK w' h2 h3)
  have e1 : Nat.min sLen dLen = min sLen dLen := rfl
  subst hs
  simp only [Builtin.copy_, List.getElem?_toArray, List.getElem?_cons_zero, List.getElem?_cons_succ, Sem.run_bind, run_underlying ht, Result.andThen_ok, Builtin.lenOf, Sem.run_pure, e1, run_sizeOf hi, hfc, hr]
  rfl

theorem zeroCells_eq {z : Value} {zl : List Value} (h : z.cells = zl.toArray) (m : Nat) : (Builtin.zeroCells z.cells m).toList = (List.replicate m zl).flatten := by
  rw [h]
  have := replicate_range zl m
  unfold Builtin.zeroCells
  rw [show zl.toArray.size = zl.length from by simp] at *
  rw [this]

/-- clear, of a slice in a block of one's own. -/
theorem SEML_clear {t e ty te : TypeId} {size bytes g o n c : Nat} {cur zl : List Value} {K : Value → World → Prop} (hel : Elem P t e size bytes) (hzl : zeroL P e = some zl)
    (hg : w.heap[g]? = some (.cells cur.toArray te (0, 0))) (hfit : o + n * size ≤ cur.length) (h1 : ∀ u ∈ zl, SCAL u)
    (hK : ∀ w', w'.heap[g]? = some (.cells (splice cur o (List.replicate n zl).flatten).toArray te (0, 0)) → Eff w w' [g] → K (.tuple #[]) w') :
    SEML P w (Builtin.clear_ #[t] ty #[.slice (some ⟨g, o, none⟩) n c]) K := by
  obtain ⟨ht, i, z, hi, hz, hs, hby, hzs, hpos⟩ := hel
  rcases Nat.eq_zero_or_pos n with rfl | hn
  · refine SEML_of (w' := w) (v := .tuple #[]) ?_ (hK w ?_ ((Eff.refl w).weak (by simp)))
    · simp [Builtin.clear_, run_underlying ht]
    · simpa [splice_nil] using hg
  obtain ⟨z', hz', hzc, _⟩ := zeroL_run hzl w
  have hzlen : zl.length = size := by
    have : (zeroValue e).run P w = .ok z w := by simp [zeroValue, typeInfo, program, Sem.run, hi, hz]
    rw [this] at hz'
    cases hz'
    rw [hzc] at hzs
    simpa using hzs
  obtain ⟨w', hr, h2, h3⟩ := store_run (P := P) (o := o) (news := (List.replicate n zl).flatten) hg (by simpa [hzlen] using hfit) (fun u hu => by
    obtain ⟨l, hl, hu⟩ := List.mem_flatten.1 hu
    rw [List.mem_replicate] at hl
    exact h1 u (hl.2 ▸ hu))
  refine SEML_of (w' := w') (v := .tuple #[]) ?_ (hK w' h2 h3)
  have hne : n ≠ 0 := by omega
  cases n with
  | zero => omega
  | succ n =>
    simp only [Builtin.clear_, List.getElem?_toArray, List.getElem?_cons_zero, Sem.run_bind, run_underlying ht, Result.andThen_ok, hz', zeroCells_eq hzc, hr, Sem.run_pure]

/-! append of zero values (the proof after the kit's printed word of this name) -/
section
open Go.RowKit
theorem run_append_zeros (w : World) (base : Nat) (t ti ty e : TypeId) (i : TypeInfo) (z : Value) (size bytes : Nat) (ht : P.underlying t = some (.slice e)) {k : IntKind} (hti : P.underlying ti = some (.int k)) (hi : P.info? e = some i) (hz : i.zero = some z)
    (hsize : i.size = size) (hby : i.bytes = bytes) (hzs : z.cells.size = size) (hsz : 0 < size) (hb0 : 0 < bytes)
    (v : Value) (n : Nat) (xs : List Value) (hown : w.ownsRow base e size v n xs) (kx : IntKind) (m : Nat) (hsc : ∀ u ∈ (Builtin.zeroCells z.cells m).toList, SCAL u)
    (hbytes : (n + m) * bytes ≤ 140737488355328) (hbase : base ≤ w.heap.size) :
    ∃ v' w', (Builtin.append_ #[t, ti] ty #[v, .int kx m]).run P w = .ok v' w' ∧ w'.ownsRow base e size v' (n + m) (xs ++ (Builtin.zeroCells z.cells m).toList) ∧ w.grownBy w' v.ownBlock ∧
      (v'.ownBlock = v.ownBlock ∨ v'.ownBlock = some w.heap.size) ∧ (∀ A cap, v = .slice A n cap → cap < n + m → v'.ownBlock = some w.heap.size ∧ w.grownBy w' none) := by
  subst hsize
  subst hby
  have hle : n + m ≤ 140737488355328 := Nat.le_trans (Nat.le_mul_of_pos_right _ hb0) hbytes
  have h63 : n + m ≤ maxLen := by simp only [maxLen]; omega
  have hw : IntKind.i64.wrap (m : Int) = m := by rw [IntKind.wrap_i64]; omega
  have hw0 : IntKind.i64.wrap 0 = 0 := by rw [IntKind.wrap_i64]; rfl
  have hneg : ¬ ((m : Int) < 0) := by omega
  have hmb : m * i.bytes ≤ 140737488355328 := Nat.le_trans (Nat.mul_le_mul_right _ (Nat.le_add_left m n)) hbytes
  have hbig : ¬ (281474976710656 < (m : Int) * (i.bytes : Int)) := by
    rw [← Int.natCast_mul]
    omega
  have hsn : i.size ≠ 0 := by omega
  obtain ⟨news, hnews⟩ : ∃ news, news = (Builtin.zeroCells z.cells m).toList := ⟨_, rfl⟩
  rw [← hnews] at hsc ⊢
  have hl : news.length = m * i.size := by rw [hnews, Array.length_toList, size_zeroCells, hzs]
  have hna : Builtin.zeroCells z.cells m = news.toArray := by rw [hnews]
  have hlen : (xs ++ news).length = (n + m) * i.size := by rw [List.length_append, hown.1, hl, Nat.add_mul]
  have hnil : m = 0 → news = [] := fun h => List.eq_nil_of_length_eq_zero (by rw [hl, h, Nat.zero_mul])
  have grown : ∀ (old : Nat), old < n + m → ∀ (row : Option Nat),
      (w.drew.alloc (.cells (xs.toArray ++ news.toArray ++ Builtin.zeroCells z.cells (grownCap w (n + m) old e - (n + m))) e)).ownsRow base e i.size
        (.slice (some ⟨w.heap.size, 0, none⟩) (n + m) (grownCap w (n + m) old e)) (n + m) (xs ++ news) ∧
      w.grownBy (w.drew.alloc (.cells (xs.toArray ++ news.toArray ++ Builtin.zeroCells z.cells (grownCap w (n + m) old e - (n + m))) e)) row := by
    intro old ho row
    have hge := grownCap_ge w (n + m) old e
    have hcm : grownCap w (n + m) old e ≤ maxLen := grownCap_le_maxLen w (n + m) old e h63
    refine ⟨⟨hlen, .inr ⟨w.heap.size, _, _, rfl, hbase, heap_alloc_new w.drew _, hge, hcm, ?_, ?_⟩⟩, ⟨rfl, rfl, rfl, by simp, fun k hk _ => Go.RowKit.Below.heap_alloc w.drew _ k hk⟩⟩
    · simp only [Array.size_append, List.size_toArray, size_zeroCells, hzs, hown.1, hl, ← Nat.add_mul]
      congr 1
      omega
    · simp only [Array.toList_append, List.append_assoc]
      rw [← List.append_assoc, ← hlen]
      exact List.take_left
  have runs : ∀ (A : Option Addr) (cap : Nat), cap < n + m → (Builtin.firstCells i.size n (.slice A n cap)).run P w.drew = .ok xs.toArray w.drew → (Builtin.append_ #[t, ti] ty #[.slice A n cap, .int kx m]).run P w =
      .ok (.slice (some ⟨w.heap.size, 0, none⟩) (n + m) (grownCap w (n + m) cap e)) (w.drew.alloc (.cells (xs.toArray ++ news.toArray ++ Builtin.zeroCells z.cells (grownCap w (n + m) cap e - (n + m))) e)) := by
    intro A cap hcap hfo
    have hn : ¬ (n + m ≤ cap) := by omega
    have h63' : ¬ (9223372036854775807 < ((n : Int) + (m : Int))) := by omega
    have hfit := growslice_fits hcap hbytes
    have h48' : ¬ (281474976710656 < Builtin.nextslicecap (n + m) cap * i.bytes) := by omega
    by_cases hm : m = 0
    · have hnl := hnil hm
      subst hm
      rw [hnl]
      simp only [Nat.add_zero] at hn h63' h48' ⊢
      have h63'' : ¬ (9223372036854775807 < (n : Int)) := by omega
      simp [Builtin.append_, run_underlying ht, run_underlying hti, sizeOf, typeInfo, zeroValue, hi, hz, asInt, asIntOf, hw0, hn, h63'', h48', Question.forced, hfo, newRow, grownCap]
    · have hmz : ¬ (m * i.size = 0) := Nat.mul_ne_zero hm hsn
      simp [Builtin.append_, run_underlying ht, run_underlying hti, sizeOf, typeInfo, zeroValue, hi, hz, asInt, asIntOf, hw, hneg, hbig, hn, h63', h48', Question.forced, hfo, newRow, grownCap, hmz, hna]
      congr 2
      apply Array.ext'
      simp [List.append_assoc]
  rcases hown.2 with ⟨rfl, rfl⟩ | ⟨g, cap, cur, rfl, hbg, hg, hnc, hcm, hcs, htake⟩
  · have hx : xs = [] := List.eq_nil_of_length_eq_zero (by simpa using hown.1)
    subst hx
    by_cases hm : m = 0
    · have hnl := hnil hm
      subst hm
      rw [hnl]
      refine ⟨.slice none 0 0, w, ?_, World.ownsRow_nil w base e i.size, ⟨rfl, rfl, rfl, Nat.le_refl _, fun _ _ _ => rfl⟩, Or.inl rfl, fun A cap hA hc => by cases hA; omega⟩
      simp [Builtin.append_, run_underlying ht, run_underlying hti, sizeOf, typeInfo, hi, asInt, asIntOf, hw0]
    · have hgr := grown 0 (by omega) (Value.ownBlock (.slice none 0 0))
      exact ⟨_, _, runs none 0 (by omega) (by simp [Builtin.firstCells]), hgr.1, hgr.2, Or.inr rfl, fun _ _ _ _ => ⟨rfl, (grown 0 (by omega) none).2⟩⟩
  · by_cases hroom : n + m ≤ cap
    · have hfit : n * i.size + news.length ≤ cur.toList.length := by rw [hl, Array.length_toList, hcs, ← Nat.add_mul]; exact Nat.mul_le_mul_right _ hroom
      obtain ⟨w1, hst, h3, h4⟩ := store_run (P := P) (o := n * i.size) (news := news) (cur := cur.toList) (by simpa using hg) hfit hsc
      refine ⟨.slice (some ⟨g, 0, none⟩) (n + m) cap, w1, ?_, ⟨hlen, .inr ⟨g, cap, (splice cur.toList (n * i.size) news).toArray, rfl, hbg, h3, hroom, hcm, by rw [List.size_toArray, splice_len hfit, Array.length_toList, hcs], ?_⟩⟩, ⟨h4.os, h4.tape, h4.output, h4.size, fun k hk hne => h4.keep k hk (by simpa [Value.ownBlock, eq_comm] using hne)⟩, Or.inl rfl, fun A cap' hA hc => by cases hA; omega⟩
      · by_cases hm : m = 0
        · have hnl := hnil hm
          subst hm
          rw [hnl] at hst
          simp [Builtin.append_, run_underlying ht, run_underlying hti, sizeOf, typeInfo, hi, asInt, asIntOf, hw0, hnc, Addr.add_eq, hst]
        · have hmz : ¬ (m * i.size = 0) := Nat.mul_ne_zero hm hsn
          simp [Builtin.append_, run_underlying ht, run_underlying hti, sizeOf, typeInfo, zeroValue, hi, hz, asInt, asIntOf, hw, hneg, hbig, hroom, hmz, hna, Addr.add_eq, hst]
      · unfold splice
        have h6 : cur.toList.take (n * i.size) = xs := htake
        rw [h6, ← hlen, List.toList_toArray]
        exact List.take_left
    · have holds : ∀ j u, xs[j]? = some u → w.cell? ((⟨g, 0, none⟩ : Addr).add j) = some u := hown.cells (g := g) rfl
      have hgr := grown cap (by omega) (Value.ownBlock (.slice (some ⟨g, 0, none⟩) n cap))
      exact ⟨_, _, runs (some ⟨g, 0, none⟩) cap (by omega) (run_firstCells_some (P := P) w.drew i.size n _ n cap xs hown.1 (by simpa using holds)), hgr.1, hgr.2, Or.inr rfl, fun _ _ _ _ => ⟨rfl, (grown cap (by omega) none).2⟩⟩
end

theorem SEML_append_zeros {t ti e ty : TypeId} {size bytes base n : Nat} {k kx : IntKind} {m : Int} {v : Value} {xs zl : List Value} {K : Value → World → Prop} (hel : Elem P t e size bytes) (hti : P.underlying ti = some (.int k)) (hzl : zeroL P e = some zl)
    (hown : w.ownsRow base e size v n xs) (h0 : 0 ≤ m) (hb0 : 0 < bytes) (h1 : ∀ u ∈ zl, SCAL u) (hb : (n + m.toNat) * bytes ≤ 140737488355328) (hbase : base ≤ w.heap.size)
    (hK : ∀ a' c' w', w'.ownsRow base e size (.slice a' (n + m.toNat) c') (n + m.toNat) (xs ++ (List.replicate m.toNat zl).flatten) → Eff w w' (ownL v) → (∀ b ∈ ownL (.slice a' (n + m.toNat) c'), b ∈ ownL v ∨ b = w.heap.size) → K (.slice a' (n + m.toNat) c') w') :
    SEML P w (Builtin.append_ #[t, ti] ty #[v, .int kx m]) K := by
  obtain ⟨ht, i, z, hi, hz, hs, hby, hzs, hpos⟩ := hel
  obtain ⟨z', hz', hzc, _⟩ := zeroL_run hzl w
  have hzz : (zeroValue e).run P w = .ok z w := by simp [zeroValue, typeInfo, program, Sem.run, hi, hz]
  rw [hzz] at hz'
  cases hz'
  have hze := zeroCells_eq hzc m.toNat
  obtain ⟨v', w', hr, h2, h3, h4, _⟩ := run_append_zeros w base t ti ty e i z size bytes ht hti hi hz hs hby hzs hpos hb0 v n xs hown kx m.toNat (fun u hu => by
    rw [hze] at hu
    obtain ⟨l, hl, hu⟩ := List.mem_flatten.1 hu
    rw [List.mem_replicate] at hl
    exact h1 u (hl.2 ▸ hu)) hb hbase
  rw [hze] at h2
  obtain ⟨a', c', rfl⟩ := own_slice h2
  rw [show ((m.toNat : Nat) : Int) = m by omega] at hr
  refine SEML_of hr (hK _ _ _ h2 (Eff.of_grown h3) fun b hb => ?_)
  rcases h4 with h4 | h4
  · left; unfold ownL at hb ⊢; rw [h4] at hb; exact hb
  · right; unfold ownL at hb; rw [h4] at hb; simpa using hb

/-- .. where there is no room: in a block of its own. -/
theorem SEML_append_zeros_new {t ti e ty : TypeId} {size bytes base n : Nat} {k kx : IntKind} {m : Int} {A : Option Addr} {cap : Nat} {xs zl : List Value} {K : Value → World → Prop} (hel : Elem P t e size bytes) (hti : P.underlying ti = some (.int k)) (hzl : zeroL P e = some zl)
    (hown : w.ownsRow base e size (.slice A n cap) n xs) (hcap : cap < n + m.toNat) (h0 : 0 ≤ m) (hb0 : 0 < bytes) (h1 : ∀ u ∈ zl, SCAL u) (hb : (n + m.toNat) * bytes ≤ 140737488355328) (hbase : base ≤ w.heap.size)
    (hK : ∀ a' c' w', w'.ownsRow base e size (.slice a' (n + m.toNat) c') (n + m.toNat) (xs ++ (List.replicate m.toNat zl).flatten) → Eff w w' [] → ownL (.slice a' (n + m.toNat) c') = [w.heap.size] → K (.slice a' (n + m.toNat) c') w') :
    SEML P w (Builtin.append_ #[t, ti] ty #[.slice A n cap, .int kx m]) K := by
  obtain ⟨ht, i, z, hi, hz, hs, hby, hzs, hpos⟩ := hel
  obtain ⟨z', hz', hzc, _⟩ := zeroL_run hzl w
  have hzz : (zeroValue e).run P w = .ok z w := by simp [zeroValue, typeInfo, program, Sem.run, hi, hz]
  rw [hzz] at hz'
  cases hz'
  have hze := zeroCells_eq hzc m.toNat
  obtain ⟨v', w', hr, h2, _, _, h5⟩ := run_append_zeros w base t ti ty e i z size bytes ht hti hi hz hs hby hzs hpos hb0 (.slice A n cap) n xs hown kx m.toNat (fun u hu => by
    rw [hze] at hu
    obtain ⟨l, hl, hu⟩ := List.mem_flatten.1 hu
    rw [List.mem_replicate] at hl
    exact h1 u (hl.2 ▸ hu)) hb hbase
  rw [hze] at h2
  obtain ⟨a', c', rfl⟩ := own_slice h2
  rw [show ((m.toNat : Nat) : Int) = m by omega] at hr
  obtain ⟨h6, h7⟩ := h5 A cap rfl hcap
  refine SEML_of hr (hK _ _ _ h2 ?_ ?_)
  · exact Eff.of_grown (v := .slice none 0 0) h7
  · unfold ownL; rw [h6]

/-- append, to a slice of one's own, of whatever slice; where the new one lies. -/
theorem SEML_app {t e ty : TypeId} {size bytes base n m c : Nat} {sa : Option Addr} {v : Value} {xs news : List Value} {K : Value → World → Prop} (hel : Elem P t e size bytes) (hown : w.ownsRow base e size v n xs)
    (hl : news.length = m * size) (hsrc : news = [] ∨ ∃ b p, sa = some ⟨b, p, none⟩ ∧ ∀ j u, news[j]? = some u → cellH w.heap b (p + j) = some u) (h1 : ∀ u ∈ news, SCAL u) (hb : (n + m) * bytes ≤ 140737488355328) (hn : n + m ≤ 140737488355328) (hbase : base ≤ w.heap.size)
    (hK : ∀ a' c' w', w'.ownsRow base e size (.slice a' (n + m) c') (n + m) (xs ++ news) → Eff w w' (ownL v) → (∀ b ∈ ownL (.slice a' (n + m) c'), b ∈ ownL v ∨ b = w.heap.size) → K (.slice a' (n + m) c') w') :
    SEML P w (Builtin.append_ #[t, t] ty #[v, .slice sa m c]) K := by
  obtain ⟨ht, i, z, hi, hz, hs, hby, hzs, hpos⟩ := hel
  cases sa with
  | some a =>
    obtain ⟨v', w', hr, h2, h3, _, h4⟩ := run_append_own_at (P := P) w base t ty e i z size bytes ht hi hz hs hby hzs hpos v n xs hown a m c news hl
      (fun j u hu => by
        rcases hsrc with rfl | ⟨b, p, ha, hc⟩
        · simp at hu
        · cases ha; rw [Addr.add_eq, cell_eq]; exact hc j u hu)
      (fun u hu => scal_one (h1 u hu)) (by simp only [maxLen]; omega) hb hbase
    obtain ⟨a', c', rfl⟩ := own_slice h2
    refine SEML_of hr (hK _ _ _ h2 (Eff.of_grown h3) fun b hb => ?_)
    rcases h4 with h4 | h4
    · left; unfold ownL at hb ⊢; rw [h4] at hb; exact hb
    · right; unfold ownL at hb; rw [h4] at hb; simpa using hb
  | none =>
    have hnil : news = [] := by
      rcases hsrc with h | ⟨b, p, h, _⟩
      · exact h
      · cases h
    subst hnil
    have hm : m = 0 := by
      have h0 : m * size = 0 := hl.symm
      rcases Nat.mul_eq_zero.1 h0 with h | h
      · exact h
      · omega
    subst hm
    obtain ⟨a', c', rfl⟩ := own_slice hown
    have hcap := own_cap hown
    have hr : (Builtin.append_ #[t, t] ty #[.slice a' n c', .slice none 0 c]).run P w = .ok (.slice a' n c') w := by
      cases a' <;> simp [Builtin.append_, run_underlying ht, sizeOf, typeInfo, hi, Builtin.lenOf, Builtin.firstCells, hcap, storeCells]
    exact SEML_of hr (hK a' c' w (by simpa using hown) ((Eff.refl w).weak (by simp)) fun b hb => .inl hb)

/-- A slice against nil. -/
theorem SILN_eqnil {t e : TypeId} {ox oy : Operand} {a : Option Addr} {l c : Nat} {K : Value → Prop} (ht : P.underlying t = some (.slice e)) (hK : K (.bool a.isNone)) :
    SILN P (binE BinOp.eql t ox oy (.slice a l c) (.slice none 0 0)) K := by
  refine SILN_of (fun w' => ?_) hK
  cases a with
  | none =>
    have h : ∀ d : Nat, (Op.equalIn (d + 1) t (.slice none l c) (.slice none 0 0)).run P w' = .ok true w' := fun d => by simp [Op.equalIn, run_underlying ht]
    simp [binE, eqGuard, binOp, Op.equal, Op.maxDepth, h 9999]
  | some a =>
    have h : ∀ d : Nat, (Op.equalIn (d + 1) t (.slice (some a) l c) (.slice none 0 0)).run P w' = .ok false w' := fun d => by simp [Op.equalIn, run_underlying ht]
    simp [binE, eqGuard, binOp, Op.equal, Op.maxDepth, h 9999]

theorem SILN_cap {t e ty : TypeId} {a : Option Addr} {l c : Nat} {K : Value → Prop} (ht : P.underlying t = some (.slice e)) (hK : K (.int .i64 c)) : SILN P (Builtin.cap_ #[t] ty #[.slice a l c]) K := by
  refine SILN_of (fun w' => ?_) hK
  have e1 : P.elem t = e := by simp [Program.elem, ht]
  rw [run_cap_slice w' t ty a l c (by rw [e1]; exact ht)]
  rfl

/-! ### Runs laid over runs -/
theorem splice_take {cur news : List Value} {o k : Nat} (hk : k ≤ o) (h : o ≤ cur.length) : (splice cur o news).take k = cur.take k := by
  unfold splice
  rw [List.append_assoc, List.take_append_of_le_length (by simp; omega), List.take_take, Nat.min_eq_left hk]

theorem splice_drop {cur news : List Value} {o : Nat} (h : o ≤ cur.length) : (splice cur o news).drop o = news ++ cur.drop (o + news.length) := by
  unfold splice
  have : (cur.take o).length = o := by simp; omega
  rw [List.append_assoc]
  exact List.drop_left' this

theorem splice_all {cur news : List Value} {o : Nat} (h : o ≤ cur.length) : (splice cur o news).take (o + news.length) = cur.take o ++ news := by
  unfold splice
  exact List.take_left' (by simp; omega)

/-- What Insert does where there is room. -/
theorem splice_ins {cur A B X : List Value} {o : Nat} (hA : cur.take o = A) (h : o + X.length + B.length ≤ cur.length) :
    (splice (splice cur (o + X.length) B) o X).take (o + X.length + B.length) = A ++ X ++ B := by
  have h1 : (splice cur (o + X.length) B).length = cur.length := splice_len h
  have h2 : splice (splice cur (o + X.length) B) o X = (A ++ X ++ B) ++ cur.drop (o + X.length + B.length) := by
    show (splice cur (o + X.length) B).take o ++ X ++ (splice cur (o + X.length) B).drop (o + X.length) = _
    rw [splice_take (by omega) (by omega), splice_drop (by omega), hA]
    simp
  rw [h2]
  have : A.length = o := by rw [← hA]; simp; omega
  exact List.take_left' (by simp; omega)

/-- .. and where there is none. -/
theorem splice_grow {cur A B X : List Value} {o : Nat} (hA : cur.take o = A) (h : o + X.length + B.length ≤ cur.length) :
    (splice (splice cur o X) (o + X.length) B).take (o + X.length + B.length) = A ++ X ++ B := by
  have h1 : (splice cur o X).length = cur.length := splice_len (by omega)
  rw [splice_all (by omega), splice_all (by omega), hA]

theorem subA_some {b o c lo size : Nat} : (c = lo → subA (some ⟨b, o, none⟩) c lo size = some ⟨b, o, none⟩) ∧ (c ≠ lo → subA (some ⟨b, o, none⟩) c lo size = some ⟨b, o + lo * size, none⟩) := by
  unfold subA
  refine ⟨fun h => by rw [if_pos h], fun h => by rw [if_neg h]; simp [Addr.add_eq]⟩

/-- A slice of one's own that has an element. -/
theorem own_form {base e size n l c : Nat} {a : Option Addr} {xs : List Value} (h : w.ownsRow base e size (.slice a l c) n xs) (hn : 0 < n) :
    ∃ (g : Nat) (cur : List Value), a = some ⟨g, 0, none⟩ ∧ l = n ∧ w.heap[g]? = some (.cells cur.toArray e (0, 0)) ∧ cur.length = c * size ∧ n ≤ c ∧ c ≤ maxLen ∧ cur.take (n * size) = xs ∧ base ≤ g := by
  rcases h.2 with ⟨_, h0⟩ | ⟨g, cap, cur, hv, hb, hg, hnc, hcm, hcs, ht⟩
  · omega
  · cases hv
    exact ⟨g, cur.toList, rfl, rfl, by simpa using hg, by simpa using hcs, hnc, hcm, ht, hb⟩

theorem own_mk {base e size n c g : Nat} {cur xs : List Value} (hg : w.heap[g]? = some (.cells cur.toArray e (0, 0))) (hl : cur.length = c * size) (hnc : n ≤ c) (hcm : c ≤ maxLen) (ht : cur.take (n * size) = xs) (hx : xs.length = n * size) (hb : base ≤ g) :
    w.ownsRow base e size (.slice (some ⟨g, 0, none⟩) n c) n xs :=
  ⟨hx, .inr ⟨g, c, cur.toArray, rfl, hb, hg, hnc, hcm, by simpa using hl, by simpa using ht⟩⟩

/-- append where there is room: in place. -/
theorem SEML_app_room {t e ty te : TypeId} {size bytes g n m c c2 : Nat} {sa : Option Addr} {cur news : List Value} {K : Value → World → Prop} (hel : Elem P t e size bytes) (hg : w.heap[g]? = some (.cells cur.toArray te (0, 0))) (hroom : n + m ≤ c)
    (hl : news.length = m * size) (hfit : n * size + news.length ≤ cur.length) (h1 : ∀ u ∈ news, SCAL u)
    (hsrc : news = [] ∨ ∃ b p, sa = some ⟨b, p, none⟩ ∧ ∀ j u, news[j]? = some u → cellH w.heap b (p + j) = some u)
    (hK : ∀ w', w'.heap[g]? = some (.cells (splice cur (n * size) news).toArray te (0, 0)) → Eff w w' [g] → K (.slice (some ⟨g, 0, none⟩) (n + m) c) w') :
    SEML P w (Builtin.append_ #[t, t] ty #[.slice (some ⟨g, 0, none⟩) n c, .slice sa m c2]) K := by
  obtain ⟨ht, i, z, hi, hz, hs, hby, hzs, hpos⟩ := hel
  obtain ⟨w', hr, h2, h3⟩ := store_run (P := P) hg hfit h1
  have hfc : (Builtin.firstCells size m (.slice sa m c2)).run P w = .ok news.toArray w := by
    rcases hsrc with rfl | ⟨b, p, rfl, hc⟩
    · cases sa with
      | none => simp [Builtin.firstCells]
      | some a => exact run_firstCells_some (P := P) w size m a m c2 [] (by simpa using hl) (by simp)
    · exact run_firstCells_some (P := P) w size m _ m c2 news hl (fun j u hu => by rw [Addr.add_eq, cell_eq]; exact hc j u hu)
  refine SEML_of (w' := w') (v := .slice (some ⟨g, 0, none⟩) (n + m) c) ?_ (hK w' h2 h3)
  subst hs
  simp [Builtin.append_, run_underlying ht, sizeOf, typeInfo, hi, Builtin.lenOf, hroom, hfc, Addr.add_eq, hr]

/-- A full slice expression: within its bounds it is. -/
theorem SILN_lhm {t e : TypeId} {size bytes l c : Nat} {a : Option Addr} {lo hi mx : Int} {K : Value → Prop} (hel : Elem P t e size bytes) (h0 : 0 ≤ lo) (h1 : lo ≤ hi) (h2 : hi ≤ mx) (h3 : mx ≤ c)
    (hK : K (.slice (subA a mx.toNat lo.toNat size) (hi.toNat - lo.toNat) (mx.toNat - lo.toNat))) : SILN P (Instr.sliceAt t (.slice a l c) (some (.int .i64 lo)) (some (.int .i64 hi)) (some (.int .i64 mx))) K := by
  obtain ⟨ht, hs⟩ := hel.size_run
  refine SILN_of (fun w' => ?_) hK
  have hb : (Instr.sliceBounds true l c (some (.int .i64 lo)) (some (.int .i64 hi)) (some (.int .i64 mx))).run P w' = .ok (lo.toNat, hi.toNat, mx.toNat) w' := by
    simp only [Instr.sliceBounds, Sem.run_bind]
    rw [run_sliceBound w' .i64 mx c _ (by omega) h3, Result.andThen_ok, run_sliceBound w' .i64 hi mx.toNat _ (by omega) (by omega), Result.andThen_ok, run_sliceBound w' .i64 lo hi.toNat _ (by omega) (by omega)]
    rfl
  rw [run_sliceAt_slice w' t _ _ _ _ ht, run_slice_any w' t a l c ht, hb, Result.andThen_ok, hs]
  rfl
end
end Go.Den
