/- The verification condition of a Go function, as a proposition that the kernel computes from the function's code (codeW, fnW), in terms of heaps alone. No theorem here; VcSound proves that the condition suffices. -/
import Derived.Calls
import Derived.Orders
set_option linter.unusedVariables false
set_option linter.unusedSimpArgs false

namespace Go.VC

abbrev Heap := Array Obj
abbrev Env := Nat → Value

/-- the cell at an address -/
def hc (h : Heap) (a : Addr) : Option Value :=
  match h[a.block]? with
  | some (.cells c _ _) => if a.spot.isSome then none else c[a.off]?
  | _ => none
/-- may the cell not be written -/
def fz (h : Heap) (a : Addr) : Bool :=
  match h[a.block]? with
  | some (.cells _ _ (lo, hi)) => lo ≤ a.off && a.off < hi
  | _ => false
def hset (h : Heap) (a : Addr) (v : Value) : Heap :=
  h.modify a.block fun
    | .cells c elem frozen => .cells (if a.spot.isSome then c else c.setIfInBounds a.off v) elem frozen
    | o => o
/-- all blocks of h are in h' as they were -/
def Ext (h h' : Heap) : Prop := h.size ≤ h'.size ∧ ∀ b, b < h.size → h'[b]? = h[b]?

def upd (ρ : Env) (d : Nat) (v : Value) : Env := fun j => bif Nat.beq j d then v else ρ j
def evl (ρ : Env) : Operand → Value
  | .tmp t => ρ t
  | .const v => v
  | .global g => .pointer (some ⟨g, 0, none⟩)
  | .func f => .func (.func f) #[] #[]

/-- kinds of cells -/
inductive Kd where
  | int (k : IntKind) | bool | str | ptr | slice | map | any
structure Sl where
  a : Option Addr
  n : Nat
  c : Nat
def Kd.T : Kd → Type
  | .int _ => Int | .bool => Bool | .str => ByteArray | .ptr => Option Addr | .slice => Sl | .map => Option Nat | .any => Value
def Kd.val : (k : Kd) → k.T → Value
  | .int k, x => .int k x
  | .bool, x => .bool x
  | .str, x => .string x
  | .ptr, x => .pointer x
  | .slice, x => .slice x.a x.n x.c
  | .map, x => .map x
  | .any, x => x
def Kd.ex : Kd → (Value → Prop) → Prop
  | .int k, F => ∃ x : Int, F (.int k x)
  | .bool, F => ∃ x : Bool, F (.bool x)
  | .str, F => ∃ x : ByteArray, F (.string x)
  | .ptr, F => ∃ x : Option Addr, F (.pointer x)
  | .slice, F => ∃ x : Sl, F (.slice x.a x.n x.c)
  | .map, F => ∃ x : Option Nat, F (.map x)
  | .any, F => ∃ x : Value, F x
def exKs : List Kd → (List Value → Prop) → Prop
  | [], F => F []
  | k :: r, F => k.ex fun v => exKs r fun vs => F (v :: vs)
def ikB : IntKind → IntKind → Bool
  | .i8, .i8 | .i16, .i16 | .i32, .i32 | .i64, .i64 | .u8, .u8 | .u16, .u16 | .u32, .u32 | .u64, .u64 => true
  | _, _ => false
def Kd.wth : (k : Kd) → Value → (k.T → Prop) → Prop
  | .int k, .int k' x, F => bif ikB k k' then F x else False
  | .bool, .bool x, F => F x
  | .str, .string x, F => F x
  | .ptr, .pointer x, F => F x
  | .slice, .slice a n c, F => F ⟨a, n, c⟩
  | .map, .map x, F => F x
  | .any, x, F => F x
  | _, _, _ => False
def flat (P : Program) : Nat → TypeId → List Kd
  | 0, _ => [.any]
  | d + 1, t => match P.underlying t with
    | some (.struct fs) => fs.toList.flatMap fun f => flat P d f.type
    | some (.array n e) => (List.replicate n (flat P d e)).flatten
    | some (.int k) => [.int k]
    | some .bool => [.bool]
    | some .string => [.str]
    | some (.pointer _) => [.ptr]
    | some (.slice _) => [.slice]
    | some (.map _ _) => [.map]
    | _ => [.any]
def aggB (P : Program) (t : TypeId) : Bool := match P.underlying t with | some (.struct _) | some (.array _ _) => true | _ => false
def szOf (P : Program) (t : TypeId) : Nat := match P.info? t with | some i => i.size | none => 0
def byOf (P : Program) (t : TypeId) : Nat := match P.info? t with | some i => i.bytes | none => 0
def isT (P : Program) (t : TypeId) : Bool := (P.info? t).isSome && (P.underlying t).isSome
def zeroC (P : Program) (t : TypeId) : List Value := match (P.info? t).bind (·.zero) with | some z => z.cells.toList | none => []

def addk (a : Addr) (i : Nat) : Addr := match i with | 0 => a | i + 1 => ⟨a.block, a.off + (i + 1), none⟩
/-- the cells from a on hold vs -/
def atC (h : Heap) (a : Addr) (vs : List Value) : Prop := ∀ i v, vs[i]? = some v → hc h (addk a i) = some v
def cellsAt (h : Heap) (a : Addr) (vs : List Value) (K : Prop) : Prop := match vs with | [v] => hc h a = some v ∧ K | vs => atC h a vs ∧ K
/-- n cells from a on can be written -/
def okAt (h : Heap) (a : Addr) (n : Nat) : Prop := ∀ i, i < n → (hc h (addk a i)).isSome = true ∧ fz h (addk a i) = false
def hputs (h : Heap) (a : Addr) : Nat → List Value → Heap
  | _, [] => h
  | i, v :: vs => hputs (hset h (addk a i) v) a (i + 1) vs
def oneB : Value → Bool
  | .agg _ | .tuple _ => false
  | _ => true
def putW (h : Heap) (a : Addr) (vs : List Value) (K : Heap → Prop) : Prop :=
  bif vs.all oneB then okAt h a vs.length ∧ ∀ h', h' = hputs h a 0 vs → K h' else False

def sB (b : Bool) (p q : Prop) : Prop := match b with | true => p | false => q
def NC (p : Option Addr) (F : Addr → Prop) : Prop := match p with | some a => F a | none => False
def NB (p : Option Addr) (F : Nat → Nat → Prop) : Prop := match p with | some ⟨b, o, none⟩ => F b o | _ => False
def byteAt (s : ByteArray) (i : Nat) : Nat := (s.data.toList.getD i 0).toNat
def subA (a : Option Addr) (l c size : Nat) : Option Addr := if c = l then a else a.map (·.add (l * size))
def splice (l : List Value) (off : Nat) (vs : List Value) : List Value := l.take off ++ vs ++ l.drop (off + vs.length)
def fillF (P : Program) (fs : List Field) : List (Nat × Value) → List Value → (List Value → Prop) → Prop
  | [], l, F => F l
  | (i, v) :: r, l, F => match fs[i]? with
    | some f => bif Nat.beq (szOf P f.type) v.cells.toList.length && Nat.ble (f.offset + v.cells.toList.length) l.length && isT P f.type then fillF P fs r (splice l f.offset v.cells.toList) F else False
    | none => False
def fillE (size : Nat) : List (Nat × Value) → List Value → (List Value → Prop) → Prop
  | [], l, F => F l
  | (i, v) :: r, l, F => bif Nat.beq size v.cells.toList.length && Nat.ble (i * size + v.cells.toList.length) l.length then fillE size r (splice l (i * size) v.cells.toList) F else False
/-- the parts are elements 0, 1, .. , k, in order -/
def inOrd (size : Nat) : Nat → List (Nat × Value) → Bool
  | _, [] => true
  | k, (i, v) :: r => Nat.beq i k && Nat.beq size v.cells.toList.length && inOrd size (k + 1) r
def catV : List (Nat × Value) → List Value
  | [] => []
  | (_, v) :: r => v.cells.toList ++ catV r
def reps : Nat → List Value → List Value | 0, _ => [] | n + 1, l => l ++ reps n l
def prts (ρ : Env) (ps : Array (Nat × Operand)) : List (Nat × Value) := ps.toList.map fun p => (p.1, evl ρ p.2)
def imin (x y : Int) : Int := if y < x then y else x
def imax (x y : Int) : Int := if y > x then y else x
def pick1 (b : Bool) (vs : List Value) : Value := bif b then .agg ⟨vs⟩ else match vs with | u :: _ => u | [] => undef
/-- n zero elements of type e -/
def madeL (P : Program) (e : TypeId) (n : Nat) : List Value := (List.replicate n (zeroC P e)).flatten

/-- a call: whatever the world around the heap h, it returns a value v and leaves a heap h' with R v h' -/
def Fn (P : Program) (f : FuncId) (args : Array Value) (h : Heap) (R : Value → Heap → Prop) : Prop :=
  ∀ w : World, w.heap = h → Calls P f args w fun e w' => ∃ v, e = .returned v ∧ R v w'.heap ∧ w'.os = w.os ∧ w'.tape = w.tape ∧ w'.output = w.output
/-- an operation of the model, likewise -/
def RunW {α : Type} (P : Program) (s : Sem α) (h : Heap) (K : α → Heap → Prop) : Prop :=
  ∀ w : World, w.heap = h → ∃ v w', s.run P w = .ok v w' ∧ K v w'.heap ∧ w'.os = w.os ∧ w'.tape = w.tape ∧ w'.output = w.output
/-- a call of a function without a body, likewise -/
def ExtW (P : Program) (g : FuncId) (args : Array Value) (h : Heap) (K : Value → Heap → Prop) : Prop :=
  ∀ w : World, w.heap = h → ∃ v w', (callFunc g args).run P w = .ok (.value v) w' ∧ K v w'.heap ∧ w'.os = w.os ∧ w'.tape = w.tape ∧ w'.output = w.output
def callable (P : Program) (f : FuncId) : Bool := match P.funcs[f]? with | some fn => fn.body.isSome && !(fn.name == "runtime.NumGoroutine") | none => false
/-- append of slices -/
def App (P : Program) (t u : TypeId) (s x : Value) (h : Heap) (K : Sl → Heap → Prop) : Prop :=
  ∀ ty, RunW P (Builtin.append_ #[t, u] ty #[s, x]) h fun v h' => ∃ r : Sl, v = .slice r.a r.n r.c ∧ K r h'
def Cpy (P : Program) (t u : TypeId) (s x : Value) (h : Heap) (K : Int → Heap → Prop) : Prop :=
  ∀ ty, RunW P (Builtin.copy_ #[t, u] ty #[s, x]) h fun v h' => ∃ r : Int, v = .int .i64 r ∧ K r h'

/-- a value of a type, typed -/
def exVal (P : Program) (t : TypeId) (F : Value → Prop) : Prop := exKs (flat P 9 t) fun vs => F (pick1 (aggB P t) vs)
/-- a call's result, typed -/
def exTup (P : Program) (v : Value) (K : Value → Prop) : List TypeId → List Value → Prop
  | [], acc => v = .tuple ⟨acc.reverse⟩ ∧ K (.tuple ⟨acc.reverse⟩)
  | t :: r, acc => exVal P t fun u => exTup P v K r (u :: acc)
def exRes (P : Program) (t : TypeId) (v : Value) (K : Value → Prop) : Prop :=
  match P.underlying t with
  | some (.tuple ts) => exTup P v K ts.toList []
  | some _ => exVal P t fun u => v = u ∧ K u
  | none => False

/-- structs whose fields are numbers, bools and strings: '==' cell by cell -/
def eqC (P : Program) : Nat → List Field → List Value → List Value → (Bool → Prop) → Prop
  | _, [], [], [], F => F true
  | k, f :: fs, u :: us, v :: vs, F => bif Nat.beq f.offset k && !(f.name == "_") then
      (match P.underlying f.type, u, v with
      | some (.int _), .int j a, .int l b => bif ikB j l then eqC P (k + 1) fs us vs fun r => F ((a == b) && r) else False
      | some .string, .string a, .string b => eqC P (k + 1) fs us vs fun r => F ((a.toList == b.toList) && r)
      | some .bool, .bool a, .bool b => eqC P (k + 1) fs us vs fun r => F ((a == b) && r)
      | _, _, _ => False) else False
  | _, _, _, _, _ => False
def eqS (P : Program) (t : TypeId) (us vs : List Value) (F : Bool → Prop) : Prop := match P.underlying t with
  | some (.struct fs) => bif !P.stoodInHeld t && !P.eqGuardType P.depth t then eqC P 0 fs.toList us vs F else False
  | _ => False
def binW (P : Program) (op : BinOp) (t : TypeId) (x y : Value) (K : Value → Prop) : Prop :=
  match op, x, y with
  | .add, .int k a, .int k' b => bif ikB k k' then K (.int k (k.wrap (a + b))) else False
  | .sub, .int k a, .int k' b => bif ikB k k' then K (.int k (k.wrap (a - b))) else False
  | .mul, .int k a, .int k' b => bif ikB k k' then K (.int k (k.wrap (a * b))) else False
  | .quo, .int k a, .int k' b => bif ikB k k' then b ≠ 0 ∧ K (.int k (k.wrap (a.tdiv b))) else False
  | .rem, .int k a, .int k' b => bif ikB k k' then b ≠ 0 ∧ K (.int k (a.tmod b)) else False
  | .eql, .int k a, .int k' b => bif ikB k k' then K (.bool (a == b)) else False
  | .neq, .int k a, .int k' b => bif ikB k k' then K (.bool (a != b)) else False
  | .lss, .int k a, .int k' b => bif ikB k k' then K (.bool (decide (a < b))) else False
  | .leq, .int k a, .int k' b => bif ikB k k' then K (.bool (decide (a ≤ b))) else False
  | .gtr, .int k a, .int k' b => bif ikB k k' then K (.bool (decide (a > b))) else False
  | .geq, .int k a, .int k' b => bif ikB k k' then K (.bool (decide (a ≥ b))) else False
  | .eql, .string a, .string b => K (.bool (a.toList == b.toList))
  | .neq, .string a, .string b => K (.bool (!(a.toList == b.toList)))
  | .add, .string a, .string b => a.size + b.size ≤ 9223372036854775807 ∧ K (.string (a ++ b))
  | .lss, .string a, .string b => K (.bool (Op.bytesLess a.toList b.toList))
  | .leq, .string a, .string b => K (.bool (Op.bytesLess a.toList b.toList || a.toList == b.toList))
  | .gtr, .string a, .string b => K (.bool (!(Op.bytesLess a.toList b.toList || a.toList == b.toList)))
  | .geq, .string a, .string b => K (.bool (!Op.bytesLess a.toList b.toList))
  | .eql, .agg a, .agg b => eqS P t a.toList b.toList fun e => K (.bool e)
  | .neq, .agg a, .agg b => eqS P t a.toList b.toList fun e => K (.bool (!e))
  | .eql, .slice none _ _, .slice b _ _ => bif (match P.underlying t with | some (.slice _) => true | _ => false) then K (.bool b.isNone) else False
  | .eql, .slice a _ _, .slice none _ _ => bif (match P.underlying t with | some (.slice _) => true | _ => false) then K (.bool a.isNone) else False
  | .neq, .slice none _ _, .slice b _ _ => bif (match P.underlying t with | some (.slice _) => true | _ => false) then K (.bool (!b.isNone)) else False
  | .neq, .slice a _ _, .slice none _ _ => bif (match P.underlying t with | some (.slice _) => true | _ => false) then K (.bool (!a.isNone)) else False
  | .eql, .pointer none, .pointer b => bif (match P.underlying t with | some (.pointer _) => true | _ => false) then K (.bool b.isNone) else False
  | .eql, .pointer a, .pointer none => bif (match P.underlying t with | some (.pointer _) => true | _ => false) then K (.bool a.isNone) else False
  | .neq, .pointer none, .pointer b => bif (match P.underlying t with | some (.pointer _) => true | _ => false) then K (.bool (!b.isNone)) else False
  | .neq, .pointer a, .pointer none => bif (match P.underlying t with | some (.pointer _) => true | _ => false) then K (.bool (!a.isNone)) else False
  | .eql, .bool a, .bool b => bif (match P.underlying t with | some .bool => true | _ => false) then K (.bool (a == b)) else False
  | .neq, .bool a, .bool b => bif (match P.underlying t with | some .bool => true | _ => false) then K (.bool (!(a == b))) else False
  | _, _, _ => False

def intOf? : Option Value → Int → (Int → Prop) → Prop
  | none, d, F => F d
  | some (.int _ i), _, F => F i
  | _, _, _ => False
def fldOff (P : Program) (s : TypeId) (f : Nat) : Option Field := match P.underlying s with | some (.struct fs) => fs[f]? | _ => none
def elemOf (P : Program) (t : TypeId) : TypeId := match P.underlying t with | some (.slice e) | some (.array _ e) => e | _ => 0
def sliceB (P : Program) (t : TypeId) : Bool := match P.underlying t with | some (.slice _) => true | _ => false
def strB (P : Program) (t : TypeId) : Bool := match P.underlying t with | some .string => true | _ => false

/-- operations that look at no memory and leave it alone -/
def opP (P : Program) (ρ : Env) (o : Oper) (K : Value → Prop) : Prop :=
  match o.op with
  | .move x | .assign x => K (evl ρ x)
  | .pick c a b => match evl ρ c with
    | .bool b' => K (match b' with | true => evl ρ a | false => evl ρ b)
    | _ => False
  | .nilCheck x => match evl ρ x with
    | .pointer p => NC p fun a => K (.pointer (some a))
    | .func (.func f) x y => K (.func (.func f) x y)
    | _ => False
  | .binOp op t x y _ => binW P op t (evl ρ x) (evl ρ y) K
  | .unOp .not _ x => match evl ρ x with | .bool b => K (.bool (!b)) | _ => False
  | .unOp .neg _ x => match evl ρ x with | .int k n => K (.int k (k.wrap (0 - n))) | _ => False
  | .convert s d x => match P.underlying s, P.underlying d, evl ρ x with
    | some (.int _), some (.int k), .int _ n => K (.int k (k.wrap n))
    | some .string, some .string, .string b => K (.string b)
    | _, _, _ => False
  | .makeFunc f x y => K (.func f (x.map (evl ρ)) (y.map (evl ρ)))
  | .slice t x lo hi none => match evl ρ x with
    | .string s => bif strB P t then intOf? (lo.map (evl ρ)) 0 fun l => intOf? (hi.map (evl ρ)) s.size fun r => (0 ≤ l ∧ l ≤ r ∧ r ≤ s.size) ∧ K (.string (s.extract l.toNat r.toNat)) else False
    | .slice a n c => bif sliceB P t && isT P (elemOf P t) then intOf? (lo.map (evl ρ)) 0 fun l => intOf? (hi.map (evl ρ)) n fun r => (0 ≤ l ∧ l ≤ r ∧ r ≤ c) ∧ K (.slice (subA a l.toNat c (szOf P (elemOf P t))) (r.toNat - l.toNat) (c - l.toNat)) else False
    | .pointer (some a) => match P.underlying t with
      | some (.array n e) => bif isT P e then intOf? (lo.map (evl ρ)) 0 fun l => intOf? (hi.map (evl ρ)) n fun r => (0 ≤ l ∧ l ≤ r ∧ r ≤ n) ∧ K (.slice (subA (some a) l.toNat n (szOf P e)) (r.toNat - l.toNat) (n - l.toNat)) else False
      | _ => False
    | _ => False
  | .slice t x lo (some hi) (some mx) => match evl ρ x with
    | .slice a n c => bif sliceB P t && isT P (elemOf P t) then intOf? (lo.map (evl ρ)) 0 fun l => intOf? (some (evl ρ hi)) n fun r => intOf? (some (evl ρ mx)) c fun m =>
        (0 ≤ l ∧ l ≤ r ∧ r ≤ m ∧ m ≤ c) ∧ K (.slice (subA a l.toNat m.toNat (szOf P (elemOf P t))) (r.toNat - l.toNat) (m.toNat - l.toNat)) else False
    | _ => False
  | .fieldAddr s x f => match evl ρ x, fldOff P s f with
    | .pointer (some a), some fd => bif isT P fd.type && !Nat.beq (szOf P fd.type) 0 then K (.pointer (some (addk a fd.offset))) else False
    | _, _ => False
  | .field t x f => match evl ρ x, fldOff P t f with
    | .agg cs, some fd => bif isT P fd.type then (match aggB P fd.type with
        | true => K (.agg ⟨(cs.toList.drop fd.offset).take (szOf P fd.type)⟩)
        | false => bif Nat.blt fd.offset cs.toList.length then K (cs.toList.getD fd.offset undef) else False) else False
    | _, _ => False
  | .indexAddr t x i => match evl ρ x, evl ρ i with
    | .slice p n _, .int _ i => bif sliceB P t && isT P (elemOf P t) then NB p fun b o => (0 ≤ i ∧ i < n) ∧ K (.pointer (some ⟨b, o + i.toNat * szOf P (elemOf P t), none⟩)) else False
    | .pointer (some ⟨b, o, none⟩), .int _ i => match P.underlying t with
      | some (.array n e) => bif isT P e then (0 ≤ i ∧ i < n) ∧ K (.pointer (some ⟨b, o + i.toNat * szOf P e, none⟩)) else False
      | _ => False
    | _, _ => False
  | .index t x i => match evl ρ x, evl ρ i with
    | .string s, .int _ i => bif strB P t then (0 ≤ i ∧ i < s.size) ∧ K (.int .u8 (byteAt s i.toNat)) else False
    | .agg cs, .int _ i => match P.underlying t with
      | some (.array n e) => bif isT P e && !Nat.beq (szOf P e) 0 && Nat.beq (n * szOf P e) cs.toList.length then (0 ≤ i ∧ i < n) ∧ exKs (flat P 9 e) fun vs => (cs.toList.drop (i.toNat * szOf P e)).take (szOf P e) = vs ∧ K (pick1 (aggB P e) vs) else False
      | _ => False
    | _, _ => False
  | .extract x i => match evl ρ x with
    | .tuple vs => bif Nat.blt i vs.toList.length then K (vs.toList.getD i undef) else False
    | _ => False
  | .build t ps => match P.underlying t with
    | some (.struct fs) => bif isT P t && ((P.info? t).bind (·.zero)).isSome && fs.toList.all (fun f => isT P f.type) then fillF P fs.toList (prts ρ ps) (zeroC P t) fun l => K (.agg ⟨l⟩) else False
    | some (.array n e) => bif isT P t && ((P.info? t).bind (·.zero)).isSome && isT P e && Nat.beq (zeroC P t).length (n * szOf P e) then
        (match Nat.beq ps.toList.length n && inOrd (szOf P e) 0 (prts ρ ps) with
        | true => K (.agg ⟨catV (prts ρ ps)⟩)
        | false => fillE (szOf P e) (prts ρ ps) (zeroC P t) fun l => K (.agg ⟨l⟩)) else False
    | _ => False
  | .makeInterface t x => match P.underlying t with
    | some (.interface _) | none => False
    | _ => K (.iface t (evl ρ x))
  | .call c => match c.callee with
    | .builtin .len => match c.args.toList.map (evl ρ), c.argTypes.toList with
      | [.string s], [t] => bif strB P t then K (.int .i64 s.size) else False
      | [.slice _ n _], [t] => bif sliceB P t then K (.int .i64 n) else False
      | _, _ => False
    | .builtin .cap => match c.args.toList.map (evl ρ), c.argTypes.toList with
      | [.slice _ _ n], [t] => bif sliceB P t then K (.int .i64 n) else False
      | _, _ => False
    | .builtin .min => match c.args.toList.map (evl ρ) with
      | [.int k x, .int _ y] => K (.int k (imin x y))
      | [.int k x, .int _ y, .int _ z] => K (.int k (imin (imin x y) z))
      | _ => False
    | .builtin .max => match c.args.toList.map (evl ρ) with
      | [.int k x, .int _ y] => K (.int k (imax x y))
      | [.int k x, .int _ y, .int _ z] => K (.int k (imax (imax x y) z))
      | _ => False
    | _ => False
  | _ => False
/-- loads -/
def opL (P : Program) (ρ : Env) (o : Oper) (h : Heap) (K : Value → Prop) : Prop :=
  match o.op with
  | .load t x => match evl ρ x with
    | .pointer (some a) => bif isT P t && Nat.beq (szOf P t) (flat P 9 t).length then exKs (flat P 9 t) fun vs => cellsAt h a vs (K (pick1 (aggB P t) vs)) else False
    | _ => False
  | _ => False
/-- operations that write or make memory, or call -/
def opE (P : Program) (ρ : Env) (o : Oper) (h : Heap) (K : Value → Heap → Prop) : Prop :=
  match o.op with
  | .alloc t => match (P.info? t).bind (·.zero) with
      | some z => ∀ h' : Heap, h' = h.push (.cells z.cells t) → K (.pointer (some ⟨h.size, 0, none⟩)) h'
      | none => False
  | .box t x => ∀ h' : Heap, h' = h.push (.cells (evl ρ x).cells t) → K (.pointer (some ⟨h.size, 0, none⟩)) h'
  | .store t x y => match evl ρ x with
    | .pointer (some a) => bif isT P t && Nat.beq (szOf P t) (evl ρ y).cells.toList.length then putW h a (evl ρ y).cells.toList fun h' => K undef h' else False
    | _ => False
  | .buildSlice t n ps => bif sliceB P t && isT P (elemOf P t) && ((P.info? (elemOf P t)).bind (·.zero)).isSome && Nat.beq (zeroC P (elemOf P t)).length (szOf P (elemOf P t)) && Nat.blt 0 (szOf P (elemOf P t)) && Nat.ble (n * szOf P (elemOf P t)) 16777216 then
      (match Nat.beq ps.toList.length n && inOrd (szOf P (elemOf P t)) 0 (prts ρ ps) with
      | true => ∀ h' : Heap, h' = h.push (.cells ⟨catV (prts ρ ps)⟩ (elemOf P t)) → K (.slice (some ⟨h.size, 0, none⟩) n n) h'
      | false => fillE (szOf P (elemOf P t)) (prts ρ ps) (reps n (zeroC P (elemOf P t))) fun l => ∀ h' : Heap, h' = h.push (.cells ⟨l⟩ (elemOf P t)) → K (.slice (some ⟨h.size, 0, none⟩) n n) h') else False
  | .makeSlice t l c => match evl ρ l, evl ρ c with
    | .int _ l, .int _ c => bif sliceB P t && isT P (elemOf P t) && ((P.info? (elemOf P t)).bind (·.zero)).isSome && Nat.beq (zeroC P (elemOf P t)).length (szOf P (elemOf P t)) && Nat.blt 0 (szOf P (elemOf P t)) && Nat.blt 0 (byOf P (elemOf P t)) then
        (0 ≤ l ∧ l ≤ c ∧ byOf P (elemOf P t) * c ≤ 140737488355328) ∧ ∀ h' : Heap, h' = h.push (.cells ⟨madeL P (elemOf P t) c.toNat⟩ (elemOf P t)) → K (.slice (some ⟨h.size, 0, none⟩) l.toNat c.toNat) h' else False
    | _, _ => False
  | .convert s d x => RunW P (Go.convert s d (evl ρ x)) h fun v h' => exRes P d v fun u => K u h'
  | .lookup t m k ok => RunW P (Instr.lookup t (evl ρ m) (evl ρ k) ok) h fun v h' => exRes P o.type v fun u => K u h'
  | .mapUpdate t m k x => RunW P (Instr.mapUpdate t (evl ρ m) (evl ρ k) (evl ρ x)) h fun _ h' => K undef h'
  | .makeMap t r => RunW P (Instr.makeMap t (r.map (evl ρ))) h fun v h' => exRes P o.type v fun u => K u h'
  | .range t x => RunW P (Instr.range t (evl ρ x)) h fun v h' => ∃ a : Addr, v = .pointer (some a) ∧ K (.pointer (some a)) h'
  | .next x s => match s with
    | true => RunW P (Instr.next (evl ρ x) true o.type) h fun v h' => (v = .tuple ⟨[.bool false]⟩ ∧ K (.tuple ⟨[.bool false]⟩) h') ∨ ∃ k c : Int, v = .tuple ⟨[.bool true, .int .i64 k, .int .i32 c]⟩ ∧ K (.tuple ⟨[.bool true, .int .i64 k, .int .i32 c]⟩) h'
    | false => RunW P (Instr.next (evl ρ x) false o.type) h fun v h' => (v = .tuple ⟨[.bool false]⟩ ∧ K (.tuple ⟨[.bool false]⟩) h') ∨ ∃ k c : Value, v = .tuple ⟨[.bool true, k, c]⟩ ∧ K (.tuple ⟨[.bool true, k, c]⟩) h'
  | .call c => match c.callee with
    | .builtin .append => match c.args.toList.map (evl ρ), c.argTypes.toList with
      | [s, x], [t, u] => App P t u s x h fun r h' => K (.slice r.a r.n r.c) h'
      | _, _ => False
    | .builtin .copy => match c.args.toList.map (evl ρ), c.argTypes.toList with
      | [s, x], [t, u] => Cpy P t u s x h fun r h' => K (.int .i64 r) h'
      | _, _ => False
    | .builtin .len => RunW P (Builtin.len_ c.argTypes o.type (c.args.map (evl ρ))) h fun v h' => exRes P o.type v fun u => K u h'
    | .builtin .delete => RunW P (Builtin.delete_ c.argTypes o.type (c.args.map (evl ρ))) h fun v h' => K v h'
    | .builtin .clear => RunW P (Builtin.clear_ c.argTypes o.type (c.args.map (evl ρ))) h fun v h' => K v h'
    | .value f => match evl ρ f with
      | .func (.func g) first cap => bif callable P g then Fn P g (first ++ c.args.map (evl ρ) ++ cap) h (fun v h' => exRes P o.type v fun u => K u h') else ExtW P g (first ++ c.args.map (evl ρ) ++ cap) h (fun v h' => exRes P o.type v fun u => K u h')
      | _ => False
    | _ => False
  | _ => False
/-- 0: opP, 1: opL, 2: opE -/
def opK (P : Program) (o : Op) : Nat :=
  match o with
  | .load .. => 1
  | .alloc _ | .box .. | .store .. | .buildSlice .. | .makeSlice .. | .lookup .. | .mapUpdate .. | .makeMap .. | .range .. | .next .. => 2
  | .convert s d _ => match P.underlying s, P.underlying d with | some (.int _), some (.int _) => 0 | some .string, some .string => 0 | _, _ => 2
  | .call c => match c.callee with
    | .builtin .len => match c.argTypes.toList with | [t] => bif strB P t || sliceB P t then 0 else 2 | _ => 2
    | .builtin .cap | .builtin .min | .builtin .max => 0
    | _ => 2
  | _ => 0
def opW (P : Program) (ρ : Env) (o : Oper) (h : Heap) (K : Value → Heap → Prop) : Prop :=
  match opK P o.op with
  | 0 => opP P ρ o fun v => K v h
  | 1 => opL P ρ o h fun v => K v h
  | _ => opE P ρ o h K

/- loops and joins: typed slots -/
inductive SK where
  | one (k : Kd) | agg (ks : List Kd)
def FnKs : List Kd → Type → Type
  | [], X => X
  | k :: r, X => k.T → FnKs r X
def FnSl : List (Nat × SK) → Type → Type
  | [], X => X
  | (_, .one k) :: r, X => k.T → FnSl r X
  | (_, .agg ks) :: r, X => FnKs ks (FnSl r X)
def apKs {X : Type} : (ks : List Kd) → FnKs ks X → List Value → (X → Prop) → Prop
  | [], f, [], F => F f
  | k :: r, f, v :: vs, F => k.wth v fun x => apKs r (f x) vs F
  | _, _, _, _ => False
def apSl {X : Type} : (sl : List (Nat × SK)) → FnSl sl X → Env → (X → Prop) → Prop
  | [], f, _, F => F f
  | (s, .one k) :: r, f, ρ, F => k.wth (ρ s) fun x => apSl r (f x) ρ F
  | (s, .agg ks) :: r, f, ρ, F => match ρ s with
    | .agg cs => apKs ks f cs.toList fun f' => apSl r f' ρ F
    | _ => False
def allKs {X : Type} : (ks : List Kd) → FnKs ks X → (List Value → X → Prop) → Prop
  | [], f, F => F [] f
  | k :: r, f, F => ∀ x : k.T, allKs r (f x) fun vs f' => F (k.val x :: vs) f'
def allSl {X : Type} : (sl : List (Nat × SK)) → FnSl sl X → Env → (Env → X → Prop) → Prop
  | [], f, ρ, F => F ρ f
  | (s, .one k) :: r, f, ρ, F => ∀ x : k.T, allSl r (f x) (upd ρ s (k.val x)) F
  | (s, .agg ks) :: r, f, ρ, F => allKs ks f fun vs f' => allSl r f' (upd ρ s (.agg ⟨vs⟩)) F

inductive Ann where
  | z
  | s (l r : Ann)
  | j (sl : List (Nat × SK)) (l r : Ann)
  | b (x : Ann)
  | l (sl : List (Nat × SK)) (x : Ann)
  | c (t e : Ann)
def Ann.left : Ann → Ann | .s a _ => a | .j _ a _ => a | _ => .z
def Ann.right : Ann → Ann | .s _ a => a | .j _ _ a => a | _ => .z
def Ann.in_ : Ann → Ann | .b a => a | .l _ a => a | _ => .z
def Ann.thn : Ann → Ann | .c a _ => a | _ => .z
def Ann.els : Ann → Ann | .c _ a => a | _ => .z

def opDsts (ops : List Oper) : List Nat := ops.filterMap (·.dst)
def dsts : Code → List Nat
  | .region _ ops _ => opDsts ops.toList
  | .seq a b => dsts a ++ dsts b
  | .cond _ a b => dsts a ++ dsts b
  | .block _ a => dsts a
  | .loop a => dsts a
  | .scope a => dsts a
  | _ => []
def havoc (l : List Nat) (ρ j : Env) : Env := fun i => bif l.any (Nat.beq i) then j i else ρ i

def guardUsed (ops : List Oper) (j : Nat) : Bool := ops.any fun o => match o.guard with | some (i, _) => Nat.beq i j | none => false
def putD (n : Nat) (ρ : Env) (d : Option Nat) (v : Value) (K : Env → Prop) : Prop := match d with | some d => bif Nat.blt d n then K (upd ρ d v) else False | none => K ρ
/-- what follows an operation: a value that is some guard's answer is decided at once -/
def aftW (n : Nat) (used : Bool) (ρ : Env) (d : Option Nat) (v : Value) (K : Env → Prop) : Prop :=
  bif used then (match v with | .bool b => sB b (putD n ρ d (.bool true) K) (putD n ρ d (.bool false) K) | _ => False) else putD n ρ d v K
/-- is the guarded operation carried out -/
def gdW (all : List Oper) (ρ : Env) (g : Option (Nat × Bool)) (go skip : Prop) : Prop :=
  match g with
  | none => go
  | some (j, want) => match (all[j]?).bind (·.dst) with
    | some d => match ρ d with
      | .bool b => sB (b == want) go skip
      | _ => skip
    | none => skip
def opsW (P : Program) (n : Nat) (all : List Oper) : List Oper → Nat → Env → Heap → (Env → Heap → Prop) → Prop
  | [], _, ρ, h, K => K ρ h
  | o :: rest, i, ρ, h, K =>
    gdW all ρ o.guard
      (opW P ρ o h fun v h' => aftW n (guardUsed all i) ρ o.dst v fun ρ' => opsW P n all rest (i + 1) ρ' h' K)
      (putD n ρ o.dst undef fun ρ' => opsW P n all rest (i + 1) ρ' h K)

/- a region that draws its order -/
def listedB (l : List Nat) (i : Nat) : Bool := l.any (Nat.beq i)
def bindsB (e : Edge) : Bool := match e.ground with | .textOnly _ | .gcOnly _ => false | _ => true
/-- may operation i come up next -/
def rdyB (o : Oper) (l : List Nat) : Bool := o.after.toList.all fun e => !bindsB e || listedB l e.on
def rdyL (ops : List Oper) (l : List Nat) : Nat → List Oper → List Nat
  | _, [] => []
  | i, o :: r => bif !listedB l i && rdyB o l then i :: rdyL ops l (i + 1) r else rdyL ops l (i + 1) r
def dataE (e : Edge) : Bool := match e.ground with | .data => true | _ => false
/-- does an operation wait for i, itself or through the operations whose results it takes -/
def waitsB (ops : List Oper) (i : Nat) : Nat → Oper → Bool
  | 0, _ => false
  | f + 1, o => o.after.toList.any fun e => bindsB e && (Nat.beq e.on i || (dataE e && match ops[e.on]? with | some o' => waitsB ops i f o' | none => false))
/-- the address that a load reads -/
def adAt (ρ : Env) (o : Oper) : Option Addr := match o.op with
  | .load _ x => match evl ρ x with | .pointer a => a | _ => none
  | _ => none
def adp (i : Nat) (a : Option Addr) (ad : List (Nat × Addr)) : List (Nat × Addr) := match a with | some a => (i, a) :: ad | none => ad
/-- the addresses of the loads that an operation does not wait for -/
def keepA (ops : List Oper) (o : Oper) : List (Nat × Addr) → List Addr
  | [] => []
  | (i, a) :: r => bif waitsB ops i 9 o then keepA ops o r else a :: keepA ops o r
/-- the cells from these addresses on are as they were -/
def Sm (as : List Addr) (h h' : Heap) : Prop := ∀ a ∈ as, ∀ k v, hc h (addk a k) = some v → hc h' (addk a k) = some v
def smW (as : List Addr) (h h' : Heap) (K : Prop) : Prop := match as with | [] => K | a :: r => Sm (a :: r) h h' ∧ K
def eqOp : Option Nat → Option Nat → Bool
  | some a, some b => Nat.beq a b
  | none, none => true
  | _, _ => false
def looksL (ops : List Oper) (o : Oper) : List Nat :=
  (o.op.operands.toList.filterMap fun | .tmp t => some t | _ => none) ++ (match o.guard with | some (j, _) => ((ops[j]?).bind (·.dst)).toList | none => [])
def apartB (ops : List Oper) (x y : Oper) : Bool :=
  (match x.dst with | some d => !listedB (looksL ops y) d && !eqOp y.dst (some d) | none => true) && (match y.dst with | some d => !listedB (looksL ops x) d | none => true)
/-- may i be taken first: what has not come up waits for it or is apart from it -/
def freeB (ops : List Oper) (l : List Nat) (i : Nat) (oi : Oper) : Bool :=
  ops.zipIdx.all fun (oj, j) => Nat.beq j i || listedB l j || oj.after.toList.any (fun e => bindsB e && Nat.beq e.on i) || apartB ops oi oj
def firstQ (P : Program) (ops : List Oper) (l : List Nat) : List Nat → Option (Nat × Oper)
  | [] => none
  | i :: r => match ops[i]? with
    | some o => bif Nat.blt (opK P o.op) 2 && freeB ops l i o then some (i, o) else firstQ P ops l r
    | none => firstQ P ops l r
def selB (ops : List Oper) : Bool := ops.all fun o => match o.op with | .select .. => false | _ => true
def andAll : List Nat → (Nat → Prop) → Prop
  | [], _ => True
  | [i], F => F i
  | i :: r, F => F i ∧ andAll r F
def drawW (P : Program) (n : Nat) (ops : List Oper) : Nat → List Nat → List (Nat × Addr) → Env → Heap → (Env → Heap → Prop) → Prop
  | 0, l, ad, ρ, h, K => match rdyL ops l 0 ops with | [] => K ρ h | _ => False
  | fuel + 1, l, ad, ρ, h, K => match rdyL ops l 0 ops with
    | [] => K ρ h
    | rs => match firstQ P ops l rs with
      | some (i, o) => gdW ops ρ o.guard
          (match opK P o.op with
           | 0 => opP P ρ o fun v => aftW n (guardUsed ops i) ρ o.dst v fun ρ' => drawW P n ops fuel (i :: l) ad ρ' h K
           | _ => opL P ρ o h fun v => aftW n (guardUsed ops i) ρ o.dst v fun ρ' => drawW P n ops fuel (i :: l) (adp i (adAt ρ o) ad) ρ' h K)
          (putD n ρ o.dst undef fun ρ' => drawW P n ops fuel (i :: l) ad ρ' h K)
      | none => andAll rs fun i => match ops[i]? with
        | some o => bif Nat.beq (opK P o.op) 2 then gdW ops ρ o.guard
            (opW P ρ o h fun v h' => smW (keepA ops o ad) h h' (aftW n (guardUsed ops i) ρ o.dst v fun ρ' => drawW P n ops fuel (i :: l) ad ρ' h' K))
            (putD n ρ o.dst undef fun ρ' => drawW P n ops fuel (i :: l) ad ρ' h K) else False
        | none => False

inductive Ex where
  | n | x (id : Nat) | r
def thenQ (next : Env → Heap → Prop) (Q : Ex → Env → Heap → Prop) : Ex → Env → Heap → Prop
  | .n, ρ, h => next ρ h
  | e, ρ, h => Q e ρ h
def blockQ (id : Nat) (Q : Ex → Env → Heap → Prop) : Ex → Env → Heap → Prop
  | .x i, ρ, h => bif Nat.beq i id then Q .n ρ h else Q (.x i) ρ h
  | e, ρ, h => Q e ρ h
def codeW (P : Program) (n : Nat) : Code → Ann → (Ex → Env → Heap → Prop) → Env → Heap → Prop
  | .skip, _, Q, ρ, h => Q .n ρ h
  | .label _, _, Q, ρ, h => Q .n ρ h
  | .region _ ops draw, _, Q, ρ, h => match draw with
    | false => opsW P n ops.toList ops.toList 0 ρ h (Q .n)
    | true => bif P.follows .mixedOrders && selB ops.toList then drawW P n ops.toList ops.toList.length [] [] ρ h (Q .n) else False
  | .seq x y, A, Q, ρ, h => match A with
    | .j sl a b => ∃ J : FnSl sl (Heap → Prop), codeW P n x a (thenQ (fun ρ' h' => apSl sl J ρ' fun J' => J' h') Q) ρ h ∧
        ∀ j : Env, allSl sl J (havoc (dsts x) ρ j) fun ρ' J' => ∀ h', J' h' → codeW P n y b Q ρ' h'
    | A => codeW P n x A.left (thenQ (codeW P n y A.right Q) Q) ρ h
  | .cond c x y, A, Q, ρ, h => match evl ρ c with
    | .bool b => sB b (codeW P n x A.thn Q ρ h) (codeW P n y A.els Q ρ h)
    | _ => False
  | .block id x, A, Q, ρ, h => codeW P n x A.in_ (blockQ id Q) ρ h
  | .loop x, A, Q, ρ, h => match A with
    | .l sl a => ∃ I : FnSl sl (Heap → Nat → Prop), (∃ m, apSl sl I ρ fun I' => I' h m) ∧
        ∀ j : Env, allSl sl I (havoc (dsts x) ρ j) fun ρ' I' => ∀ h' m, I' h' m → codeW P n x a (thenQ (fun ρ'' h'' => ∃ m', m' < m ∧ apSl sl I ρ'' fun I'' => I'' h'' m') Q) ρ' h'
    | _ => False
  | .scope x, A, Q, ρ, h => codeW P n x A.in_ Q ρ h
  | .exit id, _, Q, ρ, h => Q (.x id) ρ h
  | .ret, _, Q, ρ, h => Q .r ρ h
  | _, _, _, _, _ => False

def resW (P : Program) (h : Heap) (ρ : Env) : List ResultVar → (List Value → Prop) → Prop
  | [], K => K []
  | .tmp t :: r, K => resW P h ρ r fun vs => K (ρ t :: vs)
  | .cell t ty :: r, K => match ρ t with
    | .pointer (some a) => bif isT P ty && Nat.beq (szOf P ty) (flat P 9 ty).length then exKs (flat P 9 ty) fun vs => cellsAt h a vs (resW P h ρ r fun us => K (pick1 (aggB P ty) vs :: us)) else False
    | _ => False
def retQ (P : Program) (rs : List ResultVar) (R : Value → Heap → Prop) : Ex → Env → Heap → Prop
  | .n, ρ, h | .r, ρ, h => resW P h ρ rs fun vs => match vs with | [v] => R v h | vs => R (.tuple ⟨vs⟩) h
  | _, _, _ => False
def env0 (args : Array Value) : Env := fun j => args.toList.getD j undef
def fnW (P : Program) (f : FuncId) (A : Ann) (args : Array Value) (h : Heap) (R : Value → Heap → Prop) : Prop :=
  match P.funcs[f]? with
  | some fn => match fn.body with
    | some c => bif Nat.ble args.toList.length fn.ntmps then codeW P fn.ntmps c A (retQ P fn.results.toList R) (env0 args) h else False
    | none => False
  | none => False
end Go.VC
