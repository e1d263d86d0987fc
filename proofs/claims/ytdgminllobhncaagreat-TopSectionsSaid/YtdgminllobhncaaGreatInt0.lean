/-
  An interpreter of closed runs. Values are logical: a pointer names a block of the run by a number, a slice a row; where these lie, and how much room a row has, is left open. It answers none where it does not know.
-/
import Derived.Test.YtdgminllobhncaaGreatTree
namespace Go.Hy.Ix
set_option linter.unusedVariables false
set_option linter.unusedSimpArgs false
set_option maxHeartbeats 2000000
set_option maxRecDepth 10000
open Go.RowKit Go.ChangeShapes

inductive Vx where
  | int (k : IntKind) (n : Int)
  | bool (b : Bool)
  | str (s : ByteArray)
  | nilp
  | nils
  | nilf
  | ptr (b o : Nat)
  | sl (b n : Nat)
  | fn (f : FuncId) (caps : List Vx)
  | agg (cs : List Vx)
  | tup (vs : List Vx)
  deriving Inhabited
/-- Where a block lies: its index, the place in it, the room. -/
structure Gh where
  g : Nat
  o : Nat
  c : Nat
mutual
def Vx.val (σ : Nat → Option Gh) : Vx → Option Value
  | .int k n => some (.int k n)
  | .bool b => some (.bool b)
  | .str s => some (.string s)
  | .nilp => some (.pointer none)
  | .nils => some (.slice none 0 0)
  | .nilf => some .nilFunc
  | .ptr b q => match σ b with
    | some h => some (.pointer (some ⟨h.g, h.o + q, none⟩))
    | none => none
  | .sl b n => match σ b with
    | some h => some (.slice (some ⟨h.g, h.o, none⟩) n h.c)
    | none => none
  | .fn f cs => match vals σ cs with
    | some vs => some (.func (.func f) #[] vs.toArray)
    | none => none
  | .agg cs => match vals σ cs with
    | some vs => some (.agg vs.toArray)
    | none => none
  | .tup cs => match vals σ cs with
    | some vs => some (.tuple vs.toArray)
    | none => none
def vals (σ : Nat → Option Gh) : List Vx → Option (List Value)
  | [] => some []
  | r :: l => match r.val σ with
    | none => none
    | some v => match vals σ l with
      | none => none
      | some vs => some (v :: vs)
end
/-- A value without places. -/
def Vx.ofA : Value → Option Vx
  | .int k n => some (.int k n)
  | .bool b => some (.bool b)
  | .string s => some (.str s)
  | .pointer none => some .nilp
  | .slice none 0 0 => some .nils
  | .nilFunc => some .nilf
  | _ => none
def ofAs : List Value → Option (List Vx)
  | [] => some []
  | v :: l => match Vx.ofA v with
    | none => none
    | some r => match ofAs l with
      | none => none
      | some rs => some (r :: rs)
def Vx.of : Value → Option Vx
  | .agg cs => match ofAs cs.toList with
    | some rs => some (.agg rs)
    | none => none
  | .tuple cs => match ofAs cs.toList with
    | some rs => some (.tup rs)
    | none => none
  | v => Vx.ofA v
def Vx.cells : Vx → List Vx
  | .agg cs => cs
  | r => [r]
def Vx.one : Vx → Bool
  | .agg _ => false
  | .tup _ => false
  | _ => true

mutual
def Vx.eq : Vx → Vx → Bool
  | .int k n, .int k' n' => decide (k = k') && decide (n = n')
  | .bool a, .bool b => a == b
  | .nilp, .nilp => true
  | .nils, .nils => true
  | .nilf, .nilf => true
  | .ptr b q, .ptr b' q' => Nat.beq b b' && Nat.beq q q'
  | .sl b q, .sl b' q' => Nat.beq b b' && Nat.beq q q'
  | .fn f cs, .fn f' cs' => Nat.beq f f' && eqs cs cs'
  | .agg cs, .agg cs' => eqs cs cs'
  | .tup cs, .tup cs' => eqs cs cs'
  | _, _ => false
def eqs : List Vx → List Vx → Bool
  | [], [] => true
  | a :: l, b :: l' => a.eq b && eqs l l'
  | _, _ => false
end
/-- What is known of a block. -/
inductive Ent where
  | blk (T : TypeId) (cs : List Vx)
  | row (e : TypeId) (sz n : Nat) (xs : List Vx)
  | dead
def Ent.eq : Ent → Ent → Bool
  | .blk T cs, .blk T' cs' => Nat.beq T T' && eqs cs cs'
  | .row e sz n xs, .row e' sz' n' xs' => Nat.beq e e' && Nat.beq sz sz' && Nat.beq n n' && eqs xs xs'
  | _, _ => false
/-- A table by numbers. -/
inductive Tr (α : Type) where
  | e
  | n (v : Option α) (l r : Tr α)
def Tr.get {α : Type} : Tr α → Nat → Option α
  | .e, _ => none
  | .n v l r, k => bif Nat.beq k 0 then v else bif Nat.beq (Nat.land k 1) 0 then r.get (Nat.sub (Nat.div k 2) 1) else l.get (Nat.div k 2)
def Tr.put {α : Type} : Tr α → Nat → α → Tr α
  | .e, _, _ => .e
  | .n v l r, k, x => bif Nat.beq k 0 then .n (some x) l r else bif Nat.beq (Nat.land k 1) 0 then .n v l (r.put (Nat.sub (Nat.div k 2) 1) x) else .n v (l.put (Nat.div k 2) x) r
def Tr.full {α : Type} : Nat → Tr α
  | 0 => .e
  | d + 1 => .n none (Tr.full d) (Tr.full d)
structure Sgm where
  nx : Nat
  mem : Tr Ent
def Sgm.nil : Sgm := ⟨0, Tr.full 10⟩
def Ent.cells : Ent → Option (List Vx)
  | .blk _ cs => some cs
  | .row _ _ _ xs => some xs
  | .dead => none
def lk {α : Type} : List (Nat × α) → Nat → Option α
  | [], _ => none
  | (k, v) :: r, t => bif Nat.beq k t then some v else lk r t
abbrev Ev := Tr Vx

def evx (ρ : Ev) : Operand → Option Vx
  | .tmp t => ρ.get t
  | .const v => Vx.of v
  | .func f => some (.fn f [])
  | .global _ => none
def evxs (ρ : Ev) : List Operand → Option (List Vx)
  | [] => some []
  | x :: xs => match evx ρ x with
    | none => none
    | some v => match evxs ρ xs with
      | none => none
      | some vs => some (v :: vs)
def evxp (ρ : Ev) : List (Nat × Operand) → Option (List (Nat × Vx))
  | [] => some []
  | (i, x) :: xs => match evx ρ x with
    | none => none
    | some v => match evxp ρ xs with
      | none => none
      | some vs => some ((i, v) :: vs)
def evc (ρ : Ev) (x : Operand) : Option Value := match evx ρ x with
  | some r => r.val (fun _ => none)
  | none => none
/-- What needs no world. -/
def semEv {α : Type} (P : Program) : Sem α → Option α
  | .pure a => some a
  | .program k => semEv P (k P)
  | _ => none

def aggD : TypeDesc → Bool
  | .struct _ => true
  | .array _ _ => true
  | _ => false
def szP (P : Program) (T : TypeId) : Option Nat := (P.info? T).map (·.size)
def ldx (P : Program) (T : TypeId) (cells : Option (List Vx)) (q : Nat) : Option Vx := match cells with
  | none => none
  | some cs => match P.underlying T with
    | none => none
    | some d => bif aggD d then (match szP P T with
        | some s => bif Nat.ble (q + s) cs.length then some (.agg ((cs.drop q).take s)) else none
        | none => none)
      else cs[q]?
def fieldOff (P : Program) (T : TypeId) (f : Nat) : Option Nat := match P.underlying T with
  | some (.struct fs) => match fs[f]? with
    | some fd => match szP P fd.type with
      | some (_ + 1) => some fd.offset
      | _ => none
    | none => none
  | _ => none
def elemSz (P : Program) (T : TypeId) : Option Nat := match P.underlying T with
  | some (.slice e) => szP P e
  | _ => none
structure EI where
  e : TypeId
  sz : Nat
  bytes : Nat
  zs : List Vx
def elI (P : Program) (T : TypeId) : Option EI := match P.underlying T with
  | some (.slice e) => match P.info? e with
    | some i => match i.zero with
      | some z => match ofAs z.cells.toList with
        | some zs => bif Nat.beq zs.length i.size && Nat.blt 0 i.size && zs.all Vx.one then some ⟨e, i.size, i.bytes, zs⟩ else none
        | none => none
      | none => none
    | none => none
  | _ => none
def putX (cs : List Vx) (off : Nat) (vs : List Vx) : List Vx := cs.take off ++ vs ++ cs.drop (off + vs.length)
def fillX (pl : Nat → Option (Nat × Nat)) : List Vx → List (Nat × Vx) → Option (List Vx)
  | cs, [] => some cs
  | cs, (i, v) :: r => match pl i with
    | none => none
    | some (off, size) => bif Nat.beq v.cells.length size && Nat.ble (off + size) cs.length then fillX pl (putX cs off v.cells) r else none
def repX : Nat → List Vx → List Vx
  | 0, _ => []
  | n + 1, l => l ++ repX n l
def places (P : Program) : List Field → Option (List (Nat × Nat))
  | [] => some []
  | f :: fs => match szP P f.type with
    | none => none
    | some s => match places P fs with
      | none => none
      | some l => some ((f.offset, s) :: l)
def buildX (P : Program) (T : TypeId) (parts : List (Nat × Vx)) : Option Vx :=
  match (P.info? T).bind (·.zero) with
  | none => none
  | some z => match ofAs z.cells.toList with
    | none => none
    | some zs => match P.underlying T with
      | some (.struct fs) => match places P fs.toList with
        | none => none
        | some pl => match fillX (pl[·]?) zs parts with
          | some out => some (.agg out)
          | none => none
      | some (.array _ e) => match szP P e with
        | none => none
        | some s => match fillX (fun i => some (i * s, s)) zs parts with
          | some out => some (.agg out)
          | none => none
      | _ => none
/-- Is it the nil slice? -/
def nilS : Vx → Option Bool
  | .sl _ _ => some false
  | .nils => some true
  | _ => none

/-- Operations that leave the world as it is. -/
def pv (P : Program) (m : Nat → Option Ent) (ρ : Ev) : Op → Option Vx
  | .move x => evx ρ x
  | .assign x => evx ρ x
  | .pick c x y => match evx ρ c with
    | some (.bool b) => bif b then evx ρ x else evx ρ y
    | _ => none
  | .load T x => match evx ρ x with
    | some (.ptr b q) => match m b with
      | some e => ldx P T e.cells q
      | none => none
    | _ => none
  | .nilCheck x => match evx ρ x with
    | some (.ptr b q) => some (.ptr b q)
    | _ => none
  | .fieldAddr T x f => match evx ρ x with
    | some (.ptr b q) => match fieldOff P T f with
      | some off => some (.ptr b (q + off))
      | none => none
    | _ => none
  | .indexAddr T x y => match evx ρ x with
    | some (.sl b n) => match evx ρ y with
      | some (.int _ i) => match elemSz P T with
        | some sz => bif decide (0 ≤ i) && decide (i < n) then some (.ptr b (i.toNat * sz)) else none
        | none => none
      | _ => none
    | _ => none
  | .extract x i => match evx ρ x with
    | some (.tup vs) => vs[i]?
    | _ => none
  | .makeFunc (.func f) first caps => bif first.isEmpty then (match evxs ρ caps.toList with
      | some cs => some (.fn f cs)
      | none => none) else none
  | .build T parts => match evxp ρ parts.toList with
    | some ps => buildX P T ps
    | none => none
  | .binOp op t x y _ => match evc ρ x with
    | some v => (match evc ρ y with
      | some u => match semEv P (do eqGuard op t x y v u; binOp op t v u) with
        | some r => Vx.of r
        | none => none
      | none => none)
    | none => match evx ρ x with
      | some (.sl _ _) => (match evx ρ y with
        | some .nils => (match P.underlying t with
          | some (.slice _) => (match op with
            | .eql => some (.bool false)
            | .neq => some (.bool true)
            | _ => none)
          | _ => none)
        | _ => none)
      | _ => none
  | .unOp op _ x => match evc ρ x with
    | some v => (match semEv P (Op.unary op v) with
      | some r => Vx.of r
      | none => none)
    | none => none
  | .convert s d x => match evc ρ x with
    | some v => (match semEv P (convert s d v) with
      | some r => Vx.of r
      | none => none)
    | none => none
  | .index t x y => match evc ρ x with
    | some v => (match evc ρ y with
      | some u => match semEv P (Instr.index t v u) with
        | some r => Vx.of r
        | none => none
      | none => none)
    | none => none
  | .call { callee := .builtin .len, args, argTypes } => match args.toList, argTypes.toList with
    | [x], [T] => match P.underlying T with
      | some (.slice _) => (match evx ρ x with
        | some (.sl _ n) => some (.int .i64 n)
        | some .nils => some (.int .i64 0)
        | _ => none)
      | _ => none
    | _, _ => none
  | .call { callee := .builtin .max, args, .. } => match args.toList with
    | [x, y] => match evx ρ x with
      | some (.int .i64 m) => (match evx ρ y with
        | some (.int .i64 n) => some (.int .i64 (max m n))
        | _ => none)
      | _ => none
    | _ => none
  | .call { callee := .builtin .min, args, .. } => match args.toList with
    | [x, y] => match evx ρ x with
      | some (.int .i64 m) => (match evx ρ y with
        | some (.int .i64 n) => some (.int .i64 (min m n))
        | _ => none)
      | _ => none
    | _ => none
  | _ => none

def Sgm.get (s : Sgm) (b : Nat) : Option Ent := s.mem.get b
def Sgm.add (s : Sgm) (e : Ent) : Sgm := ⟨s.nx + 1, s.mem.put s.nx e⟩
def Sgm.upd (s : Sgm) (b : Nat) (e : Ent) : Sgm := ⟨s.nx, s.mem.put b e⟩
/-- The elements of what is appended. -/
def newsX (s : Sgm) (e : TypeId) (sz : Nat) : Vx → Option (Nat × List Vx)
  | .nils => some (0, [])
  | .sl b n => match s.get b with
    | some (.row e' sz' n' xs) => bif Nat.beq e' e && Nat.beq sz' sz && Nat.beq n' n then some (n, xs) else none
    | _ => none
  | _ => none
/-- Operations that turn the world. -/
def hv (P : Program) (ρ : Ev) (s : Sgm) : Op → Option (Vx × Sgm)
  | .alloc T => match (P.info? T).bind (·.zero) with
    | some z => (match ofAs z.cells.toList with
      | some cs => some (.ptr s.nx 0, s.add (.blk T cs))
      | none => none)
    | none => none
  | .box T x => match evx ρ x with
    | some r => some (.ptr s.nx 0, s.add (.blk T r.cells))
    | none => none
  | .store T x y => match evx ρ x with
    | some (.ptr b q) => (match evx ρ y with
      | some r => (match szP P T with
        | some z => bif Nat.beq r.cells.length z && r.cells.all Vx.one then
            (match s.get b with
            | some (.blk t cs) => bif Nat.ble (q + z) cs.length then some (.tup [], s.upd b (.blk t (putX cs q r.cells))) else none
            | some (.row e sz n xs) => bif Nat.ble (q + z) xs.length then some (.tup [], s.upd b (.row e sz n (putX xs q r.cells))) else none
            | _ => none) else none
        | none => none)
      | none => none)
    | _ => none
  | .makeSlice T x y => match evx ρ x with
    | some (.int .i64 l) => (match evx ρ y with
      | some (.int .i64 c) => (match elI P T with
        | some i => bif decide (0 ≤ l) && decide (l = c) && decide (c ≤ 1000) && Nat.ble i.bytes 1000 then some (.sl s.nx l.toNat, s.add (.row i.e i.sz l.toNat (repX l.toNat i.zs))) else none
        | none => none)
      | _ => none)
    | _ => none
  | .buildSlice T n parts => match evxp ρ parts.toList with
    | some ps => (match elI P T with
      | some i => bif Nat.beq n 0 && ps.isEmpty then some (.sl s.nx 0, s.add (.row i.e i.sz 0 [])) else bif Nat.ble n 1000 && Nat.blt 0 n && Nat.ble i.sz 1000 then (match fillX (fun k => some (k * i.sz, i.sz)) (repX n i.zs) ps with
        | some out => bif out.all Vx.one then some (.sl s.nx n, s.add (.row i.e i.sz n out)) else none
        | none => none) else none
      | none => none)
    | none => none
  | .call { callee := .builtin .append, args, argTypes } => match args.toList, argTypes.toList with
    | [x, y], [T, T'] => bif Nat.beq T T' then (match elI P T with
      | some i => (match evx ρ y with
        | some w => (match newsX s i.e i.sz w with
          | some (k, new) => bif Nat.ble i.bytes 1000 && Nat.blt 0 k && new.all Vx.one then (match evx ρ x with
            | some .nils => bif Nat.ble k 1000 then some (.sl s.nx k, s.add (.row i.e i.sz k new)) else none
            | some (.sl b n) => (match s.get b with
              | some (.row e' sz' n' xs) => bif Nat.beq e' i.e && Nat.beq sz' i.sz && Nat.beq n' n && Nat.ble (n + k) 1000 then some (.sl s.nx (n + k), (s.upd b .dead).add (.row i.e i.sz (n + k) (xs ++ new))) else none
              | _ => none)
            | _ => none) else none
          | none => none)
        | none => none)
      | none => none) else none
    | _, _ => none
  | _ => none

abbrev CallX := FuncId → List Vx → Sgm → Option (Vx × Sgm)
def opx (call : CallX) (P : Program) (ρ : Ev) (s : Sgm) (o : Op) : Option (Vx × Sgm) :=
  match pv P s.get ρ o with
  | some r => some (r, s)
  | none => match o with
    | .call { callee := .value x, args, .. } => match evx ρ x with
      | some (.fn f cs) => (match evxs ρ args.toList with
        | some as => call f (as ++ cs) s
        | none => none)
      | _ => none
    | o => hv P ρ s o
def wx (ops : Array Oper) (ρ : Ev) : Option (Nat × Bool) → Option Bool
  | none => some true
  | some (j, b) => match (ops[j]?).bind (·.dst) with
    | some d => match ρ.get d with
      | some (.bool c) => some (c == b)
      | some (.tup _) => some false
      | _ => none
    | none => none
def putx (N : Nat) (ρ : Ev) (d : Option Nat) (r : Vx) : Option Ev := match d with
  | none => some ρ
  | some d => bif Nat.blt d N then some (ρ.put d r) else none
def stepx (call : CallX) (P : Program) (N : Nat) (ops : Array Oper) (ρ : Ev) (s : Sgm) (o : Oper) : Option (Ev × Sgm) :=
  match wx ops ρ o.guard with
  | some true => match opx call P ρ s o.op with
    | some (r, s') => match putx N ρ o.dst r with
      | some ρ' => some (ρ', s')
      | none => none
    | none => none
  | some false => match putx N ρ o.dst (.tup []) with
    | some ρ' => some (ρ', s)
    | none => none
  | none => none
def listx (call : CallX) (P : Program) (N : Nat) (ops : Array Oper) : List Oper → Ev → Sgm → Option (Ev × Sgm)
  | [], ρ, s => some (ρ, s)
  | o :: r, ρ, s => match stepx call P N ops ρ s o with
    | some (ρ', s') => listx call P N ops r ρ' s'
    | none => none

/-! ### Regions that draw their order -/
def isNew : Op → Bool
  | .alloc _ => true
  | .box _ _ => true
  | .makeSlice _ _ _ => true
  | .buildSlice _ _ _ => true
  | _ => false
def isCall : Op → Bool
  | .call { callee := .value _, .. } => true
  | _ => false
def isPv : Op → Bool
  | .move _ => true
  | .assign _ => true
  | .pick _ _ _ => true
  | .load _ _ => true
  | .nilCheck _ => true
  | .fieldAddr _ _ _ => true
  | .indexAddr _ _ _ => true
  | .extract _ _ => true
  | .makeFunc _ _ _ => true
  | .build _ _ => true
  | .binOp _ _ _ _ _ => true
  | .unOp _ _ _ => true
  | .convert _ _ _ => true
  | .index _ _ _ => true
  | .call { callee := .builtin .len, .. } => true
  | .call { callee := .builtin .max, .. } => true
  | .call { callee := .builtin .min, .. } => true
  | _ => false
/-- A value that does not hang on the order. -/
def qv (P : Program) (m : Nat → Option Ent) (ops : Array Oper) (ρ : Ev) (o : Oper) : Option Vx := match wx ops ρ o.guard with
  | some true => pv P m ρ o.op
  | some false => some (.tup [])
  | none => none
structure Dw where
  P : Program
  N : Nat
  ops : Array Oper
  ds : List Nat
  ms : List Nat
  kp : Nat
  full : Nat
  mode : Nat
  exT : List TypeId
/-- A stretch of a region: what quiet operations may read, and which operations leave that as it is. -/
structure Ph where
  phm : Nat
  m : Nat → Option Ent
  rd : Option (List (Nat × Ent))
/-- The first quiet one of these; 'true': it looks into the memory. -/
def firstQ (D : Dw) (F : Ph) (ρ : Ev) (lm : Nat) : List Nat → Option (Nat × Bool × Option Nat × Vx)
  | [] => none
  | i :: is => match D.ops[i]? with
    | none => none
    | some o => match qv D.P (fun _ => none) D.ops ρ o with
      | some r => bif pend D.ops o i D.full lm D.ms 0 then some (i, false, o.dst, r) else firstQ D F ρ lm is
      | none => match qv D.P F.m D.ops ρ o with
        | some r => bif pend D.ops o i F.phm lm D.ms 0 then some (i, true, o.dst, r) else firstQ D F ρ lm is
        | none => firstQ D F ρ lm is
/-- Two new variables, in either order. -/
def twoA (D : Dw) (ρ : Ev) (s : Sgm) (lm i j : Nat) : Option (Ev × Sgm) :=
  match D.ops[i]? with
  | some ⟨some d, .alloc T, _, _, _, none⟩ => match D.ops[j]? with
    | some ⟨some d', .alloc T', _, _, _, none⟩ =>
      bif Nat.blt d D.N && Nat.blt d' D.N && !(Nat.beq d d') && !(Nat.beq i j) && Nat.beq (Nat.land (D.ds.getD i 0) (lm ||| (1 <<< j))) (D.ds.getD i 0) && Nat.beq (Nat.land (D.ds.getD j 0) (lm ||| (1 <<< i))) (D.ds.getD j 0) &&
        none_ready j (lm ||| (1 <<< i)) D.ds 0 && none_ready i (lm ||| (1 <<< j)) D.ds 0 then
        (match hv D.P ρ s (.alloc T) with
        | some (r, s1) => match hv D.P ρ s1 (.alloc T') with
          | some (r', s2) => some ((ρ.put d r).put d' r', s2)
          | none => none
        | none => none)
      else none
    | _ => none
  | _ => none
/-- Is the class of the quiet operations still met behind a heavy one? -/
def kept (F : Ph) (ρ : Ev) (o : Op) (s' : Sgm) : Bool := match F.rd with
  | none => match o with
    | .store _ x _ => (match evx ρ x with
      | some (.ptr b _) => (F.m b).isNone
      | _ => false)
    | .call { callee := .builtin .append, args, .. } => (match args.toList with
      | [x, _] => (match evx ρ x with
        | some (.sl b _) => (F.m b).isNone
        | some .nils => true
        | _ => false)
      | _ => false)
    | o => isNew o
  | some rd => rd.all fun p => match s'.get p.1 with
    | some e => p.2.eq e
    | none => false
/-- What the operations of a region read at once. -/
def readsX (ρ : Ev) (s : Sgm) : List Oper → List (Nat × Ent)
  | [] => []
  | o :: r => match (match o.op with
      | .load _ x => evx ρ x
      | .fieldAddr _ x _ => evx ρ x
      | .indexAddr _ x _ => evx ρ x
      | _ => none) with
    | some (.ptr b _) => (match s.get b with
      | some e => (b, e) :: readsX ρ s r
      | none => readsX ρ s r)
    | some (.sl b _) => (match s.get b with
      | some e => (b, e) :: readsX ρ s r
      | none => readsX ρ s r)
    | _ => readsX ρ s r
/-- Those that keep and do not wait for one that does not. -/
def phOf (kp cl lm : Nat) : List Nat → Nat → Nat → Nat
  | [], _, m => m
  | a :: ms, j, m => phOf kp cl lm ms (j + 1) (bif kp.testBit j && !lm.testBit j && Nat.beq (a &&& cl) 0 then m ||| (1 <<< j) else m)
def exM (ts : List TypeId) (bs : List Nat) (s : Sgm) (b : Nat) : Option Ent := bif bs.contains b then none else match s.get b with
  | some (.row e sz n xs) => bif ts.contains e then none else some (.row e sz n xs)
  | r => r
/-- The blocks into which something is stored. -/
def storesX (ρ : Ev) : List Oper → List Nat
  | [] => []
  | o :: r => match o.op with
    | .store _ x _ => (match evx ρ x with
      | some (.ptr b _) => b :: storesX ρ r
      | _ => storesX ρ r)
    | _ => storesX ρ r
def mkPh (D : Dw) (ρ : Ev) (s : Sgm) (lm : Nat) : Ph :=
  let phm := phOf D.kp (Nat.xor D.full (D.kp ||| lm)) lm D.ms 0 0
  match D.mode with
  | 0 => ⟨phm, exM D.exT [] s, none⟩
  | 1 => ⟨phm, exM D.exT (storesX ρ D.ops.toList) s, none⟩
  | _ => let rd := readsX ρ s D.ops.toList
    ⟨phm, lk rd, some rd⟩
/-- All that keep have come up. -/
def behind (phm lm : Nat) : Bool := Nat.beq (phm &&& lm) phm
def drw (call : CallX) (D : Dw) : Nat → Nat → Ph → Ev → Sgm → Option (Ev × Sgm)
  | 0, lm, _, ρ, s => bif Nat.beq lm D.full then some (ρ, s) else none
  | n + 1, lm, F, ρ, s =>
    match readyM D.ds lm with
    | [] => none
    | rs => match firstQ D F ρ lm rs with
      | some (i, _, d, r) => match putx D.N ρ d r with
        | some ρ' => drw call D n (lm ||| (1 <<< i)) F ρ' s
        | none => none
      | none => match rs with
        | [i] => match D.ops[i]? with
          | some o => match stepx call D.P D.N D.ops ρ s o with
            | some (ρ', s') => bif F.phm.testBit i then (bif kept F ρ o.op s' then drw call D n (lm ||| (1 <<< i)) F ρ' s' else none)
              else (bif behind F.phm (lm ||| (1 <<< i)) then drw call D n (lm ||| (1 <<< i)) (mkPh D ρ' s' (lm ||| (1 <<< i))) ρ' s' else none)
            | none => none
          | none => none
        | [i, j] => match n with
          | 0 => none
          | n + 1 => bif F.rd.isNone then (match twoA D ρ s lm i j with
            | some (ρ', s') => drw call D n (lm ||| (1 <<< i) ||| (1 <<< j)) F ρ' s'
            | none => none) else none
        | _ => none
/-- Is this a store into a variable that is new here? -/
def stN (ts : List Nat) : Op → Bool
  | .store _ (.tmp t) _ => ts.contains t
  | _ => false
def newT : List Oper → List Nat
  | [] => []
  | ⟨some d, .alloc _, _, _, _, _⟩ :: r => d :: newT r
  | _ :: r => newT r
/-- Is this a store into a variable that was there? -/
def stO (l : List Oper) : Op → Bool
  | .store _ (.tmp t) _ => l.all fun o => match o.dst with
    | some d => !(Nat.beq d t)
    | none => true
  | _ => false
def phmask (p : Op → Bool) : List Oper → Nat → Nat → Nat
  | [], _, m => m
  | o :: r, i, m => phmask p r (i + 1) (bif p o.op then m ||| (1 <<< i) else m)
def ancL (ds : List Nat) : List Nat → List Nat → Nat → List Nat
  | [], ms, _ => ms
  | d :: r, ms, j => ancL ds r (ms ++ [upTo d ms j]) (j + 1)
def isApp : Op → Bool
  | .call { callee := .builtin .append, .. } => true
  | _ => false
def appT (P : Program) : List Oper → List TypeId
  | [] => []
  | o :: r => match o.op with
    | .call { callee := .builtin .append, argTypes, .. } => (match argTypes.toList with
      | T :: _ => (match P.underlying T with
        | some (.slice e) => e :: appT P r
        | _ => appT P r)
      | _ => appT P r)
    | _ => appT P r
/-- Which operations keep what the quiet ones read. 0: new blocks, appends (rows of their types are not read), stores into variables that are new here; 1: and stores into variables that were there (they are not read); 2: calls, which are looked at, of the memory some blocks are read. -/
def keepX (P : Program) (mode : Nat) (l : List Oper) (o : Op) : Bool := isPv o || isNew o || (match mode with
  | 0 => isApp o || stN (newT l) o
  | 1 => isApp o || stN (newT l) o || stO l o
  | _ => isCall o)
def mkDw (P : Program) (N : Nat) (ops : Array Oper) (mode : Nat) : Dw :=
  let ds := ops.toList.map dmask
  { P, N, ops, ds, ms := ancL ds ds [] 0, kp := phmask (keepX P mode ops.toList) ops.toList 0 0, full := 2 ^ ds.length - 1, mode, exT := appT P ops.toList }
def okDw (D : Dw) : Bool := okAnc D.ds D.ms && Nat.beq D.ms.length D.ds.length && D.P.follows .mixedOrders && Region.noSelect D.ops
def drx (call : CallX) (D : Dw) (ρ : Ev) (s : Sgm) : Option (Ev × Sgm) := bif okDw D then drw call D D.ops.size 0 (mkPh D ρ s 0) ρ s else none

/-! ### Code -/
def argE : Nat → List Vx → Ev
  | _, [] => Tr.full 10
  | i, v :: vs => (argE (i + 1) vs).put i v
def rvx (P : Program) (s : Sgm) (ρ : Ev) : ResultVar → Option Vx
  | .tmp t => ρ.get t
  | .cell t T => match ρ.get t with
    | some (.ptr b q) => match s.get b with
      | some e => ldx P T e.cells q
      | none => none
    | _ => none
def rvxs (P : Program) (s : Sgm) (ρ : Ev) : List ResultVar → Option (List Vx)
  | [] => some []
  | x :: xs => match rvx P s ρ x with
    | none => none
    | some v => match rvxs P s ρ xs with
      | none => none
      | some vs => some (v :: vs)
def retx : List Vx → Vx
  | [r] => r
  | l => .tup l
def isRet : Exit → Bool
  | .ret => true
  | .normal => true
  | _ => false
def enterx (P : Program) (run : Nat → Code → Ev → Sgm → Option (Exit × Ev × Sgm)) : CallX := fun f args s =>
  match P.funcs[f]? with
  | none => none
  | some fn => match fn.body with
    | none => none
    | some c => bif Nat.ble args.length fn.ntmps && !(fn.name == "runtime.NumGoroutine") then (match run fn.ntmps c (argE 0 args) s with
      | some (e, ρ', s') => bif isRet e then (match rvxs P s' ρ' fn.results.toList with
        | some rs => some (retx rs, s')
        | none => none) else none
      | none => none) else none
def ex (P : Program) : Nat → Nat → Code → Ev → Sgm → Option (Exit × Ev × Sgm)
  | 0, _, _, _, _ => none
  | n + 1, N, c, ρ, s => match c with
    | .skip => some (.normal, ρ, s)
    | .ret => some (.ret, ρ, s)
    | .exit i => some (.exit i, ρ, s)
    | .seq x y => match ex P n N x ρ s with
      | some (.normal, ρ', s') => ex P n N y ρ' s'
      | r => r
    | .cond c x y => match evx ρ c with
      | some (.bool b) => bif b then ex P n N x ρ s else ex P n N y ρ s
      | _ => none
    | .block id c => match ex P n N c ρ s with
      | some (.exit i, ρ', s') => bif Nat.beq i id then some (.normal, ρ', s') else some (.exit i, ρ', s')
      | r => r
    | .loop c => match ex P n N c ρ s with
      | some (.normal, ρ', s') => ex P n N (.loop c) ρ' s'
      | r => r
    | .region _ ops false => match listx (enterx P (ex P n)) P N ops ops.toList ρ s with
      | some (ρ', s') => some (.normal, ρ', s')
      | none => none
    | .region _ ops true =>
      match drx (enterx P (ex P n)) (mkDw P N ops 0) ρ s with
      | some (ρ', s') => some (.normal, ρ', s')
      | none => match drx (enterx P (ex P n)) (mkDw P N ops 1) ρ s with
        | some (ρ', s') => some (.normal, ρ', s')
        | none => match drx (enterx P (ex P n)) (mkDw P N ops 2) ρ s with
          | some (ρ', s') => some (.normal, ρ', s')
          | none => none
    | _ => none
def runx (P : Program) (n : Nat) (f : FuncId) : Option Vx := match enterx P (ex P n) f [] Sgm.nil with
  | some (r, _) => some r
  | none => none
end Go.Hy.Ix
