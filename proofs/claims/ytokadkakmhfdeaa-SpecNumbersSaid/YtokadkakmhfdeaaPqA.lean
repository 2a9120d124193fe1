/- The flat executor: abstract values, the abstract heap, what each operation does to them. No program in sight: the types come in by a table. -/
import Derived.WalkKit
set_option linter.unusedVariables false
namespace Go.Proofs.Ytokadkakmhfdeaa.Pq

/-- Values whose addresses name abstract blocks (number and version). -/
inductive AV where
  | bad
  | int (k : IntKind) (n : Int)
  | bool (b : Bool)
  | str (s : ByteArray)
  | nilS | nilP | nilF | nilI | mtS
  | sl (b ver off n es : Nat) (full : Bool)
  | ptr (b ver off : Nat)
  | agg (cs : List AV)
  | tup (vs : List AV)
  | func (g : Nat) (caps : List AV)
  deriving Inhabited

/-- A block: its version, its cells; may it be appended behind its end; is it nobody else's. -/
structure Blk where
  ver : Nat
  cells : List AV
  tail : Bool
  solo : Bool
  deriving Inhabited

/-- The abstract memory: blocks, and the next version. -/
structure Hp where
  bs : List Blk
  c : Nat
  deriving Inhabited

/-- What is known of a type. -/
inductive TD where
  | bool | int (k : IntKind) | str | slice (e : Nat) | array (n e : Nat) | struct (fs : List (Nat × Nat)) | ptr (e : Nat) | func | other
  deriving Inhabited
structure TI where
  d : TD
  size : Nat
  bytes : Nat
  zero : List AV
  deriving Inhabited
abbrev Tab := Nat → Option TI

abbrev Sl := List (Nat × AV)
def get : Sl → Nat → AV
  | [], _ => .bad
  | (j, v) :: l, i => if i = j then v else get l i

def ofConst : Value → AV
  | .int k n => .int k n
  | .bool b => .bool b
  | .string s => .str s
  | .slice none 0 0 => .nilS
  | .pointer none => .nilP
  | .nilFunc => .nilF
  | .nilIface => .nilI
  | _ => .bad

def ev (s : Sl) : Operand → AV
  | .tmp t => get s t
  | .const v => ofConst v
  | .func f => .func f []
  | .global _ => .bad

def AV.cells : AV → List AV
  | .agg cs => cs
  | v => [v]
def AV.one : AV → Bool
  | .agg _ | .tup _ | .bad => false
  | _ => true

/-- What a type is; 'other' where nothing is known. -/
def Tab.d (T : Tab) (t : Nat) : TD := match T t with | some i => i.d | none => .other
def Tab.isAgg (T : Tab) (t : Nat) : Option Bool :=
  (T t).map fun i => match i.d with | .struct _ | .array _ _ => true | _ => false

def setAll : List AV → Nat → List AV → List AV
  | l, _, [] => l
  | l, i, v :: vs => setAll (l.set i v) (i + 1) vs

/-- A part of an aggregate. -/
def part (T : Tab) (t : Nat) (cs : List AV) (off : Nat) : Option AV :=
  match T t with
  | none => none
  | some i => match i.d with
    | .struct _ | .array _ _ => if off + i.size ≤ cs.length then some (.agg ((cs.drop off).take i.size)) else none
    | _ => cs[off]?

def afill (place : Nat → Option (Nat × Nat)) : List AV → List (Nat × AV) → Option (List AV)
  | cells, [] => some cells
  | cells, (i, v) :: rest =>
    match place i with
    | none => none
    | some (off, size) =>
      if v.cells.length ≠ size ∨ off + v.cells.length > cells.length ∨ v.cells.all AV.one = false then none
      else afill place (setAll cells off v.cells) rest

def rep : Nat → List AV → List AV
  | 0, _ => []
  | n + 1, z => z ++ rep n z

/-- A new block. -/
def Hp.new (H : Hp) (cells : List AV) : Hp := ⟨H.bs ++ [⟨H.c, cells, true, true⟩], H.c + 1⟩
def Hp.at (H : Hp) (b ver : Nat) : Option Blk :=
  match H.bs[b]? with
  | some k => if k.ver = ver then some k else none
  | none => none
def Hp.put (H : Hp) (b : Nat) (k : Blk) : Hp := ⟨H.bs.set b k, H.c⟩

/-- The cells of a slice. -/
def slCells (H : Hp) : AV → Option (Nat × List AV)
  | .nilS => some (0, [])
  | .mtS => some (0, [])
  | .sl b ver off n es _ =>
    match H.at b ver with
    | some k => if off + n * es ≤ k.cells.length then some (n, (k.cells.drop off).take (n * es)) else none
    | none => none
  | _ => none

def maxBytes : Nat := 140737488355328

def aload (T : Tab) (t : Nat) (a : AV) (H : Hp) : Option AV :=
  match T t, a with
  | some i, .ptr b ver off =>
    match H.at b ver with
    | some k => match i.d with
      | .struct _ | .array _ _ => if off + i.size ≤ k.cells.length then some (.agg ((k.cells.drop off).take i.size)) else none
      | _ => k.cells[off]?
    | none => none
  | _, _ => none

def astore (T : Tab) (t : Nat) (a v : AV) (H : Hp) : Option Hp :=
  match T t, a with
  | some i, .ptr b ver off =>
    match H.at b ver with
    | some k => if k.solo = true ∧ v.cells.length = i.size ∧ off + i.size ≤ k.cells.length ∧ v.cells.all AV.one = true then
        some (H.put b { k with cells := setAll k.cells off v.cells }) else none
    | none => none
  | _, _ => none

def acmp (op : BinOp) (x y : Int) : Option AV :=
  match op with
  | .eql => some (.bool (x == y))
  | .neq => some (.bool (x != y))
  | .lss => some (.bool (decide (x < y)))
  | .leq => some (.bool (decide (x ≤ y)))
  | .gtr => some (.bool (decide (x > y)))
  | .geq => some (.bool (decide (x ≥ y)))
  | _ => none

/-- A binary operation on numbers of one kind. -/
def aint (op : BinOp) (k : IntKind) (a b : Int) : Option AV :=
  match op with
  | .add => some (.int k (k.wrap (a + b)))
  | .sub => some (.int k (k.wrap (a - b)))
  | .mul => some (.int k (k.wrap (a * b)))
  | .quo => if b = 0 then none else some (.int k (k.wrap (a.tdiv b)))
  | .rem => if b = 0 then none else some (.int k (a.tmod b))
  | .and => some (.int k (k.wrap (BitVec.ofInt k.bits a &&& BitVec.ofInt k.bits b).toNat))
  | .shl => if b < 0 then none else some (.int k (k.wrap (a * 2 ^ (min b.toNat k.bits))))
  | .shr => if b < 0 then none else some (.int k (a.fdiv (2 ^ (min b.toNat k.bits))))
  | .or | .xor | .andNot => none
  | op => acmp op a b

def anilS : AV → Option Bool   -- is it nil?
  | .nilS => some true
  | .sl .. => some false
  | _ => none
def anilP : AV → Option Bool
  | .nilP => some true
  | .ptr .. => some false
  | _ => none

def abin (T : Tab) (op : BinOp) (t : Nat) (x y : AV) : Option AV :=
  match x, y with
  | .int k a, .int k' b => if k = k' then aint op k a b else (match op with
      | .shl | .shr => aint op k a b
      | _ => none)
  | .str a, .str b => (match op with
      | .add => if a.size + b.size ≤ 9223372036854775807 then some (.str (a ++ b)) else none
      | .eql => some (.bool (a.toList == b.toList))
      | .neq => some (.bool (!(a.toList == b.toList)))
      | _ => none)
  | .bool a, .bool b => (match op, Tab.d T t with
      | .eql, .bool => some (.bool (a == b))
      | .neq, .bool => some (.bool (!(a == b)))
      | _, _ => none)
  | x, y =>
    match op, Tab.d T t, x, y with
    | .eql, .slice _, x, .nilS => (anilS x).map .bool
    | .neq, .slice _, x, .nilS => (anilS x).map fun b => .bool !b
    | .eql, .ptr _, x, .nilP => (anilP x).map .bool
    | .neq, .ptr _, x, .nilP => (anilP x).map fun b => .bool !b
    | _, _, _, _ => none

def bnd (d : Int) : Option AV → Option Int
  | none => some d
  | some (.int _ i) => some i
  | _ => none

def aslice (es : Nat) (x : AV) (lo hi mx : Option AV) : Option AV :=
  match x with
  | .nilS =>
    match bnd 0 lo, bnd 0 hi, mx with
    | some l, some h, none => if l = 0 ∧ h = 0 then some .nilS else none
    | _, _, _ => none
  | .mtS =>
    match bnd 0 lo, bnd 0 hi, mx with
    | some l, some h, none => if l = 0 ∧ h = 0 then some .mtS else none
    | _, _, _ => none
  | .sl b ver off n es' full =>
    match bnd 0 lo, bnd n hi, mx, hi with
    | some l, some h, none, _ =>
      if es' = es ∧ 0 ≤ l ∧ l ≤ h ∧ h ≤ n then some (.sl b ver (off + l.toNat * es) (h.toNat - l.toNat) es (full && decide (h = n))) else none
    | some l, some h, some (.int _ m), some _ =>
      if es' = es ∧ 0 ≤ l ∧ l ≤ h ∧ h = m ∧ m ≤ n then some (.sl b ver (off + l.toNat * es) (h.toNat - l.toNat) es true) else none
    | _, _, _, _ => none
  | _ => none

/-- A part of a string. -/
def asliceS (s : ByteArray) (lo hi : Option AV) : Option AV :=
  match bnd 0 lo, bnd s.size hi with
  | some l, some h => if 0 ≤ l ∧ l ≤ h ∧ h ≤ s.size then some (.str (s.extract l.toNat h.toNat)) else none
  | _, _ => none

/-- append: share says that what it is appended to lives on (and nobody writes into either). -/
def aappend (share : Bool) (es bytes : Nat) (s x : AV) (H : Hp) : Option (AV × Hp) :=
  match slCells H x with
  | none => none
  | some (m, xs) =>
    if xs.length ≠ m * es then none else
    if m = 0 then (match s with | .nilS => some (.nilS, H) | .mtS => some (.mtS, H) | .sl b ver off n es' full => some (.sl b ver off n es' full, H) | _ => none)
    else match s with
    | .nilS => if m * bytes ≤ maxBytes ∧ bytes ≠ 0 then some (.sl H.bs.length H.c 0 m es false, H.new xs) else none
    | .mtS => if m * bytes ≤ maxBytes ∧ bytes ≠ 0 then some (.sl H.bs.length H.c 0 m es false, H.new xs) else none
    | .sl b ver off n es' full =>
      match H.at b ver with
      | none => none
      | some k =>
        if es' ≠ es ∨ k.cells.length < off + n * es ∨ maxBytes < (n + m) * bytes ∨ bytes = 0 then none else
        if full = true then some (.sl H.bs.length H.c 0 (n + m) es false, H.new ((k.cells.drop off).take (n * es) ++ xs))
        else if k.tail = true ∧ k.cells.length = off + n * es then
          if share = true then some (.sl H.bs.length H.c 0 (n + m) es false, ⟨(H.bs.set b { k with tail := false, solo := false }) ++ [⟨H.c, k.cells.drop off ++ xs, true, false⟩], H.c + 1⟩)
          else some (.sl b H.c 0 (n + m) es false, ⟨H.bs.set b ⟨H.c, k.cells.drop off ++ xs, true, k.solo⟩, H.c + 1⟩)
        else none
    | _ => none

def acopy (es : Nat) (d x : AV) (H : Hp) : Option (AV × Hp) :=
  match d, slCells H x with
  | .nilS, some _ => some (.int .i64 0, H)
  | .sl b ver off n es' _, some (m, xs) =>
    match H.at b ver with
    | some k => if es' = es ∧ k.solo = true ∧ off + n * es ≤ k.cells.length ∧ xs.length = m * es then
        some (.int .i64 (min m n : Nat), H.put b { k with cells := setAll k.cells off (xs.take (min m n * es)) }) else none
    | none => none
  | _, _ => none

def aop (T : Tab) (share : Bool) (s : Sl) (op : Op) (H : Hp) : Option (AV × Hp) :=
  match op with
  | .move x | .assign x => some (ev s x, H)
  | .pick c a b => (match ev s c with | .bool t => some (if t = true then ev s a else ev s b, H) | _ => none)
  | .alloc e => (T e).map fun i => (.ptr H.bs.length H.c 0, H.new i.zero)
  | .box e x => if (ev s x).cells.all AV.one = true then some (.ptr H.bs.length H.c 0, H.new (ev s x).cells) else none
  | .build t ps => (match T t with
      | some i => (match i.d with
          | .struct fs => (afill (fun j => (fs[j]?).bind fun f => (T f.2).map fun i => (f.1, i.size)) i.zero (ps.toList.map fun p => (p.1, ev s p.2))).map fun cs => (.agg cs, H)
          | .array _ e => (T e).bind fun ie => (afill (fun j => some (j * ie.size, ie.size)) i.zero (ps.toList.map fun p => (p.1, ev s p.2))).map fun cs => (.agg cs, H)
          | _ => none)
      | none => none)
  | .buildSlice t n ps => (match Tab.d T t with
      | .slice e => (T e).bind fun ie => if n * ie.size ≤ 16777216 then
          (afill (fun j => some (j * ie.size, ie.size)) (rep n ie.zero) (ps.toList.map fun p => (p.1, ev s p.2))).map fun cs => (.sl H.bs.length H.c 0 n ie.size true, H.new cs) else none
      | _ => none)
  | .load t a => (aload T t (ev s a) H).map fun v => (v, H)
  | .store t a x => (astore T t (ev s a) (ev s x) H).map fun H' => (.bad, H')
  | .nilCheck x => (match ev s x with | .ptr b v o => some (.ptr b v o, H) | _ => none)
  | .binOp op t x y _ => (abin T op t (ev s x) (ev s y)).map fun v => (v, H)
  | .unOp op _ x => (match op, ev s x with
      | .not, .bool b => some (.bool !b, H)
      | .neg, .int k n => some (.int k (k.wrap (0 - n)), H)
      | _, _ => none)
  | .convert src t x => (match T src, Tab.d T t, ev s x with
      | some _, .int k, .int _ n => some (.int k (k.wrap n), H)
      | _, _, _ => none)
  | .makeFunc fn first caps => (match fn with
      | .func g => if first.size = 0 then some (.func g (caps.toList.map (ev s)), H) else none
      | _ => none)
  | .makeSlice t l c => (match Tab.d T t, ev s l, ev s c with
      | .slice e, .int _ n, .int _ m => (T e).bind fun ie =>
          if n = m ∧ 0 ≤ n ∧ ie.bytes * n ≤ 281474976710656 ∧ n ≤ 281474976710656 then some (.sl H.bs.length H.c 0 n.toNat ie.size true, H.new (rep n.toNat ie.zero)) else none
      | _, _, _ => none)
  | .slice t x lo hi mx => (match Tab.d T t, ev s x, mx with
      | .slice e, x, _ => (T e).bind fun ie => (aslice ie.size x (lo.map (ev s)) (hi.map (ev s)) (mx.map (ev s))).map fun v => (v, H)
      | .str, .str z, none => (asliceS z (lo.map (ev s)) (hi.map (ev s))).map fun v => (v, H)
      | _, _, _ => none)
  | .fieldAddr t x f => (match Tab.d T t, ev s x with
      | .struct fs, .ptr b v o => (fs[f]?).bind fun p => (T p.2).bind fun i => if i.size = 0 then none else some (.ptr b v (o + p.1), H)
      | _, _ => none)
  | .field t x f => (match Tab.d T t, ev s x with
      | .struct fs, .agg cs => (fs[f]?).bind fun p => (part T p.2 cs p.1).map fun v => (v, H)
      | _, _ => none)
  | .indexAddr t x i => (match Tab.d T t, ev s x, ev s i with
      | .slice e, .sl b v o n es _, .int _ j => (T e).bind fun ie => if ie.size = es ∧ 0 ≤ j ∧ j < n then some (.ptr b v (o + j.toNat * es), H) else none
      | .array n e, .ptr b v o, .int _ j => (T e).bind fun ie => if 0 ≤ j ∧ j < n then some (.ptr b v (o + j.toNat * ie.size), H) else none
      | _, _, _ => none)
  | .index t x i => (match Tab.d T t, ev s x, ev s i with
      | .array n e, .agg cs, .int _ j => (T e).bind fun ie => if 0 ≤ j ∧ j < n then (part T e cs (j.toNat * ie.size)).map fun v => (v, H) else none
      | .str, .str z, .int _ j => if 0 ≤ j then (z[j.toNat]?).map fun c => (.int .u8 c.toNat, H) else none
      | _, _, _ => none)
  | .extract x i => (match ev s x with | .tup vs => (vs[i]?).map fun v => (v, H) | _ => none)
  | .call ⟨.builtin b, args, tys⟩ => (match b, args.toList, tys.toList with
      | .len, [x], [t] => (match Tab.d T t, ev s x with
          | .slice _, .nilS => some (.int .i64 0, H)
          | .slice _, .mtS => some (.int .i64 0, H)
          | .slice _, .sl _ _ _ n _ _ => some (.int .i64 n, H)
          | .str, .str z => some (.int .i64 z.size, H)
          | .array n _, _ => some (.int .i64 n, H)
          | _, _ => none)
      | .append, [x, y], [t, u] => (match Tab.d T t, Tab.d T u with
          | .slice e, .slice _ => (T e).bind fun ie => aappend share ie.size ie.bytes (ev s x) (ev s y) H
          | _, _ => none)
      | .copy, [x, y], [t, _] => (match Tab.d T t with
          | .slice e => (T e).bind fun ie => acopy ie.size (ev s x) (ev s y) H
          | _ => none)
      | .min, [x, y], _ => (match ev s x, ev s y with | .int k a, .int k' b => if k = k' then some (.int k (if a ≤ b then a else b), H) else none | _, _ => none)
      | .max, [x, y], _ => (match ev s x, ev s y with | .int k a, .int k' b => if k = k' then some (.int k (if b ≤ a then a else b), H) else none | _, _ => none)
      | _, _, _ => none)
  | _ => none

end Go.Proofs.Ytokadkakmhfdeaa.Pq
