/- What the proof of a statement of this seat rests on, part 1: PqA, PqB, PqC, PqD, PqE, PqF, PqG, PqH, PqI, PqJ, PqK, PqL, PqM, PqN, PqO. -/
import Derived.WalkKit
import Derived.Laws.CopyRow
import Derived.Laws.AppendOwn
import Derived.Laws.MakeOwn
import Derived.Laws.Build
import Derived.Lib.SliceRun
import Derived.Laws.Small
import Derived.LoopN
import Derived.Orders
import Derived.Laws.Sem
set_option linter.unusedVariables false
set_option linter.unusedSimpArgs false
set_option linter.unusedSectionVars false
namespace Go.Proofs.Ytokadkakmhfdeaa.Pq
open Go.RowKit
/- The flat executor: abstract values, the abstract heap, what each operation does to them. No program in sight: the types come in by a table. -/
/-- Values whose addresses name abstract blocks (number and version). -/
inductive AV where
  | bad
  | int (k : IntKind) (n : Int)
  | bool (b : Bool)
  | str (s : ByteArray)
  | nilS | nilP | nilF | nilI | mtS
  | sl (b ver off n es : Nat) (full : Bool)
  | ptr (b ver off : Nat)
  | agg (cs : List AV)
  | tup (vs : List AV)
  | func (g : Nat) (caps : List AV)
  deriving Inhabited
/-- A block: its version, its cells; may it be appended behind its end; is it nobody else's. -/
structure Blk where
  ver : Nat
  cells : List AV
  tail : Bool
  solo : Bool
  deriving Inhabited
/-- The abstract memory: blocks, and the next version. -/
structure Hp where
  bs : List Blk
  c : Nat
  deriving Inhabited
/-- What is known of a type. -/
inductive TD where
  | bool | int (k : IntKind) | str | slice (e : Nat) | array (n e : Nat) | struct (fs : List (Nat × Nat)) | ptr (e : Nat) | func | other
  deriving Inhabited
structure TI where
  d : TD
  size : Nat
  bytes : Nat
  zero : List AV
  deriving Inhabited
abbrev Tab := Nat → Option TI
abbrev Sl := List (Nat × AV)
def get : Sl → Nat → AV
  | [], _ => .bad
  | (j, v) :: l, i => if i = j then v else get l i
def ofConst : Value → AV
  | .int k n => .int k n
  | .bool b => .bool b
  | .string s => .str s
  | .slice none 0 0 => .nilS
  | .pointer none => .nilP
  | .nilFunc => .nilF
  | .nilIface => .nilI
  | _ => .bad
def ev (s : Sl) : Operand → AV
  | .tmp t => get s t
  | .const v => ofConst v
  | .func f => .func f []
  | .global _ => .bad
def AV.cells : AV → List AV
  | .agg cs => cs
  | v => [v]
def AV.one : AV → Bool
  | .agg _ | .tup _ | .bad => false
  | _ => true
/-- What a type is; 'other' where nothing is known. -/
def Tab.d (T : Tab) (t : Nat) : TD := match T t with | some i => i.d | none => .other
def Tab.isAgg (T : Tab) (t : Nat) : Option Bool :=
  (T t).map fun i => match i.d with | .struct _ | .array _ _ => true | _ => false
def setAll : List AV → Nat → List AV → List AV
  | l, _, [] => l
  | l, i, v :: vs => setAll (l.set i v) (i + 1) vs
/-- A part of an aggregate. -/
def part (T : Tab) (t : Nat) (cs : List AV) (off : Nat) : Option AV :=
  match T t with
  | none => none
  | some i => match i.d with
    | .struct _ | .array _ _ => if off + i.size ≤ cs.length then some (.agg ((cs.drop off).take i.size)) else none
    | _ => cs[off]?
def afill (place : Nat → Option (Nat × Nat)) : List AV → List (Nat × AV) → Option (List AV)
  | cells, [] => some cells
  | cells, (i, v) :: rest =>
    match place i with
    | none => none
    | some (off, size) =>
      if v.cells.length ≠ size ∨ off + v.cells.length > cells.length ∨ v.cells.all AV.one = false then none
      else afill place (setAll cells off v.cells) rest
def rep : Nat → List AV → List AV
  | 0, _ => []
  | n + 1, z => z ++ rep n z
/-- A new block. -/
def Hp.new (H : Hp) (cells : List AV) : Hp := ⟨H.bs ++ [⟨H.c, cells, true, true⟩], H.c + 1⟩
def Hp.at (H : Hp) (b ver : Nat) : Option Blk :=
  match H.bs[b]? with
  | some k => if k.ver = ver then some k else none
  | none => none
def Hp.put (H : Hp) (b : Nat) (k : Blk) : Hp := ⟨H.bs.set b k, H.c⟩
/-- The cells of a slice. -/
def slCells (H : Hp) : AV → Option (Nat × List AV)
  | .nilS => some (0, [])
  | .mtS => some (0, [])
  | .sl b ver off n es _ =>
    match H.at b ver with
    | some k => if off + n * es ≤ k.cells.length then some (n, (k.cells.drop off).take (n * es)) else none
    | none => none
  | _ => none
def maxBytes : Nat := 140737488355328
def aload (T : Tab) (t : Nat) (a : AV) (H : Hp) : Option AV :=
  match T t, a with
  | some i, .ptr b ver off =>
    match H.at b ver with
    | some k => match i.d with
      | .struct _ | .array _ _ => if off + i.size ≤ k.cells.length then some (.agg ((k.cells.drop off).take i.size)) else none
      | _ => k.cells[off]?
    | none => none
  | _, _ => none
def astore (T : Tab) (t : Nat) (a v : AV) (H : Hp) : Option Hp :=
  match T t, a with
  | some i, .ptr b ver off =>
    match H.at b ver with
    | some k => if k.solo = true ∧ v.cells.length = i.size ∧ off + i.size ≤ k.cells.length ∧ v.cells.all AV.one = true then
        some (H.put b { k with cells := setAll k.cells off v.cells }) else none
    | none => none
  | _, _ => none
def acmp (op : BinOp) (x y : Int) : Option AV :=
  match op with
  | .eql => some (.bool (x == y))
  | .neq => some (.bool (x != y))
  | .lss => some (.bool (decide (x < y)))
  | .leq => some (.bool (decide (x ≤ y)))
  | .gtr => some (.bool (decide (x > y)))
  | .geq => some (.bool (decide (x ≥ y)))
  | _ => none
/-- A binary operation on numbers of one kind. -/
def aint (op : BinOp) (k : IntKind) (a b : Int) : Option AV :=
  match op with
  | .add => some (.int k (k.wrap (a + b)))
  | .sub => some (.int k (k.wrap (a - b)))
  | .mul => some (.int k (k.wrap (a * b)))
  | .quo => if b = 0 then none else some (.int k (k.wrap (a.tdiv b)))
  | .rem => if b = 0 then none else some (.int k (a.tmod b))
  | .and => some (.int k (k.wrap (BitVec.ofInt k.bits a &&& BitVec.ofInt k.bits b).toNat))
  | .shl => if b < 0 then none else some (.int k (k.wrap (a * 2 ^ (min b.toNat k.bits))))
  | .shr => if b < 0 then none else some (.int k (a.fdiv (2 ^ (min b.toNat k.bits))))
  | .or | .xor | .andNot => none
  | op => acmp op a b
def anilS : AV → Option Bool   -- is it nil?
  | .nilS => some true
  | .mtS => some false
  | .sl .. => some false
  | _ => none
def anilP : AV → Option Bool
  | .nilP => some true
  | .ptr .. => some false
  | _ => none
def abin (T : Tab) (op : BinOp) (t : Nat) (x y : AV) : Option AV :=
  match x, y with
  | .int k a, .int k' b => if k = k' then aint op k a b else (match op with
      | .shl | .shr => aint op k a b
      | _ => none)
  | .str a, .str b => (match op with
      | .add => if a.size + b.size ≤ 9223372036854775807 then some (.str (a ++ b)) else none
      | .eql => some (.bool (a.toList == b.toList))
      | .neq => some (.bool (!(a.toList == b.toList)))
      | _ => none)
  | .bool a, .bool b => (match op, Tab.d T t with
      | .eql, .bool => some (.bool (a == b))
      | .neq, .bool => some (.bool (!(a == b)))
      | _, _ => none)
  | x, y =>
    match op, Tab.d T t, x, y with
    | .eql, .slice _, x, .nilS => (anilS x).map .bool
    | .neq, .slice _, x, .nilS => (anilS x).map fun b => .bool !b
    | .eql, .ptr _, x, .nilP => (anilP x).map .bool
    | .neq, .ptr _, x, .nilP => (anilP x).map fun b => .bool !b
    | _, _, _, _ => none
def bnd (d : Int) : Option AV → Option Int
  | none => some d
  | some (.int _ i) => some i
  | _ => none
def aslice (es : Nat) (x : AV) (lo hi mx : Option AV) : Option AV :=
  match x with
  | .nilS =>
    match bnd 0 lo, bnd 0 hi, mx with
    | some l, some h, none => if l = 0 ∧ h = 0 then some .nilS else none
    | _, _, _ => none
  | .mtS =>
    match bnd 0 lo, bnd 0 hi, mx with
    | some l, some h, none => if l = 0 ∧ h = 0 then some .mtS else none
    | _, _, _ => none
  | .sl b ver off n es' full =>
    match bnd 0 lo, bnd n hi, mx, hi with
    | some l, some h, none, _ =>
      if es' = es ∧ 0 ≤ l ∧ l ≤ h ∧ h ≤ n then some (.sl b ver (off + l.toNat * es) (h.toNat - l.toNat) es (full && decide (h = n))) else none
    | some l, some h, some (.int _ m), some _ =>
      if es' = es ∧ 0 ≤ l ∧ l ≤ h ∧ h = m ∧ m ≤ n then some (.sl b ver (off + l.toNat * es) (h.toNat - l.toNat) es true) else none
    | _, _, _, _ => none
  | _ => none
/-- A part of a string. -/
def asliceS (s : ByteArray) (lo hi : Option AV) : Option AV :=
  match bnd 0 lo, bnd s.size hi with
  | some l, some h => if 0 ≤ l ∧ l ≤ h ∧ h ≤ s.size then some (.str (s.extract l.toNat h.toNat)) else none
  | _, _ => none
/-- append: share says that what it is appended to lives on (and nobody writes into either). -/
def aappend (share : Bool) (es bytes : Nat) (s x : AV) (H : Hp) : Option (AV × Hp) :=
  match slCells H x with
  | none => none
  | some (m, xs) =>
    if xs.length ≠ m * es then none else
    if m = 0 then (match s with | .nilS => some (.nilS, H) | .mtS => some (.mtS, H) | .sl b ver off n es' full => some (.sl b ver off n es' full, H) | _ => none)
    else match s with
    | .nilS => if m * bytes ≤ maxBytes ∧ bytes ≠ 0 then some (.sl H.bs.length H.c 0 m es false, H.new xs) else none
    | .mtS => if m * bytes ≤ maxBytes ∧ bytes ≠ 0 then some (.sl H.bs.length H.c 0 m es false, H.new xs) else none
    | .sl b ver off n es' full =>
      match H.at b ver with
      | none => none
      | some k =>
        if es' ≠ es ∨ k.cells.length < off + n * es ∨ maxBytes < (n + m) * bytes ∨ bytes = 0 then none else
        if full = true then some (.sl H.bs.length H.c 0 (n + m) es false, H.new ((k.cells.drop off).take (n * es) ++ xs))
        else if k.tail = true ∧ k.cells.length = off + n * es then
          if share = true then some (.sl H.bs.length H.c 0 (n + m) es false, ⟨(H.bs.set b { k with tail := false, solo := false }) ++ [⟨H.c, k.cells.drop off ++ xs, true, false⟩], H.c + 1⟩)
          else some (.sl b H.c 0 (n + m) es false, ⟨H.bs.set b ⟨H.c, k.cells.drop off ++ xs, true, k.solo⟩, H.c + 1⟩)
        else none
    | _ => none
def acopy (es : Nat) (d x : AV) (H : Hp) : Option (AV × Hp) :=
  match d, slCells H x with
  | .nilS, some _ => some (.int .i64 0, H)
  | .sl b ver off n es' _, some (m, xs) =>
    match H.at b ver with
    | some k => if es' = es ∧ k.solo = true ∧ off + n * es ≤ k.cells.length ∧ xs.length = m * es then
        some (.int .i64 (min m n : Nat), H.put b { k with cells := setAll k.cells off (xs.take (min m n * es)) }) else none
    | none => none
  | _, _ => none
def aop (T : Tab) (share : Bool) (s : Sl) (op : Op) (H : Hp) : Option (AV × Hp) :=
  match op with
  | .move x | .assign x => some (ev s x, H)
  | .pick c a b => (match ev s c with | .bool t => some (if t = true then ev s a else ev s b, H) | _ => none)
  | .alloc e => (T e).map fun i => (.ptr H.bs.length H.c 0, H.new i.zero)
  | .box e x => if (ev s x).cells.all AV.one = true then some (.ptr H.bs.length H.c 0, H.new (ev s x).cells) else none
  | .build t ps => (match T t with
      | some i => (match i.d with
          | .struct fs => (afill (fun j => (fs[j]?).bind fun f => (T f.2).map fun i => (f.1, i.size)) i.zero (ps.toList.map fun p => (p.1, ev s p.2))).map fun cs => (.agg cs, H)
          | .array _ e => (T e).bind fun ie => (afill (fun j => some (j * ie.size, ie.size)) i.zero (ps.toList.map fun p => (p.1, ev s p.2))).map fun cs => (.agg cs, H)
          | _ => none)
      | none => none)
  | .buildSlice t n ps => (match Tab.d T t with
      | .slice e => (T e).bind fun ie => if n * ie.size ≤ 16777216 then
          (afill (fun j => some (j * ie.size, ie.size)) (rep n ie.zero) (ps.toList.map fun p => (p.1, ev s p.2))).map fun cs => (.sl H.bs.length H.c 0 n ie.size true, H.new cs) else none
      | _ => none)
  | .load t a => (aload T t (ev s a) H).map fun v => (v, H)
  | .store t a x => (astore T t (ev s a) (ev s x) H).map fun H' => (.bad, H')
  | .nilCheck x => (match ev s x with | .ptr b v o => some (.ptr b v o, H) | _ => none)
  | .binOp op t x y _ => (abin T op t (ev s x) (ev s y)).map fun v => (v, H)
  | .unOp op _ x => (match op, ev s x with
      | .not, .bool b => some (.bool !b, H)
      | .neg, .int k n => some (.int k (k.wrap (0 - n)), H)
      | _, _ => none)
  | .convert src t x => (match T src, Tab.d T t, ev s x with
      | some _, .int k, .int _ n => some (.int k (k.wrap n), H)
      | _, _, _ => none)
  | .makeFunc fn first caps => (match fn with
      | .func g => if first.size = 0 then some (.func g (caps.toList.map (ev s)), H) else none
      | _ => none)
  | .makeSlice t l c => (match Tab.d T t, ev s l, ev s c with
      | .slice e, .int _ n, .int _ m => (T e).bind fun ie =>
          if n = m ∧ 0 ≤ n ∧ ie.bytes * n ≤ 281474976710656 ∧ n ≤ 281474976710656 then some (.sl H.bs.length H.c 0 n.toNat ie.size true, H.new (rep n.toNat ie.zero)) else none
      | _, _, _ => none)
  | .slice t x lo hi mx => (match Tab.d T t, ev s x, mx with
      | .slice e, x, _ => (T e).bind fun ie => (aslice ie.size x (lo.map (ev s)) (hi.map (ev s)) (mx.map (ev s))).map fun v => (v, H)
      | .str, .str z, none => (asliceS z (lo.map (ev s)) (hi.map (ev s))).map fun v => (v, H)
      | _, _, _ => none)
  | .fieldAddr t x f => (match Tab.d T t, ev s x with
      | .struct fs, .ptr b v o => (fs[f]?).bind fun p => (T p.2).bind fun i => if i.size = 0 then none else some (.ptr b v (o + p.1), H)
      | _, _ => none)
  | .field t x f => (match Tab.d T t, ev s x with
      | .struct fs, .agg cs => (fs[f]?).bind fun p => (part T p.2 cs p.1).map fun v => (v, H)
      | _, _ => none)
  | .indexAddr t x i => (match Tab.d T t, ev s x, ev s i with
      | .slice e, .sl b v o n es _, .int _ j => (T e).bind fun ie => if ie.size = es ∧ 0 ≤ j ∧ j < n then some (.ptr b v (o + j.toNat * es), H) else none
      | .array n e, .ptr b v o, .int _ j => (T e).bind fun ie => if 0 ≤ j ∧ j < n then some (.ptr b v (o + j.toNat * ie.size), H) else none
      | _, _, _ => none)
  | .index t x i => (match Tab.d T t, ev s x, ev s i with
      | .array n e, .agg cs, .int _ j => (T e).bind fun ie => if 0 ≤ j ∧ j < n then (part T e cs (j.toNat * ie.size)).map fun v => (v, H) else none
      | .str, .str z, .int _ j => if 0 ≤ j then (z[j.toNat]?).map fun c => (.int .u8 c.toNat, H) else none
      | _, _, _ => none)
  | .extract x i => (match ev s x with | .tup vs => (vs[i]?).map fun v => (v, H) | _ => none)
  | .call ⟨.builtin b, args, tys⟩ => (match b, args.toList, tys.toList with
      | .len, [x], [t] => (match Tab.d T t, ev s x with
          | .slice _, .nilS => some (.int .i64 0, H)
          | .slice _, .mtS => some (.int .i64 0, H)
          | .slice _, .sl _ _ _ n _ _ => some (.int .i64 n, H)
          | .str, .str z => some (.int .i64 z.size, H)
          | .array n _, _ => some (.int .i64 n, H)
          | _, _ => none)
      | .append, [x, y], [t, u] => (match Tab.d T t, Tab.d T u with
          | .slice e, .slice _ => (T e).bind fun ie => aappend share ie.size ie.bytes (ev s x) (ev s y) H
          | _, _ => none)
      | .copy, [x, y], [t, _] => (match Tab.d T t with
          | .slice e => (T e).bind fun ie => acopy ie.size (ev s x) (ev s y) H
          | _ => none)
      | .min, [x, y], _ => (match ev s x, ev s y with | .int k a, .int k' b => if k = k' then some (.int k (if a ≤ b then a else b), H) else none | _, _ => none)
      | .max, [x, y], _ => (match ev s x, ev s y with | .int k a, .int k' b => if k = k' then some (.int k (if b ≤ a then a else b), H) else none | _, _ => none)
      | _, _, _ => none)
  | _ => none
/- What stands between the abstract and the machine's own: values, blocks, worlds. -/
structure Cx where
  mu : Nat → Nat → Option (Nat × Nat)
  sz : Nat → Nat
  c : Nat
mutual
inductive RV (G : Cx) : AV → Value → Prop
  | bad (v) : RV G .bad v
  | int (k n) : RV G (.int k n) (.int k n)
  | bool (b) : RV G (.bool b) (.bool b)
  | str (s) : RV G (.str s) (.string s)
  | nilS : RV G .nilS (.slice none 0 0)
  | mt2 (x) : RV G .mtS (.slice (some x) 0 0)
  | nilP : RV G .nilP (.pointer none)
  | nilF : RV G .nilF .nilFunc
  | nilI : RV G .nilI .nilIface
  | sl (b ver off n es full B o A cap) : ver < G.c → G.mu b ver = some (B, o) → n ≤ cap → (full = true → cap = n) →
      (cap ≠ 0 → A = ⟨B, o + off, none⟩ ∧ o + off + cap * es ≤ G.sz B) → RV G (.sl b ver off n es full) (.slice (some A) n cap)
  | ptr (b ver off B o) : ver < G.c → G.mu b ver = some (B, o) → RV G (.ptr b ver off) (.pointer (some ⟨B, o + off, none⟩))
  | agg (cs vs) : RVs G cs vs → RV G (.agg cs) (.agg vs.toArray)
  | tup (cs vs) : RVs G cs vs → RV G (.tup cs) (.tuple vs.toArray)
  | func (g cs vs) : RVs G cs vs → RV G (.func g cs) (.func (.func g) #[] vs.toArray)
inductive RVs (G : Cx) : List AV → List Value → Prop
  | nil : RVs G [] []
  | cons (a v as vs) : RV G a v → RVs G as vs → RVs G (a :: as) (v :: vs)
end
structure Le (G G' : Cx) : Prop where
  c : G.c ≤ G'.c
  mu : ∀ b v, v < G.c → G'.mu b v = G.mu b v
  sz : ∀ b v B o, v < G.c → G.mu b v = some (B, o) → G'.sz B = G.sz B
theorem Le.refl (G : Cx) : Le G G := ⟨Nat.le_refl _, fun _ _ _ => rfl, fun _ _ _ _ _ _ => rfl⟩
theorem Le.trans {A B C : Cx} (h : Le A B) (k : Le B C) : Le A C :=
  ⟨Nat.le_trans h.c k.c, fun b v hv => (k.mu b v (Nat.lt_of_lt_of_le hv h.c)).trans (h.mu b v hv),
   fun b v X o hv hm => (k.sz b v X o (Nat.lt_of_lt_of_le hv h.c) ((h.mu b v hv).trans hm)).trans (h.sz b v X o hv hm)⟩
mutual
theorem RV.le {G G' : Cx} (h : Le G G') : ∀ {a v}, RV G a v → RV G' a v
  | _, _, .bad v => .bad v
  | _, _, .int k n => .int k n
  | _, _, .bool b => .bool b
  | _, _, .str s => .str s
  | _, _, .nilS => .nilS
  | _, _, .mt2 x => .mt2 x
  | _, _, .nilP => .nilP
  | _, _, .nilF => .nilF
  | _, _, .nilI => .nilI
  | _, _, .sl b ver off n es full B o A cap h1 h2 h3 h4 h5 =>
    .sl b ver off n es full B o A cap (Nat.lt_of_lt_of_le h1 h.c) ((h.mu b ver h1).trans h2) h3 h4 fun hc => ⟨(h5 hc).1, by rw [h.sz b ver B o h1 h2]; exact (h5 hc).2⟩
  | _, _, .ptr b ver off B o h1 h2 => .ptr b ver off B o (Nat.lt_of_lt_of_le h1 h.c) ((h.mu b ver h1).trans h2)
  | _, _, .agg cs vs hs => .agg cs vs (RVs.le h hs)
  | _, _, .tup cs vs hs => .tup cs vs (RVs.le h hs)
  | _, _, .func g cs vs hs => .func g cs vs (RVs.le h hs)
theorem RVs.le {G G' : Cx} (h : Le G G') : ∀ {a v}, RVs G a v → RVs G' a v
  | _, _, .nil => .nil
  | _, _, .cons a v as vs h1 h2 => .cons a v as vs (RV.le h h1) (RVs.le h h2)
end
section
variable {G : Cx}
theorem RVs.length {as : List AV} {vs : List Value} (h : RVs G as vs) : as.length = vs.length := by
  induction as generalizing vs with
  | nil => cases h; rfl
  | cons a as ih => cases h with | cons _ _ _ _ _ h2 => simp [ih h2]
theorem RVs.append {as bs : List AV} {vs us : List Value} (h : RVs G as vs) (k : RVs G bs us) : RVs G (as ++ bs) (vs ++ us) := by
  induction as generalizing vs with
  | nil => cases h; exact k
  | cons a as ih => cases h with | cons _ _ _ _ h1 h2 => exact .cons _ _ _ _ h1 (ih h2)
theorem RVs.drop {as : List AV} {vs : List Value} (h : RVs G as vs) : ∀ n, RVs G (as.drop n) (vs.drop n) := by
  induction as generalizing vs with
  | nil => intro n; cases h; simp; exact .nil
  | cons a as ih => intro n; cases h with | cons _ _ _ _ h1 h2 => cases n with
    | zero => exact .cons _ _ _ _ h1 h2
    | succ n => simpa using ih h2 n
theorem RVs.take {as : List AV} {vs : List Value} (h : RVs G as vs) : ∀ n, RVs G (as.take n) (vs.take n) := by
  induction as generalizing vs with
  | nil => intro n; cases h; simp; exact .nil
  | cons a as ih => intro n; cases h with | cons _ _ _ _ h1 h2 => cases n with
    | zero => simp; exact .nil
    | succ n => simpa using RVs.cons _ _ _ _ h1 (ih h2 n)
theorem RVs.get {as : List AV} {vs : List Value} (h : RVs G as vs) : ∀ {i : Nat} {a : AV}, as[i]? = some a → ∃ v, vs[i]? = some v ∧ RV G a v := by
  induction as generalizing vs with
  | nil => intro i a hi; simp at hi
  | cons x as ih => intro i a hi; cases h with | cons _ v _ vs h1 h2 => cases i with
    | zero => simp at hi; subst hi; exact ⟨v, rfl, h1⟩
    | succ i => simp at hi; obtain ⟨u, hu, hr⟩ := ih h2 hi; exact ⟨u, by simpa using hu, hr⟩
theorem RVs.set {as : List AV} {vs : List Value} (h : RVs G as vs) {a v} (hv : RV G a v) : ∀ i, RVs G (as.set i a) (vs.set i v) := by
  induction as generalizing vs with
  | nil => intro i; cases h; exact .nil
  | cons x as ih => intro i; cases h with | cons _ u _ us h1 h2 => cases i with
    | zero => exact .cons _ _ _ _ hv h2
    | succ i => exact .cons _ _ _ _ h1 (ih h2 i)
/-- 'setAll' on the machine's side. -/
def setAllV : List Value → Nat → List Value → List Value
  | l, _, [] => l
  | l, i, v :: vs => setAllV (l.set i v) (i + 1) vs
theorem RVs.setAll {us : List AV} : ∀ {as : List AV} {xs ys : List Value} (i : Nat), RVs G as xs → RVs G us ys → RVs G (setAll as i us) (setAllV xs i ys) := by
  induction us with
  | nil => intro as xs ys i h k; cases k; exact h
  | cons u us ih => intro as xs ys i h k; cases k with | cons _ y _ ys h1 h2 => exact ih (i + 1) (h.set h1 i) h2
theorem length_setAllV : ∀ (us : List Value) (l : List Value) (i : Nat), (setAllV l i us).length = l.length := by
  intro us
  induction us with
  | nil => intro l i; rfl
  | cons u us ih => intro l i; simp [setAllV, ih]
theorem setAllV_eq : ∀ (us : List Value) (l : List Value) (i : Nat), i + us.length ≤ l.length → setAllV l i us = l.take i ++ us ++ l.drop (i + us.length) := by
  intro us
  induction us with
  | nil => intro l i _; simp [setAllV]
  | cons u us ih =>
    intro l i h
    simp only [List.length_cons] at h
    rw [setAllV, ih _ _ (by simp; omega)]
    have e := list_seg_step l i u us (by simpa using h)
    simpa [Nat.add_assoc, Nat.add_comm 1] using e
theorem drop_setAllV : ∀ (ys : List Value) (l : List Value) (o p L : Nat), ((setAllV l (o + p) ys).drop o).take L = setAllV ((l.drop o).take L) p ys := by
  intro ys
  induction ys with
  | nil => intro l o p L; rfl
  | cons y ys ih =>
    intro l o p L
    simp only [setAllV]
    have := ih (l.set (o + p) y) o (p + 1) L
    rw [show o + (p + 1) = o + p + 1 by omega] at this
    rw [this]
    congr 1
    rw [List.drop_set, if_neg (by omega), List.take_set, show o + p - o = p by omega]
theorem length_setAll : ∀ (us : List AV) (l : List AV) (i : Nat), (setAll l i us).length = l.length := by
  intro us
  induction us with
  | nil => intro l i; rfl
  | cons u us ih => intro l i; simp [setAll, ih]
theorem all_setAll : ∀ (us : List AV) (l : List AV) (i : Nat), l.all AV.one = true → us.all AV.one = true → (setAll l i us).all AV.one = true := by
  intro us
  induction us with
  | nil => intro l i h _; exact h
  | cons u us ih =>
    intro l i h k
    simp only [List.all_cons, Bool.and_eq_true] at k
    refine ih _ _ ?_ k.2
    simp only [List.all_eq_true] at h ⊢
    intro x hx
    rcases List.mem_or_eq_of_mem_set hx with h1 | h1
    · exact h x h1
    · rw [h1]; exact k.1
theorem RV.cells {a v} (h : RV G a v) (hb : a ≠ .bad) (ht : ∀ cs, a ≠ .tup cs) : RVs G a.cells v.cells.toList := by
  cases h <;> first | (exact absurd rfl hb) | (exact absurd rfl (ht _)) | skip
  case agg hs => simpa [AV.cells, Value.cells] using hs
  all_goals (simp only [AV.cells, Value.cells]; refine .cons _ _ _ _ ?_ .nil)
  · exact .int _ _
  · exact .bool _
  · exact .str _
  · exact .nilS
  · exact .mt2 _
  · exact .nilP
  · exact .nilF
  · exact .nilI
  · exact .sl _ _ _ _ _ _ _ _ _ _ ‹_› ‹_› ‹_› ‹_› ‹_›
  · exact .ptr _ _ _ _ _ ‹_› ‹_›
  · exact .func _ _ _ ‹_›
theorem RV.one {a v} (h : RV G a v) (ha : a.one = true) : v.oneCell' = true := by
  cases h <;> first | rfl | (simp [AV.one] at ha)
theorem RVs.one {as : List AV} {vs : List Value} (h : RVs G as vs) (ha : as.all AV.one = true) : ∀ v ∈ vs, v.oneCell' = true := by
  induction as generalizing vs with
  | nil => cases h; simp
  | cons a as ih => cases h with | cons _ v _ vs h1 h2 =>
    simp only [List.all_cons, Bool.and_eq_true] at ha
    intro x hx
    rcases List.mem_cons.1 hx with rfl | hx
    · exact h1.one ha.1
    · exact ih h2 ha.2 x hx
end
/-- The machine's block B holds, from o on, what block k says. -/
def BlkAt (G : Cx) (w : World) (B o : Nat) (k : Blk) : Prop :=
  ∃ cs e fr, w.heap[B]? = some (.cells cs e fr) ∧ o + k.cells.length ≤ cs.size ∧ RVs G k.cells ((cs.toList.drop o).take k.cells.length) ∧ (k.tail = true ∨ k.solo = true → fr = (0, 0))
structure St (B0 : Nat) (w0 : World) (G : Cx) (H : Hp) (w : World) : Prop where
  below : Below B0 w0 w
  base : B0 ≤ w.heap.size
  c : G.c = H.c
  blk : ∀ b k, H.bs[b]? = some k → k.ver < H.c ∧ ∃ B o, G.mu b k.ver = some (B, o) ∧ BlkAt G w B o k ∧ (k.tail = true ∨ k.solo = true → B0 ≤ B)
  apart : ∀ b k b' k' B o B' o', b ≠ b' → H.bs[b]? = some k → H.bs[b']? = some k' → G.mu b k.ver = some (B, o) → G.mu b' k'.ver = some (B', o') →
    (k.solo = true → B' ≠ B) ∧ (k.tail = true → B' = B → k'.tail = false ∧ o' + k'.cells.length ≤ o + k.cells.length)
  ones : ∀ (b : Nat) (k : Blk), H.bs[b]? = some k → k.cells.all AV.one = true
  maps : ∀ b v B o, v < G.c → G.mu b v = some (B, o) → ∃ cs e fr, w.heap[B]? = some (.cells cs e fr) ∧ cs.size = G.sz B
theorem Hp.at_some {H : Hp} {b ver : Nat} {k : Blk} (h : H.at b ver = some k) : H.bs[b]? = some k ∧ k.ver = ver := by
  unfold Hp.at at h
  split at h
  · rename_i k' hk
    split at h
    · rename_i hv; cases h; exact ⟨hk, hv⟩
    · cases h
  · cases h
/-- A draw turns nothing. -/
theorem St.drew {B0 w0 G H w} (h : St B0 w0 G H w) : St B0 w0 G H w.drew :=
  ⟨h.below.drew, h.base, h.c, h.blk, h.apart, h.ones, h.maps⟩
def Cx.ext (G : Cx) (b B o n : Nat) : Cx := ⟨fun x v => if v = G.c then (if x = b then some (B, o) else none) else G.mu x v, fun X => if X = B then n else G.sz X, G.c + 1⟩
theorem Cx.ext_mu_new (G : Cx) (b B o n : Nat) : (G.ext b B o n).mu b G.c = some (B, o) := by simp [Cx.ext]
theorem Cx.ext_mu_old (G : Cx) (b B o n x v : Nat) (h : v < G.c) : (G.ext b B o n).mu x v = G.mu x v := by
  simp only [Cx.ext]; rw [if_neg (by omega)]
/-- A new block of the machine, seen by the abstract memory. -/
theorem Le.ext_new {B0 w0 G H w} (h : St B0 w0 G H w) (b o n : Nat) : Le G (G.ext b w.heap.size o n) := by
  refine ⟨Nat.le_succ _, fun x v hv => Cx.ext_mu_old G b _ o n x v hv, fun x v B o' hv hm => ?_⟩
  obtain ⟨cs, e, fr, hh, _⟩ := h.maps x v B o' hv hm
  have hlt := (Array.getElem?_eq_some_iff.1 hh).1
  simp only [Cx.ext]; rw [if_neg (by omega)]
theorem heap_alloc_lt (w : World) (o : Obj) {B : Nat} {x : Obj} (h : w.heap[B]? = some x) : (w.alloc o).heap[B]? = some x := by
  rw [Below.heap_alloc w o B (Array.getElem?_eq_some_iff.1 h).1, h]
theorem BlkAt.mono {G G' : Cx} {w w' : World} {B o : Nat} {k : Blk} (hl : Le G G') (h : BlkAt G w B o k) (hh : w'.heap[B]? = w.heap[B]?) : BlkAt G' w' B o k := by
  obtain ⟨cs, e, fr, h1, h2, h3, h4⟩ := h
  exact ⟨cs, e, fr, hh.trans h1, h2, h3.le hl, h4⟩
theorem BlkAt.lt {G : Cx} {w : World} {B o : Nat} {k : Blk} (h : BlkAt G w B o k) : B < w.heap.size := by
  obtain ⟨cs, e, fr, h1, _⟩ := h
  exact (Array.getElem?_eq_some_iff.1 h1).1
theorem St.alloc {B0 w0 G H w} (h : St B0 w0 G H w) (cells : List AV) (vs : List Value) (e : TypeId) (hr : RVs G cells vs) (h1c : cells.all AV.one = true) :
    ∃ G', Le G G' ∧ St B0 w0 G' (H.new cells) (w.alloc (.cells vs.toArray e)) ∧ G'.mu H.bs.length H.c = some (w.heap.size, 0) ∧ G'.sz w.heap.size = vs.length := by
  have hl := Le.ext_new h H.bs.length 0 vs.length
  have hnew : (G.ext H.bs.length w.heap.size 0 vs.length).mu H.bs.length H.c = some (w.heap.size, 0) := by rw [← h.c]; exact Cx.ext_mu_new ..
  have hold : ∀ b k, H.bs[b]? = some k → (G.ext H.bs.length w.heap.size 0 vs.length).mu b k.ver = G.mu b k.ver := fun b k hk => Cx.ext_mu_old _ _ _ _ _ _ _ (by rw [h.c]; exact (h.blk b k hk).1)
  refine ⟨G.ext H.bs.length w.heap.size 0 vs.length, hl, ⟨h.below.alloc h.base _, by simp; have := h.base; omega, by simp [Cx.ext, Hp.new, h.c], ?_, ?_, ?_, ?_⟩, hnew, by simp [Cx.ext]⟩
  · intro b k hk
    simp only [Hp.new, List.getElem?_append] at hk ⊢
    split at hk
    · obtain ⟨h1, B, o, h2, h3, h4⟩ := h.blk b k hk
      exact ⟨by omega, B, o, (hold b k hk).trans h2, h3.mono hl (Below.heap_alloc _ _ _ h3.lt), h4⟩
    · rename_i hb
      obtain ⟨h1, h2⟩ : b - H.bs.length = 0 ∧ k = ⟨H.c, cells, true, true⟩ := by
        cases hq : b - H.bs.length with
        | zero => simp [hq] at hk; exact ⟨rfl, hk.symm⟩
        | succ n => simp [hq] at hk
      have hb' : b = H.bs.length := by omega
      subst hb'; subst h2
      refine ⟨by simp, w.heap.size, 0, hnew, ⟨vs.toArray, e, (0, 0), heap_alloc_new w _, by simp [hr.length], ?_, fun _ => rfl⟩, fun _ => h.base⟩
      simp only [List.drop_zero]
      rw [List.take_of_length_le (by simp [hr.length])]
      exact hr.le hl
  · have key : ∀ b k, (H.new cells).bs[b]? = some k → ∀ B o, (G.ext H.bs.length w.heap.size 0 vs.length).mu b k.ver = some (B, o) →
        (b < H.bs.length ∧ H.bs[b]? = some k ∧ G.mu b k.ver = some (B, o) ∧ B < w.heap.size) ∨ (b = H.bs.length ∧ B = w.heap.size) := by
      intro b k hk B o hm
      simp only [Hp.new, List.getElem?_append] at hk
      split at hk
      · rename_i hb
        rw [hold b k hk] at hm
        obtain ⟨cs, e', fr, hh, _⟩ := h.maps b k.ver B o (by rw [h.c]; exact (h.blk b k hk).1) hm
        exact .inl ⟨hb, hk, hm, (Array.getElem?_eq_some_iff.1 hh).1⟩
      · rename_i hb
        obtain ⟨h1, h2⟩ : b - H.bs.length = 0 ∧ k = ⟨H.c, cells, true, true⟩ := by
          cases hq : b - H.bs.length with
          | zero => simp [hq] at hk; exact ⟨rfl, hk.symm⟩
          | succ n => simp [hq] at hk
        have hb' : b = H.bs.length := by omega
        subst hb'; subst h2
        rw [hnew] at hm
        simp at hm
        exact .inr ⟨rfl, hm.1.symm⟩
    intro b k b' k' B o B' o' hne hk hk' hm hm'
    rcases key b k hk B o hm with ⟨h1, h2, h3, h4⟩ | ⟨h1, h2⟩ <;> rcases key b' k' hk' B' o' hm' with ⟨i1, i2, i3, i4⟩ | ⟨i1, i2⟩
    · exact h.apart b k b' k' B o B' o' hne h2 i2 h3 i3
    · exact ⟨fun _ => by omega, fun _ hB => by omega⟩
    · exact ⟨fun _ => by omega, fun _ hB => by omega⟩
    · omega
  · intro b k hk
    simp only [Hp.new, List.getElem?_append] at hk
    split at hk
    · exact h.ones b k hk
    · cases hq : b - H.bs.length with
      | zero => simp [hq] at hk; subst hk; exact h1c
      | succ n => simp [hq] at hk
  · intro b v B o hv hm
    simp only [Cx.ext] at hv hm
    split at hm
    · split at hm
      · simp at hm
        obtain ⟨rfl, rfl⟩ := hm
        exact ⟨vs.toArray, e, (0, 0), heap_alloc_new w _, by simp [Cx.ext]⟩
      · simp at hm
    · have hv' : v < G.c := by omega
      obtain ⟨cs, e', fr, hh, hs⟩ := h.maps b v B o hv' hm
      have hlt := (Array.getElem?_eq_some_iff.1 hh).1
      exact ⟨cs, e', fr, heap_alloc_lt w _ hh, by rw [hs]; simp only [Cx.ext]; rw [if_neg (by omega)]⟩
theorem setRow_same (w : World) (g : Nat) (new cur : Array Value) (t : TypeId) (fr : Nat × Nat) (hg : w.heap[g]? = some (.cells cur t fr)) :
    (w.setRow g new).heap[g]? = some (.cells new t fr) := by
  simp [World.setRow, Array.getElem?_modify, hg]
theorem setRow_ne (w : World) (g x : Nat) (new : Array Value) (h : x ≠ g) : (w.setRow g new).heap[x]? = w.heap[x]? := by
  simp only [World.setRow, Array.getElem?_modify]
  rw [if_neg (fun e => h e.symm)]
theorem setRow_size (w : World) (g : Nat) (new : Array Value) : (w.setRow g new).heap.size = w.heap.size := by simp [World.setRow]
theorem Below.setRow {B : Nat} {a w : World} (h : Below B a w) {g : Nat} (hg : B ≤ g) (new : Array Value) : Below B a (w.setRow g new) :=
  h.trans ⟨rfl, rfl, rfl, by simp [World.setRow], fun k hk => setRow_ne w g k new (by omega)⟩
/-- One block is new, or stands in the place of an elder one. -/
theorem St.update {B0 w0 G H w} (h : St B0 w0 G H w) (b : Nat) (bs' : List Blk) (nk : Blk) (Bn on : Nat) (w' : World) (cs' : Array Value) (e' : TypeId) (fr' : Nat × Nat)
    (hv : nk.ver = H.c) (h1c : nk.cells.all AV.one = true) (hbs : ∀ x, x ≠ b → bs'[x]? = H.bs[x]?) (hb : bs'[b]? = some nk) (hbelow : Below B0 w0 w') (hbase : B0 ≤ w'.heap.size)
    (hcells : w'.heap[Bn]? = some (.cells cs' e' fr')) (hother : ∀ X x, X ≠ Bn → w.heap[X]? = some x → w'.heap[X]? = some x)
    (hBn : w.heap.size ≤ Bn ∨ ∃ cs e fr, w.heap[Bn]? = some (.cells cs e fr) ∧ cs.size = cs'.size)
    (hlen : on + nk.cells.length ≤ cs'.size) (hrv : RVs G nk.cells ((cs'.toList.drop on).take nk.cells.length))
    (hfl : nk.tail = true ∨ nk.solo = true → fr' = (0, 0) ∧ B0 ≤ Bn)
    (hsame : ∀ x k o, x ≠ b → H.bs[x]? = some k → G.mu x k.ver = some (Bn, o) → BlkAt G w' Bn o k)
    (hap : ∀ x k B o, x ≠ b → H.bs[x]? = some k → G.mu x k.ver = some (B, o) → B < w.heap.size →
      (nk.solo = true → B ≠ Bn) ∧ (nk.tail = true → B = Bn → k.tail = false ∧ o + k.cells.length ≤ on + nk.cells.length) ∧ (k.solo = true → Bn ≠ B) ∧ (k.tail = true → Bn = B → nk.tail = false ∧ on + nk.cells.length ≤ o + k.cells.length)) :
    ∃ G', Le G G' ∧ St B0 w0 G' ⟨bs', H.c + 1⟩ w' ∧ G'.mu b H.c = some (Bn, on) ∧ G'.sz Bn = cs'.size := by
  have hsz : ∀ x v B o, v < G.c → G.mu x v = some (B, o) → (G.ext b Bn on cs'.size).sz B = G.sz B := by
    intro x v B o hv' hm
    obtain ⟨cs, e, fr, hh, hs⟩ := h.maps x v B o hv' hm
    simp only [Cx.ext]
    split
    · rename_i hB
      subst hB
      rcases hBn with hge | ⟨c2, e2, f2, h2, h3⟩
      · have := (Array.getElem?_eq_some_iff.1 hh).1; omega
      · rw [hh] at h2; cases h2; rw [← hs, h3]
    · rfl
  have hl : Le G (G.ext b Bn on cs'.size) := ⟨Nat.le_succ _, fun x v hv' => Cx.ext_mu_old _ _ _ _ _ _ _ hv', hsz⟩
  have hnew : (G.ext b Bn on cs'.size).mu b H.c = some (Bn, on) := by rw [← h.c]; exact Cx.ext_mu_new ..
  have hold : ∀ x k, H.bs[x]? = some k → (G.ext b Bn on cs'.size).mu x k.ver = G.mu x k.ver := fun x k hk => Cx.ext_mu_old _ _ _ _ _ _ _ (by rw [h.c]; exact (h.blk x k hk).1)
  refine ⟨_, hl, ⟨hbelow, hbase, by simp [Cx.ext, h.c], ?_, ?_, ?_, ?_⟩, hnew, by simp [Cx.ext]⟩
  · intro x k hk
    by_cases hx : x = b
    · subst hx
      rw [hb] at hk; cases hk
      exact ⟨by simp only; omega, Bn, on, by rw [hv]; exact hnew, ⟨cs', e', fr', hcells, hlen, hrv.le hl, fun hf => (hfl hf).1⟩, fun hf => (hfl hf).2⟩
    · rw [hbs x hx] at hk
      obtain ⟨h1, B, o, h2, h3, h4⟩ := h.blk x k hk
      refine ⟨by simp only; omega, B, o, (hold x k hk).trans h2, ?_, h4⟩
      by_cases hB : B = Bn
      · subst hB
        exact (hsame x k o hx hk h2).mono hl rfl
      · obtain ⟨cs, e, fr, i1, i2, i3, i4⟩ := h3
        exact ⟨cs, e, fr, hother B _ hB i1, i2, i3.le hl, i4⟩
  · intro x k x' k' B o B' o' hne hk hk' hm hm'
    simp only at hk hk'
    by_cases hx : x = b
    · subst hx
      rw [hb] at hk; cases hk
      rw [hv, hnew] at hm; cases hm
      rw [hbs x' (fun e => hne e.symm)] at hk'
      rw [hold x' k' hk'] at hm'
      obtain ⟨cs, e, fr, hh, _⟩ := h.maps x' k'.ver B' o' (by rw [h.c]; exact (h.blk x' k' hk').1) hm'
      have := hap x' k' B' o' (fun e => hne e.symm) hk' hm' (Array.getElem?_eq_some_iff.1 hh).1
      exact ⟨this.1, this.2.1⟩
    · rw [hbs x hx] at hk
      rw [hold x k hk] at hm
      by_cases hx' : x' = b
      · subst hx'
        rw [hb] at hk'; cases hk'
        rw [hv, hnew] at hm'; cases hm'
        obtain ⟨cs, e, fr, hh, _⟩ := h.maps x k.ver B o (by rw [h.c]; exact (h.blk x k hk).1) hm
        have := hap x k B o hx hk hm (Array.getElem?_eq_some_iff.1 hh).1
        exact ⟨fun hs => this.2.2.1 hs, fun ht e => this.2.2.2 ht e⟩
      · rw [hbs x' hx'] at hk'
        rw [hold x' k' hk'] at hm'
        exact h.apart x k x' k' B o B' o' hne hk hk' hm hm'
  · intro x k hk
    by_cases hx : x = b
    · subst hx
      rw [hb] at hk; cases hk; exact h1c
    · rw [hbs x hx] at hk
      exact h.ones x k hk
  · intro x v B o hv' hm
    simp only [Cx.ext] at hv' hm
    split at hm
    · split at hm
      · simp at hm
        obtain ⟨rfl, rfl⟩ := hm
        exact ⟨cs', e', fr', hcells, by simp [Cx.ext]⟩
      · simp at hm
    · have hv2 : v < G.c := by omega
      obtain ⟨cs, e, fr, hh, hs⟩ := h.maps x v B o hv2 hm
      by_cases hB : B = Bn
      · subst hB
        exact ⟨cs', e', fr', hcells, by simp [Cx.ext]⟩
      · exact ⟨cs, e, fr, hother B _ hB hh, by rw [hsz x v B o hv2 hm]; exact hs⟩
/-- A store into a block that nobody else has. -/
theorem St.write {B0 w0 G H w} (h : St B0 w0 G H w) {b k B o cs e fr} (hk : H.bs[b]? = some k) (hs : k.solo = true) (hm : G.mu b k.ver = some (B, o))
    (hh : w.heap[B]? = some (.cells cs e fr)) (us : List AV) (ys : List Value) (hr : RVs G us ys) (h1c : us.all AV.one = true) (p : Nat) (hp : p + us.length ≤ k.cells.length) :
    fr = (0, 0) ∧ St B0 w0 G (H.put b { k with cells := setAll k.cells p us }) (w.setRow B (setAllV cs.toList (o + p) ys).toArray) := by
  obtain ⟨hv, B1, o1, hm1, hat, hB⟩ := h.blk b k hk
  rw [hm] at hm1; cases hm1
  obtain ⟨cs1, e1, fr1, hh1, hlen, hrv, hfr⟩ := hat
  rw [hh] at hh1; cases hh1
  have hfr0 := hfr (.inr hs)
  subst hfr0
  have hyl := hr.length
  have hbl : b < H.bs.length := (List.getElem?_eq_some_iff.1 hk).1
  have hput : ∀ x, (H.bs.set b { k with cells := setAll k.cells p us })[x]? = if x = b then some { k with cells := setAll k.cells p us } else H.bs[x]? := by
    intro x
    rw [List.getElem?_set]
    by_cases hx : b = x
    · subst hx; simp [hbl]
    · rw [if_neg hx, if_neg (fun e => hx e.symm)]
  have hne : ∀ x k', x ≠ b → H.bs[x]? = some k' → ∀ B' o', G.mu x k'.ver = some (B', o') → B' ≠ B := fun x k' hx hk' B' o' hm' => (h.apart b k x k' B o B' o' (fun e => hx e.symm) hk hk' hm hm').1 hs
  refine ⟨rfl, ⟨Below.setRow h.below (hB (.inr hs)) _, by rw [setRow_size]; exact h.base, h.c, ?_, ?_, ?_, ?_⟩⟩
  · intro x k' hk'
    simp only [Hp.put, hput] at hk' ⊢
    by_cases hx : x = b
    · subst hx
      simp only [if_true] at hk'
      cases hk'
      refine ⟨hv, B, o, hm, ⟨_, e, (0, 0), setRow_same w B _ cs e (0, 0) hh, ?_, ?_, fun _ => rfl⟩, hB⟩
      · simp only [length_setAll, List.size_toArray, length_setAllV, Array.length_toList]; exact hlen
      · have key : ((setAllV cs.toList (o + p) ys).drop o).take k.cells.length = setAllV ((cs.toList.drop o).take k.cells.length) p ys := by
          exact drop_setAllV _ _ _ _ _
        simp only [length_setAll, key]
        exact RVs.setAll p hrv hr
    · rw [if_neg hx] at hk'
      obtain ⟨i1, B', o', i2, i3, i4⟩ := h.blk x k' hk'
      exact ⟨i1, B', o', i2, i3.mono (Le.refl G) (setRow_ne w B B' _ (hne x k' hx hk' B' o' i2)), i4⟩
  · intro x k1 x' k2 X o1 X' o2 hxx hk1 hk2 hm1 hm2
    simp only [Hp.put, hput] at hk1 hk2
    have conv : ∀ (y : Nat) (q : Blk), (if y = b then some { k with cells := setAll k.cells p us } else H.bs[y]?) = some q → ∃ q0 : Blk, H.bs[y]? = some q0 ∧ q0.ver = q.ver ∧ q0.solo = q.solo ∧ q0.tail = q.tail ∧ q0.cells.length = q.cells.length := by
      intro y q hq
      split at hq
      · rename_i hy; subst hy; cases hq; exact ⟨k, hk, rfl, rfl, rfl, by simp [length_setAll]⟩
      · exact ⟨q, hq, rfl, rfl, rfl, rfl⟩
    obtain ⟨q1, a1, a2, a3, a4, a5⟩ := conv x k1 hk1
    obtain ⟨q2, b1, b2, b3, b4, b5⟩ := conv x' k2 hk2
    rw [← a2] at hm1
    rw [← b2] at hm2
    have := h.apart x q1 x' q2 X o1 X' o2 hxx a1 b1 hm1 hm2
    rw [← a3, ← a4, ← a5, ← b5, ← b4]
    exact this
  · intro x k' hk'
    simp only [Hp.put, hput] at hk'
    split at hk'
    · cases hk'
      exact all_setAll _ _ _ (h.ones b k hk) h1c
    · exact h.ones x k' hk'
  · intro x v X o' hv' hm'
    obtain ⟨c2, e2, f2, hh2, hs2⟩ := h.maps x v X o' hv' hm'
    by_cases hX : X = B
    · subst hX
      rw [hh] at hh2; cases hh2
      exact ⟨_, e, (0, 0), setRow_same w X _ cs e (0, 0) hh, by simp only [List.size_toArray, length_setAllV, Array.length_toList]; exact hs2⟩
    · exact ⟨c2, e2, f2, (setRow_ne w B X _ hX).trans hh2, hs2⟩
/-- Rights are let go. -/
theorem St.lower {B0 w0 G H w} (h : St B0 w0 G H w) {b k} (hk : H.bs[b]? = some k) : St B0 w0 G (H.put b { k with tail := false, solo := false }) w := by
  have hbl : b < H.bs.length := (List.getElem?_eq_some_iff.1 hk).1
  have conv : ∀ (y : Nat) (q : Blk), (H.bs.set b { k with tail := false, solo := false })[y]? = some q → ∃ q0 : Blk, H.bs[y]? = some q0 ∧ q0.ver = q.ver ∧ (q.solo = true → q0.solo = true) ∧ (q.tail = true → q0.tail = true) ∧ q0.cells = q.cells := by
    intro y q hq
    rw [List.getElem?_set] at hq
    split at hq
    · rename_i hy; subst hy
      cases hq; exact ⟨k, hk, rfl, fun e => by simp at e, fun e => by simp at e, rfl⟩
    · exact ⟨q, hq, rfl, id, id, rfl⟩
  refine ⟨h.below, h.base, h.c, ?_, ?_, fun x q hq => (by obtain ⟨q0, a1, _, _, _, a5⟩ := conv x q hq; rw [← a5]; exact h.ones x q0 a1), h.maps⟩
  · intro x q hq
    obtain ⟨q0, a1, a2, a3, a4, a5⟩ := conv x q hq
    obtain ⟨i1, B, o, i2, ⟨cs, e, fr, j1, j2, j3, j4⟩, i4⟩ := h.blk x q0 a1
    rw [a2] at i1 i2
    rw [a5] at j2 j3
    exact ⟨i1, B, o, i2, ⟨cs, e, fr, j1, j2, j3, fun hf => j4 (hf.imp a4 a3)⟩, fun hf => i4 (hf.imp a4 a3)⟩
  · intro x k1 x' k2 X o1 X' o2 hxx hk1 hk2 hm1 hm2
    obtain ⟨q1, a1, a2, a3, a4, a5⟩ := conv x k1 hk1
    obtain ⟨q2, b1, b2, b3, b4, b5⟩ := conv x' k2 hk2
    rw [← a2] at hm1
    rw [← b2] at hm2
    have := h.apart x q1 x' q2 X o1 X' o2 hxx a1 b1 hm1 hm2
    rw [← a5, ← b5]
    refine ⟨fun hf => this.1 (a3 hf), fun hf hB => ⟨?_, (this.2 (a4 hf) hB).2⟩⟩
    cases hq : k2.tail with
    | false => rfl
    | true => have := (this.2 (a4 hf) hB).1; rw [b4 hq] at this; cases this
/- Each operation of the executor does what the machine's does. -/
/-- What the program's table of types says of a type. -/
structure TyOK (P : Program) (t : Nat) (i : TI) : Prop where
  info : ∃ q z, P.info? t = some q ∧ q.size = i.size ∧ q.bytes = i.bytes ∧ q.zero = some z ∧ (∀ G, RVs G i.zero z.cells.toList) ∧ i.zero.length = i.size ∧ i.zero.all AV.one = true
  desc : match i.d with
    | .bool => P.underlying t = some .bool
    | .int k => P.underlying t = some (.int k)
    | .str => P.underlying t = some .string
    | .slice e => P.underlying t = some (.slice e)
    | .array n e => P.underlying t = some (.array n e)
    | .struct fs => ∃ fields : Array Field, P.underlying t = some (.struct fields) ∧ fields.toList.map (fun f => (f.offset, f.type)) = fs ∧ fields.toList.all (fun f => (P.info? f.type).isSome) = true
    | .ptr e => P.underlying t = some (.pointer e)
    | .func => ∃ a b v, P.underlying t = some (.func a b v)
    | .other => ∃ d, P.underlying t = some d ∧ (match d with | .struct _ | .array _ _ => False | _ => True)
def TOK (P : Program) (T : Tab) : Prop := ∀ t i, T t = some i → TyOK P t i
section
variable {P : Program} {T : Tab} {B0 : Nat} {w0 w : World} {G : Cx} {H : Hp}
theorem Tab.d_eq {T : Tab} {t : Nat} {d : TD} (h : Tab.d T t = d) (hd : d ≠ .other) : ∃ i, T t = some i ∧ i.d = d := by
  unfold Tab.d at h
  cases hi : T t with
  | none => rw [hi] at h; exact absurd h.symm hd
  | some i => rw [hi] at h; exact ⟨i, rfl, h⟩
theorem run_isAgg {t : Nat} {i : TI} (h : TyOK P t i) (w : World) : (isAgg t).run P w = .ok (match i.d with | .struct _ | .array _ _ => true | _ => false) w := by
  have hd := h.desc
  unfold isAgg
  cases hi : i.d <;> simp only [hi] at hd <;> first
    | (obtain ⟨f, h1, _⟩ := hd; simp [underlying, h1]; done)
    | (obtain ⟨a, b, v, h1⟩ := hd; simp [underlying, h1]; done)
    | (simp [underlying, hd]; done)
    | (obtain ⟨d, h1, h2⟩ := hd; simp only [underlying, Sem.run_bind, run_program, Result.andThen_ok, h1, Sem.run_pure]; cases d <;> first | rfl | exact h2.elim)
theorem run_sizeOf {t : Nat} {i : TI} (h : TyOK P t i) (w : World) : (sizeOf t).run P w = .ok i.size w := by
  obtain ⟨q, z, h1, h2, _⟩ := h.info
  simp [sizeOf, typeInfo, h1, h2]
theorem run_zero {t : Nat} {i : TI} (h : TyOK P t i) (w : World) : ∃ z, (zeroValue t).run P w = .ok z w ∧ (∀ G, RVs G i.zero z.cells.toList) ∧ i.zero.all AV.one = true := by
  obtain ⟨q, z, h1, h2, h3, h4, h5, _, h6⟩ := h.info
  exact ⟨z, by simp [zeroValue, typeInfo, h1, h4], h5, h6⟩
def OkV (P : Program) (B0 : Nat) (w0 : World) (G : Cx) (w : World) (m : Sem Value) (v' : AV) (H' : Hp) : Prop :=
  ∃ v w' G', m.run P w = .ok v w' ∧ Le G G' ∧ St B0 w0 G' H' w' ∧ RV G' v' v
/-- The cells of an abstract block, seen by the machine. -/
theorem St.cellsAt (h : St B0 w0 G H w) {b ver B o : Nat} {k : Blk} (hk : H.at b ver = some k) (hm : G.mu b ver = some (B, o)) :
    ∃ cs e fr, w.heap[B]? = some (.cells cs e fr) ∧ o + k.cells.length ≤ cs.size ∧ RVs G k.cells ((cs.toList.drop o).take k.cells.length) ∧ (k.tail = true ∨ k.solo = true → fr = (0, 0)) ∧ cs.size = G.sz B := by
  obtain ⟨hk1, hv⟩ := Hp.at_some hk
  subst hv
  obtain ⟨h1, B', o', h2, ⟨cs, e, fr, h3, h4, h5, h6⟩, _⟩ := h.blk b k hk1
  rw [hm] at h2; cases h2
  obtain ⟨cs', e', fr', h7, h8⟩ := h.maps b k.ver B o (by rw [h.c]; exact h1) hm
  rw [h3] at h7; cases h7
  exact ⟨cs, e, fr, h3, h4, h5, h6, h8⟩
theorem add_plain' (B p j : Nat) : (⟨B, p, none⟩ : Addr).add j = ⟨B, p + j, none⟩ := by unfold Addr.add; split <;> simp_all
theorem run_loadCells_at {B : Nat} {cs : Array Value} {e fr} (hh : w.heap[B]? = some (.cells cs e fr)) (p n : Nat) (hp : p + n ≤ cs.size) :
    (loadCells ⟨B, p, none⟩ n).run P w = .ok ((cs.toList.drop p).take n).toArray w := by
  have := run_loadCells_list (P := P) w ⟨B, p, none⟩ ((cs.toList.drop p).take n) (fun j v hj => by
    rw [add_plain']
    simp only [List.getElem?_take, List.getElem?_drop] at hj
    split at hj
    · simp only [World.cell?, hh, Option.isSome_none, Bool.false_eq_true, if_false]; simpa using hj
    · cases hj)
  rwa [List.length_take, List.length_drop, Array.length_toList, Nat.min_eq_left (by omega)] at this
theorem run_cell_at {B : Nat} {cs : Array Value} {e fr} (hh : w.heap[B]? = some (.cells cs e fr)) (p : Nat) {v : Value} (hv : cs.toList[p]? = some v) :
    (load ⟨B, p, none⟩).run P w = .ok v w := by
  have : w.cell? ⟨B, p, none⟩ = some v := by simp only [World.cell?, hh, Option.isSome_none, Bool.false_eq_true, if_false]; simpa using hv
  simp [this]
theorem load_ok (hT : TOK P T) (h : St B0 w0 G H w) {t : Nat} {a v' : AV} {va : Value} (ha : RV G a va) (hl : aload T t a H = some v') : OkV P B0 w0 G w (Instr.loadAt t va) v' H := by
  unfold aload at hl
  split at hl
  · rename_i i b ver off hi
    cases ha with | ptr _ _ _ B o h1 h2 =>
    split at hl
    · rename_i k hk
      obtain ⟨cs, e, fr, hh, hlen, hrv, _⟩ := h.cellsAt hk h2
      have ht := hT t i hi
      have hagg := run_isAgg ht w
      have key : ∀ n, off + n ≤ k.cells.length → RVs G ((k.cells.drop off).take n) ((cs.toList.drop (o + off)).take n) := by
        intro n hn
        have := (hrv.drop off).take n
        rw [List.drop_take, List.take_take, List.drop_drop] at this
        rwa [Nat.min_eq_left (by omega)] at this
      have aggcase : off + i.size ≤ k.cells.length → (isAgg t).run P w = .ok true w → some (AV.agg ((k.cells.drop off).take i.size)) = some v' → OkV P B0 w0 G w (Instr.loadAt t (.pointer (some ⟨B, o + off, none⟩))) v' H := by
        intro hle hag hv
        cases hv
        refine ⟨.agg ((cs.toList.drop (o + off)).take i.size).toArray, w, G, ?_, Le.refl G, h, .agg _ _ (key _ hle)⟩
        simp [Instr.loadAt, Instr.sureAddr, loadVar, hag, run_sizeOf ht, run_loadCells_at hh (o + off) i.size (by omega)]
      have onecase : (isAgg t).run P w = .ok false w → k.cells[off]? = some v' → OkV P B0 w0 G w (Instr.loadAt t (.pointer (some ⟨B, o + off, none⟩))) v' H := by
        intro hag hv
        obtain ⟨v, hv1, hv2⟩ := hrv.get hv
        have hv3 : cs.toList[o + off]? = some v := by
          simp only [List.getElem?_take, List.getElem?_drop] at hv1
          split at hv1
          · exact hv1
          · cases hv1
        refine ⟨v, w, G, ?_, Le.refl G, h, hv2⟩
        simp only [Instr.loadAt, Instr.sureAddr, loadVar, Sem.run_bind, Sem.run_pure, Result.andThen_ok, hag, Bool.false_eq_true, if_false, Sem.run_ite]
        exact run_cell_at hh _ hv3
      cases hd : i.d <;> simp only [hd] at hl hagg <;> first
        | (split at hl
           · exact aggcase ‹_› hagg hl
           · cases hl)
        | exact onecase hagg hl
    · cases hl
  · cases hl
theorem run_storeVar {t : Nat} {i : TI} (ht : TyOK P t i) {B p : Nat} {cs : Array Value} {e} (hh : w.heap[B]? = some (.cells cs e (0, 0))) (v : Value) (hs : v.cells.size = i.size) (hp : p + i.size ≤ cs.size) (h1 : ∀ x ∈ v.cells.toList, x.oneCell' = true) :
    (storeVar t ⟨B, p, none⟩ v).run P w = .ok () (w.setRow B (setAllV cs.toList p v.cells.toList).toArray) := by
  have hst := run_storeCells_at P B p e v.cells.toList 0 cs w hh (by simpa [hs] using hp) h1
  rw [setAllV_eq _ _ _ (by simpa [hs] using hp)]
  simp only [Nat.add_zero] at hst
  simp only [storeVar, Sem.run_bind, run_sizeOf ht, Result.andThen_ok, hs, ne_eq, not_true, if_false, Sem.run_ite, Sem.run_pure]
  exact hst
theorem store_ok (hT : TOK P T) (h : St B0 w0 G H w) {t : Nat} {a x : AV} {va vx : Value} {H' : Hp} (ha : RV G a va) (hx : RV G x vx) (hl : astore T t a x H = some H') :
    ∃ w', (Instr.storeAt t va vx).run P w = .ok () w' ∧ St B0 w0 G H' w' := by
  unfold astore at hl
  split at hl
  · rename_i i b ver off hi
    cases ha with | ptr _ _ _ B o h1 h2 =>
    split at hl
    · rename_i k hk
      split at hl
      · rename_i hc
        obtain ⟨c1, c2, c3, c4⟩ := hc
        cases hl
        obtain ⟨cs, e, fr, hh, hlen, hrv, hfr, _⟩ := h.cellsAt hk h2
        obtain ⟨hk1, hv⟩ := Hp.at_some hk
        subst hv
        have hbad : x ≠ .bad := by rintro rfl; simp [AV.cells, AV.one] at c4
        have htup : ∀ cs, x ≠ .tup cs := by rintro cs rfl; simp [AV.cells, AV.one] at c4
        have hcells := hx.cells hbad htup
        obtain ⟨hf0, hst⟩ := h.write hk1 c1 h2 hh _ _ hcells c4 off (by omega)
        subst hf0
        have hsz : vx.cells.size = i.size := by have := hcells.length; simp at this; omega
        refine ⟨_, ?_, hst⟩
        simp only [Instr.storeAt, Instr.sureAddr, Sem.run_bind, Sem.run_pure, Result.andThen_ok]
        exact run_storeVar (hT t i hi) hh vx hsz (by omega) (hcells.one c4)
      · cases hl
    · cases hl
  · cases hl
theorem alloc_ok (hT : TOK P T) (h : St B0 w0 G H w) {t : Nat} {i : TI} (hi : T t = some i) :
    OkV P B0 w0 G w (Instr.alloc t true (.tuple #[])) (.ptr H.bs.length H.c 0) (H.new i.zero) := by
  obtain ⟨z, hz, hr, h1⟩ := run_zero (hT t i hi) w
  obtain ⟨G', hl, hst, hmu, _⟩ := h.alloc i.zero z.cells.toList t (hr G) h1
  refine ⟨.pointer (some ⟨w.heap.size, 0, none⟩), _, G', ?_, hl, hst, ?_⟩
  · simp [Instr.alloc, hz, newVar, newRow]
  · have := RV.ptr (G := G') H.bs.length H.c 0 w.heap.size 0 (by have := hst.c; simp [Hp.new] at this; omega) hmu
    simpa using this
theorem box_ok (h : St B0 w0 G H w) {t : Nat} {x : AV} {vx : Value} (hx : RV G x vx) (h1 : x.cells.all AV.one = true) :
    OkV P B0 w0 G w (Instr.box t vx) (.ptr H.bs.length H.c 0) (H.new x.cells) := by
  have hbad : x ≠ .bad := by rintro rfl; simp [AV.cells, AV.one] at h1
  have htup : ∀ cs, x ≠ .tup cs := by rintro cs rfl; simp [AV.cells, AV.one] at h1
  obtain ⟨G', hl, hst, hmu, _⟩ := h.alloc x.cells vx.cells.toList t (hx.cells hbad htup) h1
  refine ⟨.pointer (some ⟨w.heap.size, 0, none⟩), _, G', ?_, hl, hst, ?_⟩
  · simp [Instr.box, newVar, newRow]
  · have := RV.ptr (G := G') H.bs.length H.c 0 w.heap.size 0 (by have := hst.c; simp [Hp.new] at this; omega) hmu
    simpa using this
end
/- More operations: build, make, slices, arithmetic. -/
section
variable {P : Program} {T : Tab} {B0 : Nat} {w0 w : World} {G : Cx} {H : Hp}
theorem TyOK.under {t i} (h : TyOK P t i) : ∃ d, P.underlying t = some d := by
  have hd := h.desc
  cases hi : i.d <;> simp only [hi] at hd <;> first
    | exact ⟨_, hd⟩
    | (obtain ⟨f, h1, _⟩ := hd; exact ⟨_, h1⟩)
    | (obtain ⟨a, b, v, h1⟩ := hd; exact ⟨_, h1⟩)
theorem RVs.ofGet {as : List AV} {vs : List Value} (hl : as.length = vs.length) (h : ∀ (i : Nat) (a : AV) (v : Value), as[i]? = some a → vs[i]? = some v → RV G a v) : RVs G as vs := by
  induction as generalizing vs with
  | nil => cases vs with | nil => exact .nil | cons _ _ => simp at hl
  | cons a as ih => cases vs with
    | nil => simp at hl
    | cons v vs => exact .cons _ _ _ _ (h 0 a v rfl rfl) (ih (by simpa using hl) fun i x y hx hy => h (i + 1) x y (by simpa using hx) (by simpa using hy))
theorem foldl_set (off : Nat) : ∀ (vs : List Value) (k : Nat) (cells : Array Value),
    (vs.zipIdx k).foldl (fun cs (p : Value × Nat) => cs.setIfInBounds (off + p.2) p.1) cells = (setAllV cells.toList (off + k) vs).toArray := by
  intro vs
  induction vs with
  | nil => intro k cells; simp [setAllV]
  | cons v vs ih =>
    intro k cells
    simp only [List.zipIdx_cons, List.foldl_cons, ih, setAllV, Array.toList_setIfInBounds]
    rfl
theorem fill_ok {pl pl' : Nat → Option (Nat × Nat)} (hpl : ∀ j x, pl j = some x → pl' j = some x) : ∀ (ps : List (Nat × AV)) (qs : List (Nat × Value)) (cells out : List AV) (vcells : List Value),
    RVs G cells vcells → ps.map (·.1) = qs.map (·.1) → RVs G (ps.map (·.2)) (qs.map (·.2)) → afill pl cells ps = some out →
    ∃ vo, Instr.fill pl' vcells.toArray qs = some vo ∧ RVs G out vo.toList := by
  intro ps
  induction ps with
  | nil =>
    intro qs cells out vcells hr h1 h2 hf
    cases qs with
    | nil => simp [afill] at hf; subst hf; exact ⟨_, rfl, by simpa using hr⟩
    | cons _ _ => simp at h1
  | cons p ps ih =>
    intro qs cells out vcells hr h1 h2 hf
    cases qs with
    | nil => simp at h1
    | cons q qs =>
      obtain ⟨i, a⟩ := p
      obtain ⟨i', v⟩ := q
      simp only [List.map_cons, List.cons.injEq] at h1 h2
      obtain ⟨rfl, h1⟩ := h1
      cases h2 with | cons _ _ _ _ ha h2 =>
      simp only [afill] at hf
      split at hf
      · cases hf
      · rename_i x off size hp
        split at hf
        · cases hf
        · rename_i hc
          have c1 : a.cells.length = size := by
            rcases Nat.decEq a.cells.length size with e | e
            · exact absurd (.inl e) hc
            · exact e
          have c2 : ¬ off + a.cells.length > cells.length := fun e => hc (.inr (.inl e))
          have c3 : a.cells.all AV.one = true := by
            cases e : a.cells.all AV.one with
            | true => rfl
            | false => exact absurd (.inr (.inr e)) hc
          have hbad : a ≠ .bad := by rintro rfl; simp [AV.cells, AV.one] at c3
          have htup : ∀ cs, a ≠ .tup cs := by rintro cs rfl; simp [AV.cells, AV.one] at c3
          have hcells := ha.cells hbad htup
          have hlen := hcells.length
          simp at hlen
          have hl2 := hr.length
          obtain ⟨vo, h3, h4⟩ := ih qs (setAll cells off a.cells) out (setAllV vcells off v.cells.toList) (RVs.setAll off hr hcells) h1 h2 hf
          refine ⟨vo, ?_, h4⟩
          simp only [Instr.fill, hpl i _ hp]
          rw [if_neg (by simp; omega)]
          have e : v.cells.zipIdx.foldl (fun cs x => match x with | (c, j) => cs.setIfInBounds (off + j) c) vcells.toArray = (setAllV vcells off v.cells.toList).toArray := by
            rw [← Array.foldl_toList, Array.toList_zipIdx]
            have := foldl_set off v.cells.toList 0 vcells.toArray
            simpa using this
          rw [← h3]
          congr 1
theorem rep_length (z : List AV) : ∀ n, (rep n z).length = n * z.length := by
  intro n; induction n with
  | zero => simp [rep]
  | succ n ih => simp [rep, ih, Nat.add_mul, Nat.add_comm]
theorem rep_get (z : List AV) : ∀ (n i : Nat), i < n * z.length → (rep n z)[i]? = z[i % z.length]? := by
  intro n; induction n with
  | zero => intro i h; simp at h
  | succ n ih =>
    intro i h
    simp only [rep, List.getElem?_append]
    split
    · rw [Nat.mod_eq_of_lt (by assumption)]
    · rename_i hi
      have hi : z.length ≤ i := Nat.le_of_not_lt hi
      rw [ih (i - z.length) (by rw [Nat.succ_mul] at h; omega)]
      congr 1
      rw [← Nat.mod_eq_sub_mod hi]
theorem rep_ok {z : List AV} {zv : Array Value} (h : RVs G z zv.toList) (n : Nat) : RVs G (rep n z) (madeCells zv (n * z.length)).toList := by
  have hl := h.length
  simp at hl
  refine RVs.ofGet (by simp [rep_length, madeCells]) fun i a v ha hv => ?_
  have hi : i < n * z.length := by
    have := (List.getElem?_eq_some_iff.1 ha).1
    rwa [rep_length] at this
  rw [rep_get z n i hi] at ha
  obtain ⟨u, hu, hr⟩ := h.get ha
  have hz : 0 < z.length := Nat.pos_of_ne_zero fun e => by simp [e] at hi
  simp only [madeCells, Array.toList_map, Array.toList_range, List.getElem?_map, List.getElem?_range hi, Option.map_some, Option.some.injEq] at hv
  have hm : i % zv.size < zv.size := Nat.mod_lt _ (by omega)
  rw [getElem!_pos zv (i % zv.size) hm] at hv
  rw [hl] at hu
  simp [hm] at hu
  rw [← hv, hu]; exact hr
theorem rep_all (z : List AV) (hz : z.all AV.one = true) : ∀ n, (rep n z).all AV.one = true := by
  intro n; induction n with
  | zero => rfl
  | succ n ih => simp only [rep, List.all_append, hz, ih, Bool.and_self]
theorem afill_all {pl : Nat → Option (Nat × Nat)} : ∀ (ps : List (Nat × AV)) (c o : List AV), c.all AV.one = true → afill pl c ps = some o → o.all AV.one = true := by
  intro ps
  induction ps with
  | nil => intro c o h1 h; simp [afill] at h; rw [← h]; exact h1
  | cons p ps ih =>
    intro c o h1 h
    obtain ⟨i, a⟩ := p
    simp only [afill] at h
    split at h
    · cases h
    · split at h
      · cases h
      · rename_i hc
        refine ih _ _ (all_setAll _ _ _ h1 ?_) h
        cases e : a.cells.all AV.one with
        | true => rfl
        | false => exact absurd (.inr (.inr e)) hc
theorem makeSlice_ok (hT : TOK P T) (h : St B0 w0 G H w) {t e : Nat} {ie : TI} {k k' : IntKind} {n : Int} (ht : Tab.d T t = .slice e) (he : T e = some ie)
    (h0 : 0 ≤ n) (hb : (ie.bytes : Int) * n ≤ 281474976710656) (hn : n ≤ 281474976710656) :
    OkV P B0 w0 G w (Instr.makeSlice t (.int k n) (.int k' n)) (.sl H.bs.length H.c 0 n.toNat ie.size true) (H.new (rep n.toNat ie.zero)) := by
  obtain ⟨it, h1, h2⟩ := Tab.d_eq ht (by simp)
  have hd := (hT t it h1).desc
  simp only [h2] at hd
  obtain ⟨q, z, i1, i2, i3, i4, i5, i6, i7⟩ := (hT e ie he).info
  have hr := run_make (P := P) w t e q z hd i1 i4 k k' n n h0 (Int.le_refl _) (by rw [i3]; exact hb) (by omega)
  have hrep := rep_ok (i5 G) n.toNat
  rw [i6, ← i2] at hrep
  obtain ⟨G', hl, hst, hmu, hsz⟩ := h.alloc _ _ e hrep (rep_all _ i7 _)
  refine ⟨_, _, G', hr, hl, by simpa using hst, ?_⟩
  refine .sl _ _ _ _ _ _ w.heap.size 0 _ _ ?_ hmu (Nat.le_refl _) (fun _ => rfl) fun _ => ⟨by simp, ?_⟩
  · have := hst.c; simp [Hp.new] at this; omega
  · rw [hsz]; simp [madeCells, i2]
theorem buildSlice_ok (hT : TOK P T) (h : St B0 w0 G H w) {t e n : Nat} {ie : TI} (ht : Tab.d T t = .slice e) (he : T e = some ie) (hn : n * ie.size ≤ 16777216)
    {ps : List (Nat × AV)} {qs : Array (Nat × Value)} {cs : List AV} (h1 : ps.map (·.1) = qs.toList.map (·.1)) (h2 : RVs G (ps.map (·.2)) (qs.toList.map (·.2)))
    (hf : afill (fun j => some (j * ie.size, ie.size)) (rep n ie.zero) ps = some cs) :
    OkV P B0 w0 G w (Instr.buildSlice t n qs) (.sl H.bs.length H.c 0 n ie.size true) (H.new cs) := by
  obtain ⟨it, h3, h4⟩ := Tab.d_eq ht (by simp)
  have hd := (hT t it h3).desc
  simp only [h4] at hd
  obtain ⟨q, z, i1, i2, i3, i4, i5, i6, i7⟩ := (hT e ie he).info
  have hrep := rep_ok (i5 G) n
  rw [i6] at hrep
  have hlen : cs.length = n * ie.size := by
    have : ∀ (ps : List (Nat × AV)) (c o : List AV), afill (fun j => some (j * ie.size, ie.size)) c ps = some o → o.length = c.length := by
      intro ps
      induction ps with
      | nil => intro c o h; simp [afill] at h; rw [h]
      | cons p ps ih =>
        intro c o h
        obtain ⟨i, a⟩ := p
        simp only [afill] at h
        split at h
        · cases h
        · rw [ih _ _ h, length_setAll]
    rw [this _ _ _ hf, rep_length, i6]
  obtain ⟨vo, hv1, hv2⟩ := fill_ok (G := G) (pl' := fun j => some (j * ie.size, ie.size)) (fun _ _ h => h) ps qs.toList _ cs _ hrep h1 h2 hf
  obtain ⟨G', hl, hst, hmu, hsz⟩ := h.alloc cs vo.toList e hv2 (afill_all _ _ _ (rep_all _ i7 _) hf)
  have hvl := hv2.length
  refine ⟨.slice (some ⟨w.heap.size, 0, none⟩) n n, _, G', ?_, hl, by simpa using hst, ?_⟩
  · have hrs := run_sizeOf (hT e ie he) w
    have hz : (zeroValue e).run P w = .ok z w := by simp [zeroValue, typeInfo, i1, i4]
    by_cases h0 : n * ie.size = 0
    · have hv1' : Instr.fill (fun i => some (i * ie.size, ie.size)) #[] qs.toList = some vo := by
        rw [← hv1]; simp [madeCells, h0, Array.range_zero']
      simp [Instr.buildSlice, underlying, hd, hrs, h0, hv1', newRow, Array.range_zero']
    · have hv1' : Instr.fill (fun i => some (i * ie.size, ie.size)) ((Array.range (n * ie.size)).map (z.cells[· % z.cells.size]!)) qs.toList = some vo := by
        rw [← hv1]; congr 1
      simp [Instr.buildSlice, underlying, hd, hrs, h0, hz, hv1', newRow, show ¬ 16777216 < n * ie.size by omega]
  · refine .sl _ _ _ _ _ _ w.heap.size 0 _ _ ?_ hmu (Nat.le_refl _) (fun _ => rfl) fun _ => ⟨by simp, ?_⟩
    · have := hst.c; simp [Hp.new] at this; omega
    · rw [hsz, ← hvl, hlen]; omega
def fsz (f : Field) : Sem (Nat × Nat) := do pure (f.offset, ← sizeOf f.type)
theorem build_ok (hT : TOK P T) (h : St B0 w0 G H w) {t : Nat} {ps : Array (Nat × AV)} {qs : Array (Nat × Value)} {pl : Nat → Option (Nat × Nat)} {i : TI} {cs : List AV} (hi : T t = some i)
    (h1 : ps.toList.map (·.1) = qs.toList.map (·.1)) (h2 : RVs G (ps.toList.map (·.2)) (qs.toList.map (·.2))) (hf : afill pl i.zero ps.toList = some cs)
    (hpl : (∃ fs, i.d = .struct fs ∧ pl = fun j => (fs[j]?).bind fun f => (T f.2).map fun i => (f.1, i.size)) ∨ (∃ n e ie, i.d = .array n e ∧ T e = some ie ∧ pl = fun j => some (j * ie.size, ie.size))) :
    OkV P B0 w0 G w (Instr.build t qs) (.agg cs) H := by
  have ht := hT t i hi
  obtain ⟨z, hz, hr, _⟩ := run_zero ht w
  have hd := ht.desc
  have hrun : ∀ pl' : Nat → Option (Nat × Nat), (∀ j x, pl j = some x → pl' j = some x) → ∃ vo, Instr.fill pl' z.cells qs.toList = some vo ∧ RVs G cs vo.toList := by
    intro pl' hp
    have := fill_ok (G := G) hp ps.toList qs.toList i.zero cs z.cells.toList (hr G) h1 h2 hf
    simpa using this
  rcases hpl with ⟨fs, h3, h4⟩ | ⟨n, e, ie, h3, h4, h5⟩
  · simp only [h3] at hd
    obtain ⟨fields, h5, h6⟩ := hd
    obtain ⟨h7, h8⟩ := h6
    have hsz : ∀ (l : List Field) (W : World), l.all (fun f => (P.info? f.type).isSome) = true →
        (l.mapM fsz).run P W = .ok (l.map fun f => (f.offset, ((P.info? f.type).map (·.size)).getD 0)) W := by
      intro l
      induction l with
      | nil => intro W _; simp
      | cons f l ih =>
        intro W hq
        simp only [List.all_cons, Bool.and_eq_true] at hq
        obtain ⟨q, hq1⟩ := Option.isSome_iff_exists.1 hq.1
        have hf : (fsz f).run P W = .ok (f.offset, q.size) W := by simp [fsz, sizeOf, typeInfo, hq1]
        simp [hf, ih W hq.2, hq1]
    have harr : (fields.mapM fsz).run P w = .ok (fields.toList.map fun f => (f.offset, ((P.info? f.type).map (·.size)).getD 0)).toArray w := by
      rw [Array.mapM_eq_mapM_toList]
      simp [hsz _ w h8]
    obtain ⟨vo, hv1, hv2⟩ := hrun (fun j => (fields.toList.map fun f => (f.offset, ((P.info? f.type).map (·.size)).getD 0)).toArray[j]?) (by
      intro j x hx
      rw [h4] at hx
      simp only [← h7, List.getElem?_map, Option.bind_eq_some_iff, Option.map_eq_some_iff] at hx
      obtain ⟨a, ⟨f, hf1, rfl⟩, ie, hie, rfl⟩ := hx
      obtain ⟨q, z', i1, i2, _⟩ := (hT f.type ie hie).info
      simp only [List.getElem?_toArray, List.getElem?_map, hf1, Option.map_some, i1, Option.getD_some, i2])
    refine ⟨.agg vo, w, G, ?_, Le.refl G, h, by simpa using RV.agg cs vo.toList hv2⟩
    have e : (fun f : Field => (do pure (f.offset, ← sizeOf f.type) : Sem (Nat × Nat))) = fsz := rfl
    simp only [Instr.build, Sem.run_bind, hz, Result.andThen_ok, underlying, run_program, h5, Sem.run_pure, e, harr, hv1]
  · simp only [h3] at hd
    obtain ⟨vo, hv1, hv2⟩ := hrun (fun j => some (j * ie.size, ie.size)) (by intro j x hx; rw [h5] at hx; exact hx)
    refine ⟨.agg vo, w, G, ?_, Le.refl G, h, by simpa using RV.agg cs vo.toList hv2⟩
    simp [Instr.build, hz, underlying, hd, run_sizeOf (hT e ie h4), hv1]
end
/- Arithmetic, slices, places, append, copy. -/
section
variable {P : Program} {T : Tab} {B0 : Nat} {w0 w : World} {G : Cx} {H : Hp}
theorem acmp_ok {op : BinOp} {a b : Int} {v : AV} (h : acmp op a b = some v) : ∃ x, (Op.intCmp op a b).run P w = .ok x w ∧ RV G v x := by
  cases op <;> simp only [acmp] at h <;> first
    | (cases h; exact ⟨_, rfl, .bool _⟩)
    | cases h
theorem aint_ok {op : BinOp} {t : Nat} {k : IntKind} {a b : Int} {v : AV} (h : aint op k a b = some v) : ∃ x, (binOp op t (.int k a) (.int k b)).run P w = .ok x w ∧ RV G v x := by
  cases op <;> simp only [aint] at h
  case add => cases h; exact ⟨_, by simp [binOp, Op.intArith], .int _ _⟩
  case sub => cases h; exact ⟨_, by simp [binOp, Op.intArith], .int _ _⟩
  case mul => cases h; exact ⟨_, by simp [binOp, Op.intArith], .int _ _⟩
  case quo => split at h; · cases h
              · cases h; exact ⟨_, by simp [binOp, Op.intDiv, *], .int _ _⟩
  case rem => split at h; · cases h
              · cases h; exact ⟨_, by simp [binOp, Op.intDiv, *], .int _ _⟩
  case and => cases h; exact ⟨_, by simp [binOp, Op.intBits], .int _ _⟩
  case shl => split at h; · cases h
              · cases h; exact ⟨_, by simp [binOp, Op.shift, *], .int _ _⟩
  case shr => split at h; · cases h
              · cases h; exact ⟨_, by simp [binOp, Op.shift, *], .int _ _⟩
  case or => cases h
  case xor => cases h
  case andNot => cases h
  all_goals
    obtain ⟨x, h1, h2⟩ := acmp_ok (P := P) (w := w) (G := G) h
    exact ⟨x, by simpa [binOp] using h1, h2⟩
theorem run_equalIn_ptr (d t e : Nat) (a : Option Addr) (h : P.underlying t = some (.pointer e)) : (Op.equalIn (d + 1) t (.pointer a) (.pointer none)).run P w = .ok a.isNone w := by
  cases a <;> simp [Op.equalIn, run_underlying h]
theorem run_equal_ptr (t e : Nat) (a : Option Addr) (h : P.underlying t = some (.pointer e)) : (Op.equal t (.pointer a) (.pointer none)).run P w = .ok a.isNone w :=
  run_equalIn_ptr 9999 t e a h
theorem run_equal_slice (t e : Nat) (a : Option Addr) (n c : Nat) (h : P.underlying t = some (.slice e)) : (Op.equal t (.slice a n c) (.slice none 0 0)).run P w = .ok a.isNone w :=
  Lib.run_equalIn_slice_nil w 9999 t e a n c 0 0 h
theorem bin_nilS (hT : TOK P T) {t e : Nat} (hd : Tab.d T t = .slice e) {x : AV} {vx : Value} (hx : RV G x vx) {q : Bool} (hq : anilS x = some q) : (Op.equal t vx (.slice none 0 0)).run P w = .ok q w := by
  obtain ⟨i, h1, h2⟩ := Tab.d_eq hd (by simp)
  have hu := (hT t i h1).desc
  simp only [h2] at hu
  cases hx <;> simp only [anilS] at hq <;> cases hq <;> exact run_equal_slice _ _ _ _ _ hu
theorem bin_nilP (hT : TOK P T) {t e : Nat} (hd : Tab.d T t = .ptr e) {x : AV} {vx : Value} (hx : RV G x vx) {q : Bool} (hq : anilP x = some q) : (Op.equal t vx (.pointer none)).run P w = .ok q w := by
  obtain ⟨i, h1, h2⟩ := Tab.d_eq hd (by simp)
  have hu := (hT t i h1).desc
  simp only [h2] at hu
  cases hx <;> simp only [anilP] at hq <;> cases hq <;> exact run_equal_ptr _ _ _ hu
theorem bin_ok (hT : TOK P T) {op : BinOp} {t : Nat} {x y v : AV} {vx vy : Value} (hx : RV G x vx) (hy : RV G y vy) (h : abin T op t x y = some v) :
    ∃ z, (binOp op t vx vy).run P w = .ok z w ∧ RV G v z := by
  unfold abin at h
  split at h
  · rename_i k a k' b
    cases hx; cases hy
    split at h
    · rename_i e; subst e; exact aint_ok h
    · rename_i hk
      split at h
      · simp only [aint] at h
        split at h
        · cases h
        · cases h; exact ⟨_, by simp [binOp, Op.shift, *], .int _ _⟩
      · simp only [aint] at h
        split at h
        · cases h
        · cases h; exact ⟨_, by simp [binOp, Op.shift, *], .int _ _⟩
      · cases h
  · rename_i a b
    cases hx; cases hy
    split at h
    · split at h
      · cases h; refine ⟨_, ?_, .str _⟩
        have : ¬ ((a.size + b.size : Nat) : Int) > IntKind.i64.max := by simp [IntKind.max, IntKind.bits, IntKind.signed]; omega
        simp only [binOp, Op.stringOp, Sem.run_ite]
        rw [if_neg this]; rfl
      · cases h
    · cases h; exact ⟨_, by simp [binOp, Op.stringOp], .bool _⟩
    · cases h; exact ⟨_, by simp [binOp, Op.stringOp], .bool _⟩
    · cases h
  · rename_i a b
    cases hx; cases hy
    split at h
    · rename_i hd
      obtain ⟨i, h1, h2⟩ := Tab.d_eq hd (by simp)
      have hu := (hT t i h1).desc
      simp only [h2] at hu
      cases h; exact ⟨.bool (a == b), by simp [binOp, run_equal_bool w t a b hu], .bool _⟩
    · rename_i hd
      obtain ⟨i, h1, h2⟩ := Tab.d_eq hd (by simp)
      have hu := (hT t i h1).desc
      simp only [h2] at hu
      cases h; exact ⟨.bool !(a == b), by simp [binOp, run_equal_bool w t a b hu], .bool _⟩
    · cases h
  · split at h
    · obtain ⟨q, hq, rfl⟩ := Option.map_eq_some_iff.1 h
      cases hy
      have hz := bin_nilS (P := P) (w := w) hT (by assumption) hx hq
      exact ⟨.bool q, by simp [binOp, hz], .bool _⟩
    · obtain ⟨q, hq, rfl⟩ := Option.map_eq_some_iff.1 h
      cases hy
      have hz := bin_nilS (P := P) (w := w) hT (by assumption) hx hq
      exact ⟨.bool !q, by simp [binOp, hz], .bool _⟩
    · obtain ⟨q, hq, rfl⟩ := Option.map_eq_some_iff.1 h
      cases hy
      have hz := bin_nilP (P := P) (w := w) hT (by assumption) hx hq
      exact ⟨.bool q, by simp [binOp, hz], .bool _⟩
    · obtain ⟨q, hq, rfl⟩ := Option.map_eq_some_iff.1 h
      cases hy
      have hz := bin_nilP (P := P) (w := w) hT (by assumption) hx hq
      exact ⟨.bool !q, by simp [binOp, hz], .bool _⟩
    · cases h
end
/- Slices, places, append, copy. -/
section
variable {P : Program} {T : Tab} {B0 : Nat} {w0 w : World} {G : Cx} {H : Hp}
theorem desc_slice (hT : TOK P T) {t e : Nat} (hd : Tab.d T t = .slice e) : P.underlying t = some (.slice e) := by
  obtain ⟨i, h1, h2⟩ := Tab.d_eq hd (by simp)
  have hu := (hT t i h1).desc
  simpa only [h2] using hu
theorem desc_str (hT : TOK P T) {t : Nat} (hd : Tab.d T t = .str) : P.underlying t = some .string := by
  obtain ⟨i, h1, h2⟩ := Tab.d_eq hd (by simp)
  have hu := (hT t i h1).desc
  simpa only [h2] using hu
theorem desc_int (hT : TOK P T) {t : Nat} {k : IntKind} (hd : Tab.d T t = .int k) : P.underlying t = some (.int k) := by
  obtain ⟨i, h1, h2⟩ := Tab.d_eq hd (by simp)
  have hu := (hT t i h1).desc
  simpa only [h2] using hu
theorem desc_array (hT : TOK P T) {t n e : Nat} (hd : Tab.d T t = .array n e) : P.underlying t = some (.array n e) := by
  obtain ⟨i, h1, h2⟩ := Tab.d_eq hd (by simp)
  have hu := (hT t i h1).desc
  simpa only [h2] using hu
theorem desc_struct (hT : TOK P T) {t : Nat} {fs : List (Nat × Nat)} (hd : Tab.d T t = .struct fs) : ∃ fields : Array Field, P.underlying t = some (.struct fields) ∧ ∀ (j : Nat) (p : Nat × Nat), fs[j]? = some p → ∃ f : Field, fields[j]? = some f ∧ f.offset = p.1 ∧ f.type = p.2 := by
  obtain ⟨i, h1, h2⟩ := Tab.d_eq hd (by simp)
  have hu := (hT t i h1).desc
  simp only [h2] at hu
  obtain ⟨fields, h3, h4, _⟩ := hu
  refine ⟨fields, h3, fun j p hp => ?_⟩
  rw [← h4] at hp
  simp only [List.getElem?_map, Option.map_eq_some_iff, Array.getElem?_toList] at hp
  obtain ⟨f, hf, rfl⟩ := hp
  exact ⟨f, hf, rfl, rfl⟩
theorem fieldAddr_ok (hT : TOK P T) {t f o b ver : Nat} {fs : List (Nat × Nat)} {p : Nat × Nat} {i : TI} (hd : Tab.d T t = .struct fs) (hp : fs[f]? = some p) (hi : T p.2 = some i) (h0 : i.size ≠ 0)
    {vx : Value} (hx : RV G (.ptr b ver o) vx) : ∃ v, (Instr.fieldAt t vx f).run P w = .ok v w ∧ RV G (.ptr b ver (o + p.1)) v := by
  obtain ⟨fields, h1, h2⟩ := desc_struct hT hd
  obtain ⟨fd, h3, h4, h5⟩ := h2 f p hp
  cases hx with | ptr _ _ _ B o' a1 a2 =>
  refine ⟨.pointer (some ⟨B, o' + (o + p.1), none⟩), ?_, .ptr _ _ _ _ _ a1 a2⟩
  have hsz := run_sizeOf (hT p.2 i hi) w
  simp only [Instr.fieldAt, Sem.run_bind, run_underlying h1, Result.andThen_ok, h3, Instr.sureAddr, Sem.run_pure, fieldPlace, h5, hsz, h0, if_false, Sem.run_ite, add_plain', h4]
  rw [Nat.add_assoc]
theorem part_ok (hT : TOK P T) {t off : Nat} {cs : List AV} {vs : List Value} {v' : AV} (hr : RVs G cs vs) (h : part T t cs off = some v') : ∃ v, (Go.part t vs.toArray off).run P w = .ok v w ∧ RV G v' v := by
  unfold part at h
  cases hi : T t with
  | none => simp [hi] at h
  | some i =>
    simp only [hi] at h
    have ht := hT t i hi
    have hagg := run_isAgg ht w
    have hsz := run_sizeOf ht w
    have hl := hr.length
    have aggc : off + i.size ≤ cs.length → (isAgg t).run P w = .ok true w → some (AV.agg ((cs.drop off).take i.size)) = some v' → ∃ v, (Go.part t vs.toArray off).run P w = .ok v w ∧ RV G v' v := by
      intro hle hag hv
      cases hv
      refine ⟨.agg ((vs.drop off).take i.size).toArray, ?_, .agg _ _ ((hr.drop off).take _)⟩
      simp only [Go.part, Sem.run_bind, hag, Result.andThen_ok, if_true, hsz, Sem.run_ite, Sem.run_pure]
      congr 2
      apply Array.ext'
      simp [List.extract_eq_take_drop]
    have onec : (isAgg t).run P w = .ok false w → cs[off]? = some v' → ∃ v, (Go.part t vs.toArray off).run P w = .ok v w ∧ RV G v' v := by
      intro hag hv
      obtain ⟨v, h1, h2⟩ := hr.get hv
      refine ⟨v, ?_, h2⟩
      simp only [Go.part, Sem.run_bind, hag, Result.andThen_ok, Bool.false_eq_true, if_false, Sem.run_ite]
      simp [h1]
    cases hd : i.d <;> simp only [hd] at h hagg <;> first
      | (split at h
         · exact aggc ‹_› hagg h
         · cases h)
      | exact onec hagg h
theorem field_ok (hT : TOK P T) {t f : Nat} {fs : List (Nat × Nat)} {p : Nat × Nat} {cs : List AV} {v' : AV} (hd : Tab.d T t = .struct fs) (hp : fs[f]? = some p) (hpart : part T p.2 cs p.1 = some v')
    {vx : Value} (hx : RV G (.agg cs) vx) : ∃ v, (Instr.field t vx f).run P w = .ok v w ∧ RV G v' v := by
  obtain ⟨fields, h1, h2⟩ := desc_struct hT hd
  obtain ⟨fd, h3, h4, h5⟩ := h2 f p hp
  cases hx with | agg _ vs hr =>
  obtain ⟨v, h6, h7⟩ := part_ok (w := w) hT hr hpart
  refine ⟨v, ?_, h7⟩
  simp only [Instr.field, Sem.run_bind, run_underlying h1, Result.andThen_ok, h3, asAgg, Sem.run_pure, h4, h5, h6]
theorem index_arr_ok (hT : TOK P T) {t n e : Nat} {ie : TI} {cs : List AV} {j : Int} {v' : AV} {k : IntKind} (hd : Tab.d T t = .array n e) (hi : T e = some ie) (h0 : 0 ≤ j) (h1 : j < n) (hpart : part T e cs (j.toNat * ie.size) = some v')
    {vx : Value} (hx : RV G (.agg cs) vx) : ∃ v, (Instr.index t vx (.int k j)).run P w = .ok v w ∧ RV G v' v := by
  cases hx with | agg _ vs hr =>
  obtain ⟨v, h6, h7⟩ := part_ok (w := w) hT hr hpart
  refine ⟨v, ?_, h7⟩
  simp only [Instr.index, Sem.run_bind, run_underlying (desc_array hT hd), Result.andThen_ok, asIntOf, Sem.run_pure, h0, h1, and_self, if_true, Sem.run_ite, run_sizeOf (hT e ie hi) w, h6]
theorem indexAddr_sl_ok (hT : TOK P T) {t e b ver o n es : Nat} {full : Bool} {ie : TI} {j : Int} {k : IntKind} (hd : Tab.d T t = .slice e) (hi : T e = some ie) (he : ie.size = es) (h0 : 0 ≤ j) (h1 : j < n)
    {vx : Value} (hx : RV G (.sl b ver o n es full) vx) : ∃ v, (Instr.indexAt t vx (.int k j)).run P w = .ok v w ∧ RV G (.ptr b ver (o + j.toNat * es)) v := by
  cases hx with | sl _ _ _ _ _ _ B o' A cap a1 a2 a3 a4 a5 =>
  obtain ⟨rfl, _⟩ := a5 (by omega)
  refine ⟨.pointer (some ⟨B, o' + (o + j.toNat * es), none⟩), ?_, .ptr _ _ _ _ _ a1 a2⟩
  simp only [Instr.indexAt, Sem.run_bind, run_underlying (desc_slice hT hd), Result.andThen_ok, asIntOf, Sem.run_pure, h0, h1, and_self, if_true, Sem.run_ite, run_sizeOf (hT e ie hi) w, add_plain', he]
  rw [Nat.add_assoc]
theorem indexAddr_arr_ok (hT : TOK P T) {t e b ver o n : Nat} {ie : TI} {j : Int} {k : IntKind} (hd : Tab.d T t = .array n e) (hi : T e = some ie) (h0 : 0 ≤ j) (h1 : j < n)
    {vx : Value} (hx : RV G (.ptr b ver o) vx) : ∃ v, (Instr.indexAt t vx (.int k j)).run P w = .ok v w ∧ RV G (.ptr b ver (o + j.toNat * ie.size)) v := by
  cases hx with | ptr _ _ _ B o' a1 a2 =>
  refine ⟨.pointer (some ⟨B, o' + (o + j.toNat * ie.size), none⟩), ?_, .ptr _ _ _ _ _ a1 a2⟩
  simp only [Instr.indexAt, Sem.run_bind, run_underlying (desc_array hT hd), Result.andThen_ok, asIntOf, Sem.run_pure, Instr.sureAddr, h0, h1, and_self, if_true, Sem.run_ite, run_sizeOf (hT e ie hi) w, add_plain']
  rw [Nat.add_assoc]
theorem sliceBound_ok {k : IntKind} {i : Int} {y : Nat} {c : BoundsCode} (h0 : 0 ≤ i) (h1 : i ≤ y) : (Instr.sliceBound (.int k i) y c).run P w = .ok i.toNat w := by
  simp [Instr.sliceBound, asIntOf, h0, h1]
inductive ROV (G : Cx) : Option AV → Option Value → Prop
  | none : ROV G none none
  | some (a v) : RV G a v → ROV G (some a) (some v)
theorem bnd_ok {d : Int} {lo : Option AV} {vl : Option Value} {l : Int} (hl : ROV G lo vl) (h : bnd d lo = some l) : (vl = none ∧ l = d) ∨ ∃ k, vl = some (.int k l) := by
  cases hl with
  | none => simp [bnd] at h; exact .inl ⟨rfl, h.symm⟩
  | some a v hv => cases hv <;> simp [bnd] at h <;> exact .inr ⟨_, by rw [h]⟩
theorem slice_ok (hT : TOK P T) {t e es : Nat} {ie : TI} {x v' : AV} {lo hi mx : Option AV} {vx : Value} {vl vh vm : Option Value} (hd : Tab.d T t = .slice e) (hie : T e = some ie) (hes : ie.size = es) (hx : RV G x vx)
    (hl : ROV G lo vl) (hh : ROV G hi vh) (hm : ROV G mx vm) (h : aslice es x lo hi mx = some v') : ∃ v, (Instr.sliceAt t vx vl vh vm).run P w = .ok v w ∧ RV G v' v := by
  have hu := desc_slice hT hd
  have hsz := run_sizeOf (hT e ie hie) w
  rw [hes] at hsz
  have tail : ∀ (b ver off n cap l m : Nat) (h' : Nat) (full' : Bool) (B o : Nat) (A : Addr), ver < G.c → G.mu b ver = some (B, o) → l ≤ h' → h' ≤ m → m ≤ cap → (full' = true → m = h') →
      (cap ≠ 0 → A = ⟨B, o + off, none⟩ ∧ o + off + cap * es ≤ G.sz B) → RV G (.sl b ver (off + l * es) (h' - l) es full') (.slice ((if m = l then some A else (some A).map (·.add (l * es)))) (h' - l) (m - l)) := by
    intro b ver off n cap l m h' full' B o A a1 a2 c1 c2 c3 c4 a5
    by_cases hml : m = l
    · rw [if_pos hml]
      exact .sl _ _ _ _ _ _ B o A _ a1 a2 (by omega) (fun hf => by have := c4 hf; omega) (fun hc => absurd hc (by omega))
    · rw [if_neg hml]
      obtain ⟨rfl, hs⟩ := a5 (by omega)
      refine .sl _ _ _ _ _ _ B o _ _ a1 a2 (by omega) (fun hf => by have := c4 hf; omega) (fun hc => ⟨by simp only [add_plain', Nat.add_assoc], ?_⟩)
      have : l * es + (m - l) * es ≤ cap * es := by rw [← Nat.add_mul]; exact Nat.mul_le_mul_right _ (by omega)
      omega
  unfold aslice at h
  cases hx
  case nilS =>
    simp only at h
    split at h
    · rename_i l h' hl1 hh1
      split at h
      · rename_i hc
        obtain ⟨rfl, rfl⟩ := hc
        cases h
        cases hm
        refine ⟨.slice none 0 0, ?_, .nilS⟩
        rcases bnd_ok hl hl1 with ⟨rfl, _⟩ | ⟨k1, rfl⟩ <;> rcases bnd_ok hh hh1 with ⟨rfl, _⟩ | ⟨k2, rfl⟩ <;>
          simp [Instr.sliceAt, run_underlying hu, Instr.slice, Instr.sliceBounds, sliceBound_ok, hsz]
      · cases h
    · cases h
  case mt2 x =>
    simp only at h
    split at h
    · rename_i l h' hl1 hh1
      split at h
      · rename_i hc
        obtain ⟨rfl, rfl⟩ := hc
        cases h
        cases hm
        refine ⟨.slice (some x) 0 0, ?_, .mt2 _⟩
        rcases bnd_ok hl hl1 with ⟨rfl, _⟩ | ⟨k1, rfl⟩ <;> rcases bnd_ok hh hh1 with ⟨rfl, _⟩ | ⟨k2, rfl⟩ <;>
          simp [Instr.sliceAt, run_underlying hu, Instr.slice, Instr.sliceBounds, sliceBound_ok, hsz]
      · cases h
    · cases h
  case sl b ver off n es' full B o A cap a1 a2 a3 a4 a5 =>
    simp only at h
    split at h
    · rename_i l h' hl1 hh1
      split at h
      · rename_i hc
        obtain ⟨rfl, c1, c2, c3⟩ := hc
        cases h
        cases hm
        have key := tail b ver off n cap l.toNat cap h'.toNat (full && decide (h' = n)) B o A a1 a2 (by omega) (by omega) (Nat.le_refl _) (fun hf => by
          simp only [Bool.and_eq_true, decide_eq_true_eq] at hf
          have := a4 hf.1; omega) a5
        refine ⟨_, ?_, key⟩
        have b1 : ∀ (c : BoundsCode) (k : IntKind), (Instr.sliceBound (.int k l) h'.toNat c).run P w = .ok l.toNat w := fun c k => sliceBound_ok c1 (by omega)
        have b2 : ∀ (c : BoundsCode) (k : IntKind), (Instr.sliceBound (.int k h') cap c).run P w = .ok h'.toNat w := fun c k => sliceBound_ok (by omega) (by omega)
        rcases bnd_ok hl hl1 with ⟨rfl, rfl⟩ | ⟨k1, rfl⟩ <;> rcases bnd_ok hh hh1 with ⟨rfl, rfl⟩ | ⟨k2, rfl⟩ <;>
          simp [Instr.sliceAt, run_underlying hu, Instr.slice, Instr.sliceBounds, b1, b2, hsz] <;> (try (simp at b1; simp [b1, hsz]))
      · cases h
    · rename_i l h' km m av hl1 hh1
      split at h
      · rename_i hc
        obtain ⟨rfl, c1, c2, c3, c4⟩ := hc
        subst c3
        cases h
        cases hm with | some _ vm hvm =>
        cases hvm
        have key := tail b ver off n cap l.toNat h'.toNat h'.toNat true B o A a1 a2 (by omega) (Nat.le_refl _) (by omega) (fun _ => rfl) a5
        refine ⟨_, ?_, key⟩
        have b1 : ∀ (c : BoundsCode) (k : IntKind), (Instr.sliceBound (.int k l) h'.toNat c).run P w = .ok l.toNat w := fun c k => sliceBound_ok c1 (by omega)
        have b2 : ∀ (c : BoundsCode) (k : IntKind), (Instr.sliceBound (.int k h') cap c).run P w = .ok h'.toNat w := fun c k => sliceBound_ok (by omega) (by omega)
        have b3 : ∀ (c : BoundsCode) (k : IntKind), (Instr.sliceBound (.int k h') h'.toNat c).run P w = .ok h'.toNat w := fun c k => sliceBound_ok (by omega) (by omega)
        cases hh with | some _ vh hvh =>
        rcases bnd_ok hl hl1 with ⟨rfl, rfl⟩ | ⟨k1, rfl⟩ <;> rcases bnd_ok (ROV.some _ _ hvh) hh1 with ⟨e1, _⟩ | ⟨k2, e2⟩ <;> first
          | cases e1; done
          | (cases e2; simp [Instr.sliceAt, run_underlying hu, Instr.slice, Instr.sliceBounds, b1, b2, b3, hsz])
      · cases h
    · cases h
  all_goals cases h
end
/- append and copy. -/
section
variable {P : Program} {T : Tab} {B0 : Nat} {w0 w : World} {G : Cx} {H : Hp}
/-- The cells of a slice, read by the machine. -/
theorem slCells_ok (h : St B0 w0 G H w) {x : AV} {vx : Value} {m es : Nat} {xs : List AV} (hx : RV G x vx) (hc : slCells H x = some (m, xs)) (hes : xs.length = m * es) :
    (Builtin.lenOf vx).run P w = .ok m w ∧ ∀ m', m' ≤ m → ∃ ys : Array Value, (Builtin.firstCells es m' vx).run P w = .ok ys w ∧ RVs G (xs.take (m' * es)) ys.toList := by
  cases hx <;> simp only [slCells] at hc
  case nilS =>
    cases hc
    refine ⟨by simp [Builtin.lenOf], fun m' hm => ⟨#[], by simp [Builtin.firstCells], by simp; exact .nil⟩⟩
  case mt2 x =>
    cases hc
    refine ⟨by simp [Builtin.lenOf], fun m' hm => ⟨#[], ?_, by simp; exact .nil⟩⟩
    have hm0 : m' = 0 := by omega
    subst hm0
    have := run_loadCells_list (P := P) w x [] (fun j v hj => by simp at hj)
    simpa [Builtin.firstCells] using this
  case sl b ver off n es' full B o A cap a1 a2 a3 a4 a5 =>
    split at hc
    · rename_i k hk
      split at hc
      · rename_i hle
        simp only [Option.some.injEq, Prod.mk.injEq] at hc
        obtain ⟨rfl, rfl⟩ := hc
        obtain ⟨cs, e, fr, hh, hlen, hrv, _, hsz⟩ := h.cellsAt hk a2
        refine ⟨by simp [Builtin.lenOf], fun m' hm => ?_⟩
        have hes' : n * es' = n * es := by
          rw [← hes, List.length_take, List.length_drop]; omega
        have hmul : m' * es ≤ n * es := Nat.mul_le_mul_right _ hm
        by_cases h0 : m' * es = 0
        · refine ⟨#[], ?_, by simp [h0]; exact .nil⟩
          simp only [Builtin.firstCells, h0, loadCells, loadCellsFrom]
          rfl
        · have hcap : cap ≠ 0 := by
            rintro rfl
            have : n = 0 := by omega
            subst this
            simp at hmul; omega
          obtain ⟨rfl, hb⟩ := a5 hcap
          refine ⟨_, run_loadCells_at hh (o + off) (m' * es) (by omega), ?_⟩
          have := (hrv.drop off).take (m' * es)
          rw [List.drop_take, List.take_take, List.drop_drop, Nat.min_eq_left (by omega)] at this
          rw [List.take_take, Nat.min_eq_left (by omega)]
          simpa using this
      · cases hc
    · cases hc
  all_goals cases hc
theorem slCells_all (h : St B0 w0 G H w) {x : AV} {m : Nat} {xs : List AV} (hc : slCells H x = some (m, xs)) : xs.all AV.one = true := by
  cases x <;> simp only [slCells] at hc
  case nilS => cases hc; rfl
  case mtS => cases hc; rfl
  case sl b ver off n es full =>
    split at hc
    · rename_i k hk
      split at hc
      · simp only [Option.some.injEq, Prod.mk.injEq] at hc
        rw [← hc.2]
        have := h.ones b k (Hp.at_some hk).1
        simp only [List.all_eq_true] at this ⊢
        intro y hy
        exact this y (List.mem_of_mem_drop (List.mem_of_mem_take hy))
      · cases hc
    · cases hc
  all_goals cases hc
theorem grow_le (need old : Nat) (h : old < need) : Builtin.nextslicecap need old ≤ 2 * need := by
  unfold Builtin.nextslicecap
  split
  · omega
  · split
    · omega
    · have : ∀ r c, 256 ≤ c → c < 2 * need → Builtin.growBy need r c ≤ 2 * need := by
        intro r
        induction r with
        | zero => intro c _ h2; simp [Builtin.growBy]; omega
        | succ r ih =>
          intro c h1 h2
          simp only [Builtin.growBy]
          split
          · omega
          · by_cases h3 : c + (c + 768) / 4 < 2 * need
            · exact ih _ (by omega) h3
            · have : c + (c + 768) / 4 = 2 * need := by omega
              cases r with
              | zero => simp only [Builtin.growBy]; omega
              | succ r => simp only [Builtin.growBy]; rw [if_pos (by omega)]; omega
      exact this 4 old (by omega) (by omega)
/-- append, what is appended to a new block. -/
theorem append_new (hT : TOK P T) (h : St B0 w0 G H w) {t u e e' : Nat} {ie : TI} (ht : Tab.d T t = .slice e) (hu : Tab.d T u = .slice e') (he : T e = some ie)
    {base : Option Addr} {n cap m : Nat} {vx : Value} {xs ss : List AV} {ys zs : Array Value} (hlx : (Builtin.lenOf vx).run P w = .ok m w)
    (hfx : (Builtin.firstCells ie.size m vx).run P w.drew = .ok ys w.drew) (hfs : (Builtin.firstCells ie.size n (.slice base n cap)).run P w.drew = .ok zs w.drew)
    (hxs : RVs G xs ys.toList) (hss : RVs G ss zs.toList) (hsl : ss.length = n * ie.size) (hxl : xs.length = m * ie.size) (hgrow : cap < n + m) (hb : (n + m) * ie.bytes ≤ maxBytes) (hb0 : ie.bytes ≠ 0) (ty : Nat)
    (b : Nat) (bs' : List Blk) (nk : Blk) (hnk : nk.ver = H.c) (hss1 : ss.all AV.one = true) (hxs1 : xs.all AV.one = true) (hcells : nk.cells = ss ++ xs) (hbs : ∀ x, x ≠ b → bs'[x]? = H.bs[x]?) (hbn : bs'[b]? = some nk) :
    OkV P B0 w0 G w (Builtin.append_ #[t, u] ty #[.slice base n cap, vx]) (.sl b H.c 0 (n + m) ie.size false) ⟨bs', H.c + 1⟩ := by
  have hut := desc_slice hT ht
  have huu := desc_slice hT hu
  obtain ⟨q, z, i1, i2, i3, i4, i5, i6, _⟩ := (hT e ie he).info
  have hsz := run_sizeOf (hT e ie he)
  have hw : ∀ w' : World, (typeInfo e).run P w' = .ok q w' := fun w' => by simp [typeInfo, i1]
  have hzero : ∀ w' : World, (zeroValue e).run P w' = .ok z w' := fun w' => by simp [zeroValue, typeInfo, i1, i4]
  have hcap0 := grow_le (n + m) cap hgrow
  have hng : ¬ Builtin.nextslicecap (n + m) cap * q.bytes > 2 ^ 48 := by
    have : Builtin.nextslicecap (n + m) cap * q.bytes ≤ 2 * (n + m) * q.bytes := Nat.mul_le_mul_right _ hcap0
    rw [i3, Nat.mul_assoc] at this
    rw [i3]
    simp only [maxBytes] at hb
    omega
  let nc := grownCap w (n + m) cap e
  have hge : n + m ≤ nc := grownCap_ge w (n + m) cap e
  have hrun : (Builtin.append_ #[t, u] ty #[.slice base n cap, vx]).run P w =
      .ok (.slice (some ⟨w.heap.size, 0, none⟩) (n + m) nc) (w.drew.alloc (.cells (zs ++ ys ++ Builtin.zeroCells z.cells (nc - (n + m))) e)) := by
    have hcut : (Question.appendCap (n + m) cap e).cut (w.tape w.drawn (Question.appendCap (n + m) cap e)) = nc := rfl
    have hforced : (Question.appendCap (n + m) cap e).forced = false := rfl
    simp only [Builtin.append_, List.getElem?_toArray, List.getElem?_cons_zero, List.getElem?_cons_succ, Sem.run_bind, run_underlying hut, run_underlying huu, Result.andThen_ok, hsz w, hlx, Sem.run_pure, Bool.false_eq_true, if_false, Sem.run_ite]
    rw [if_neg (by omega)]
    simp only [hw, Result.andThen_ok, Sem.run_bind, Sem.run_ite]
    rw [if_neg (by rw [i3]; simp; omega), if_neg hng]
    simp only [run_choose, hforced, Bool.false_eq_true, if_false, hcut, Result.andThen_ok, run_askRoom, World.drew_eq, hfs, Bool.not_false, if_true, hfx, hzero, newRow, Sem.run_bind, run_newObj, Sem.run_pure, World.alloc_eq]
    rfl
  have hzl : (Builtin.zeroCells z.cells (nc - (n + m))).size = (nc - (n + m)) * ie.size := by
    rw [size_zeroCells]; congr 1
    have := (i5 G).length; simp at this; omega
  have hyl := hxs.length
  have hzl2 := hss.length
  simp at hyl hzl2
  have hd := h.drew
  obtain ⟨G', hl, hst, hmu, hsz'⟩ := hd.update b bs' nk w.heap.size 0 (w.drew.alloc (.cells (zs ++ ys ++ Builtin.zeroCells z.cells (nc - (n + m))) e)) (zs ++ ys ++ Builtin.zeroCells z.cells (nc - (n + m))) e (0, 0)
    hnk (by rw [hcells, List.all_append, hss1, hxs1]; rfl) hbs hbn (hd.below.alloc (by simpa using h.base) _) (by have := h.base; simp; omega) (heap_alloc_new w.drew _)
    (fun X x hX hx => heap_alloc_lt _ _ hx) (.inl (Nat.le_refl _)) (by rw [hcells]; simp; omega)
    (by
      rw [hcells, List.drop_zero]
      have e1 : (zs ++ ys ++ Builtin.zeroCells z.cells (nc - (n + m))).toList.take (ss ++ xs).length = zs.toList ++ ys.toList := by
        simp only [Array.toList_append, List.length_append]
        rw [List.take_left' (by simp; omega)]
      rw [e1]
      exact hss.append hxs)
    (fun _ => ⟨rfl, h.base⟩)
    (fun x k o hx hk hm => by
      obtain ⟨cs, e1, fr, hh, _⟩ := h.maps x k.ver _ o (by rw [h.c]; exact (h.blk x k hk).1) hm
      exact absurd (Array.getElem?_eq_some_iff.1 hh).1 (Nat.lt_irrefl _))
    (fun x k B o hx hk hm hlt => by
      have hlt : B < w.heap.size := hlt
      exact ⟨fun _ => by omega, fun _ e => by omega, fun _ => by omega, fun _ e => by omega⟩)
  refine ⟨_, _, G', hrun, hl, hst, ?_⟩
  refine .sl _ _ _ _ _ _ w.heap.size 0 _ _ (by have := hst.c; simp at this; omega) hmu hge (by simp) fun _ => ⟨rfl, ?_⟩
  rw [hsz']
  simp only [Array.size_append, hzl]
  obtain ⟨r, hr⟩ : ∃ r, nc = n + m + r := ⟨nc - (n + m), by omega⟩
  have hr2 : nc - (n + m) = r := by omega
  rw [hr2]
  show 0 + 0 + nc * ie.size ≤ _
  rw [hr, Nat.add_mul, Nat.add_mul]
  omega
end
/- append where there is room; append as a whole; copy. -/
section
variable {P : Program} {T : Tab} {B0 : Nat} {w0 w : World} {G : Cx} {H : Hp}
theorem run_append_in (hT : TOK P T) {t u e e' : Nat} {ie : TI} (ht : Tab.d T t = .slice e) (hu : Tab.d T u = .slice e') (he : T e = some ie)
    {B p n cap m : Nat} {vx : Value} {ys cs : Array Value} {eB : TypeId} (hlx : (Builtin.lenOf vx).run P w = .ok m w) (hfx : (Builtin.firstCells ie.size m vx).run P w = .ok ys w)
    (hh : w.heap[B]? = some (.cells cs eB (0, 0))) (hroom : n + m ≤ cap) (hfit : p + n * ie.size + ys.size ≤ cs.size) (h1 : ∀ v ∈ ys.toList, v.oneCell' = true) (ty : Nat) :
    (Builtin.append_ #[t, u] ty #[.slice (some ⟨B, p, none⟩) n cap, vx]).run P w =
      .ok (.slice (some ⟨B, p, none⟩) (n + m) cap) (w.setRow B (setAllV cs.toList (p + n * ie.size) ys.toList).toArray) := by
  have hut := desc_slice hT ht
  have huu := desc_slice hT hu
  have hsz := run_sizeOf (hT e ie he)
  have hst := run_storeCells_at P B (p + n * ie.size) eB ys.toList 0 cs w hh (by simpa using hfit) h1
  rw [setAllV_eq _ _ _ (by simpa using hfit)]
  simp only [Nat.add_zero] at hst
  simp only [Builtin.append_, List.getElem?_toArray, List.getElem?_cons_zero, List.getElem?_cons_succ, Sem.run_bind, run_underlying hut, run_underlying huu, Result.andThen_ok, hsz w, hlx, Sem.run_pure, Bool.false_eq_true, if_false, Sem.run_ite]
  rw [if_pos hroom]
  simp only [Bool.not_false, if_true, hfx, Result.andThen_ok, add_plain', hst, Sem.run_bind, Sem.run_pure]
theorem append_zero (hT : TOK P T) {t u e e' : Nat} {ie : TI} (ht : Tab.d T t = .slice e) (hu : Tab.d T u = .slice e') (he : T e = some ie)
    {base : Option Addr} {n cap : Nat} {vx : Value} (hn : n ≤ cap) (hlx : (Builtin.lenOf vx).run P w = .ok 0 w) (hfx : (Builtin.firstCells ie.size 0 vx).run P w = .ok #[] w) (ty : Nat) :
    (Builtin.append_ #[t, u] ty #[.slice base n cap, vx]).run P w = .ok (.slice base n cap) w := by
  have hut := desc_slice hT ht
  have huu := desc_slice hT hu
  have hsz := run_sizeOf (hT e ie he)
  simp only [Builtin.append_, List.getElem?_toArray, List.getElem?_cons_zero, List.getElem?_cons_succ, Sem.run_bind, run_underlying hut, run_underlying huu, Result.andThen_ok, hsz w, hlx, Sem.run_pure, Bool.false_eq_true, if_false, Sem.run_ite]
  rw [if_pos (by omega)]
  simp only [Bool.not_false, if_true, hfx, Result.andThen_ok, Sem.run_bind, Sem.run_pure]
  cases base <;> simp [storeCells]
theorem seg_list {α : Type} (l y r : List α) (q p : Nat) (hq : q ≤ p) (hp : p ≤ l.length) : ((l.take p ++ y ++ r).drop q).take (p - q + y.length) = (l.drop q).take (p - q) ++ y := by
  have h1 : (l.take p ++ y ++ r).drop q = (l.drop q).take (p - q) ++ y ++ r := by
    rw [List.append_assoc, List.drop_append_of_le_length (by rw [List.length_take]; omega), List.drop_take, List.append_assoc]
  rw [h1]
  exact List.take_left' (by simp; omega)
theorem append_ok (hT : TOK P T) (h : St B0 w0 G H w) {share : Bool} {t u e e' : Nat} {ie : TI} (ht : Tab.d T t = .slice e) (hu : Tab.d T u = .slice e') (he : T e = some ie)
    {s x v' : AV} {H' : Hp} {vs vx : Value} (hs : RV G s vs) (hx : RV G x vx) (ha : aappend share ie.size ie.bytes s x H = some (v', H')) (ty : Nat) :
    OkV P B0 w0 G w (Builtin.append_ #[t, u] ty #[vs, vx]) v' H' := by
  unfold aappend at ha
  split at ha
  · cases ha
  rename_i m xs hc
  split at ha
  · cases ha
  rename_i hxl
  have hxl : xs.length = m * ie.size := Classical.byContradiction fun e => hxl e
  obtain ⟨hlx, hfx⟩ := slCells_ok (P := P) h hx hc hxl
  split at ha
  · rename_i hm
    subst hm
    obtain ⟨ys, hf, hr⟩ := hfx 0 (Nat.le_refl _)
    have hy0 : ys = #[] := by
      have := hr.length; simp at this
      exact Array.eq_empty_of_size_eq_zero this.symm
    subst hy0
    cases hs <;> simp only at ha <;> first | (cases ha; done) | skip
    · cases ha
      exact ⟨_, w, G, append_zero hT ht hu he (Nat.le_refl _) hlx hf ty, Le.refl G, h, .nilS⟩
    · cases ha
      exact ⟨_, w, G, append_zero hT ht hu he (Nat.le_refl _) hlx hf ty, Le.refl G, h, .mt2 _⟩
    · cases ha
      exact ⟨_, w, G, append_zero hT ht hu he ‹_› hlx hf ty, Le.refl G, h, .sl _ _ _ _ _ _ _ _ _ _ ‹_› ‹_› ‹_› ‹_› ‹_›⟩
  · rename_i hm
    obtain ⟨ys, hf, hr⟩ := hfx m (Nat.le_refl _)
    have hr' : RVs G xs ys.toList := by rwa [← hxl, List.take_length] at hr
    obtain ⟨_, hfx2⟩ := slCells_ok (P := P) h.drew hx hc hxl
    obtain ⟨ys2, hf2, hr2⟩ := hfx2 m (Nat.le_refl _)
    have hr2' : RVs G xs ys2.toList := by rwa [← hxl, List.take_length] at hr2
    have hpush : ∀ (bs : List Blk) (k : Blk), (∀ x, x ≠ bs.length → (bs ++ [k])[x]? = bs[x]?) ∧ (bs ++ [k])[bs.length]? = some k := by
      intro bs k
      refine ⟨fun x hx => ?_, by simp⟩
      simp only [List.getElem?_append]
      split
      · rfl
      · rename_i hlt
        rw [List.getElem?_eq_none (by simp; omega), List.getElem?_eq_none (by omega)]
    cases hs <;> simp only at ha <;> first | (cases ha; done) | skip
    case nilS =>
      split at ha
      · rename_i hb
        cases ha
        have hp := hpush H.bs ⟨H.c, xs, true, true⟩
        have := append_new hT h ht hu he (base := none) (n := 0) (cap := 0) (ss := []) (zs := #[]) hlx hf2 (by simp [Builtin.firstCells]) hr2' (by simp; exact .nil) (by simp) hxl (by omega) (by simpa using hb.1) hb.2 ty
          H.bs.length (H.new xs).bs ⟨H.c, xs, true, true⟩ rfl (by first | rfl | exact slCells_all h hsl) (slCells_all h hc) rfl hp.1 hp.2
        simpa [Hp.new] using this
      · cases ha
    case mt2 x =>
      split at ha
      · rename_i hb
        cases ha
        have hp := hpush H.bs ⟨H.c, xs, true, true⟩
        have := append_new hT h ht hu he (base := some x) (n := 0) (cap := 0) (ss := []) (zs := #[]) hlx hf2 (by have := run_loadCells_list (P := P) w.drew x [] (fun j v hj => by simp at hj); simpa [Builtin.firstCells] using this) hr2' (by simp; exact .nil) (by simp) hxl (by omega) (by simpa using hb.1) hb.2 ty
          H.bs.length (H.new xs).bs ⟨H.c, xs, true, true⟩ rfl (by first | rfl | exact slCells_all h hsl) (slCells_all h hc) rfl hp.1 hp.2
        simpa [Hp.new] using this
      · cases ha
    case sl b ver off n es' full B o A cap a1 a2 a3 a4 a5 =>
      split at ha
      · cases ha
      rename_i k hk
      split at ha
      · cases ha
      rename_i hcond
      have c1 : es' = ie.size := Classical.byContradiction fun e => hcond (.inl e)
      have c2 : off + n * ie.size ≤ k.cells.length := Nat.le_of_not_lt fun e => hcond (.inr (.inl e))
      have c3 : (n + m) * ie.bytes ≤ maxBytes := Nat.le_of_not_lt fun e => hcond (.inr (.inr (.inl e)))
      have c4 : ie.bytes ≠ 0 := fun e => hcond (.inr (.inr (.inr e)))
      subst c1
      obtain ⟨hk1, hv⟩ := Hp.at_some hk
      have hsl : slCells H (.sl b ver off n ie.size full) = some (n, (k.cells.drop off).take (n * ie.size)) := by simp [slCells, hk, c2]
      have hslen : ((k.cells.drop off).take (n * ie.size)).length = n * ie.size := by rw [List.length_take, List.length_drop]; omega
      have hRV : RV G (.sl b ver off n ie.size full) (.slice (some A) n cap) := .sl _ _ _ _ _ _ _ _ _ _ a1 a2 a3 a4 a5
      obtain ⟨_, hfs⟩ := slCells_ok (P := P) h.drew hRV hsl hslen
      obtain ⟨zs, hz1, hz2⟩ := hfs n (Nat.le_refl _)
      have hz2' : RVs G ((k.cells.drop off).take (n * ie.size)) zs.toList := by
        have e : ((k.cells.drop off).take (n * ie.size)).take (n * ie.size) = (k.cells.drop off).take (n * ie.size) := by rw [List.take_take, Nat.min_self]
        rwa [e] at hz2
      have hone : ∀ v ∈ ys.toList, v.oneCell' = true := hr'.one (slCells_all h hc)
      split at ha
      · rename_i hfull
        cases ha
        have hp := hpush H.bs ⟨H.c, (k.cells.drop off).take (n * ie.size) ++ xs, true, true⟩
        have hcap := a4 hfull
        have := append_new hT h ht hu he (base := some A) (n := n) (cap := cap) hlx hf2 hz1 hr2' hz2' hslen hxl (by omega) c3 c4 ty
          H.bs.length (H.new ((k.cells.drop off).take (n * ie.size) ++ xs)).bs ⟨H.c, (k.cells.drop off).take (n * ie.size) ++ xs, true, true⟩ rfl (by first | rfl | exact slCells_all h hsl) (slCells_all h hc) rfl hp.1 hp.2
        simpa [Hp.new] using this
      · split at ha
        · rename_i htail
          obtain ⟨t1, t2⟩ := htail
          have htake : (k.cells.drop off).take (n * ie.size) = k.cells.drop off := by
            rw [List.take_of_length_le (by rw [List.length_drop]; omega)]
          rw [htake] at hz2' hslen
          have hbl : b < H.bs.length := (List.getElem?_eq_some_iff.1 hk1).1
          obtain ⟨csB, eB, frB, hhB, hlenB, hrvB, hfrB, hszB⟩ := h.cellsAt hk a2
          have hfr0 := hfrB (.inl t1)
          subst hfr0
          have hB0 : B0 ≤ B := by
            obtain ⟨_, B', o', m1, _, m3⟩ := h.blk b k hk1
            rw [hv, a2] at m1; cases m1
            exact m3 (.inl t1)
          have haps := fun x k' B' o' (hne : b ≠ x) hk' hm' => h.apart b k x k' B o B' o' hne hk1 hk' (by rw [hv]; exact a2) hm'
          have hapo := fun x k' B' o' (hne : x ≠ b) hk' hm' => h.apart x k' b k B' o' B o hne hk' hk1 hm' (by rw [hv]; exact a2)
          -- where there is room
          have inplace : ∀ (H1 : Hp) (h1 : St B0 w0 G H1 w) (hc1 : H1.c = H.c) (bn : Nat) (bs' : List Blk) (sol : Bool), n + m ≤ cap →
              (∀ x, x ≠ bn → bs'[x]? = H1.bs[x]?) → bs'[bn]? = some ⟨H.c, k.cells.drop off ++ xs, true, sol⟩ →
              (∀ x k' o', x ≠ bn → H1.bs[x]? = some k' → G.mu x k'.ver = some (B, o') → k'.tail = false ∧ k'.solo = false ∧ o' + k'.cells.length ≤ o + k.cells.length ∧ sol = false) →
              OkV P B0 w0 G w (Builtin.append_ #[t, u] ty #[.slice (some A) n cap, vx]) (.sl bn H.c 0 (n + m) ie.size false) ⟨bs', H.c + 1⟩ := by
            intro H1 h1 hc1 bn bs' sol hroom hbs hbn hoth
            obtain ⟨rfl, hbnd⟩ := a5 (by omega)
            have hyl := hr'.length
            simp at hyl
            have hmul : (n + m) * ie.size ≤ cap * ie.size := Nat.mul_le_mul_right _ hroom
            rw [Nat.add_mul] at hmul
            have hfit : o + off + n * ie.size + ys.size ≤ csB.size := by omega
            have hrun := run_append_in (P := P) (w := w) hT ht hu he (vx := vx) hlx hf hhB hroom hfit hone ty
            have hsetl : (setAllV csB.toList (o + off + n * ie.size) ys.toList).length = csB.size := by rw [length_setAllV]; simp
            have hpre : ∀ q len, q + len ≤ o + off + n * ie.size → ((setAllV csB.toList (o + off + n * ie.size) ys.toList).drop q).take len = (csB.toList.drop q).take len := by
              intro q len hq
              rw [setAllV_eq _ _ _ (by simpa using hfit)]
              apply List.ext_getElem?
              intro j
              simp only [List.getElem?_take, List.getElem?_drop, List.append_assoc]
              split
              · rw [List.getElem?_append_left (by rw [List.length_take]; simp; omega), List.getElem?_take, if_pos (by omega)]
              · rfl
            obtain ⟨G', hl, hst, hmu, hsz'⟩ := h1.update bn bs' ⟨H.c, k.cells.drop off ++ xs, true, sol⟩ B (o + off) (w.setRow B (setAllV csB.toList (o + off + n * ie.size) ys.toList).toArray) (setAllV csB.toList (o + off + n * ie.size) ys.toList).toArray eB (0, 0)
              hc1.symm (by simp only [List.all_append, slCells_all h hc, Bool.and_true]; rw [← htake]; exact slCells_all h hsl) hbs hbn (Below.setRow h1.below hB0 _) (by rw [setRow_size]; exact h1.base) (setRow_same _ _ _ csB _ _ hhB)
              (fun X x hX hx => by rw [setRow_ne _ _ _ _ hX]; exact hx) (.inr ⟨csB, eB, (0, 0), hhB, by simp [length_setAllV]⟩)
              (by simp only [List.length_append, hslen, List.size_toArray, hsetl]; omega)
              (by
                simp only [List.length_append]
                rw [setAllV_eq _ _ _ (by simpa using hfit)]
                have e1 : ((csB.toList.take (o + off + n * ie.size) ++ ys.toList ++ csB.toList.drop (o + off + n * ie.size + ys.toList.length)).drop (o + off)).take ((k.cells.drop off).length + xs.length) = ((csB.toList.drop (o + off)).take (n * ie.size)) ++ ys.toList := by
                  have := seg_list csB.toList ys.toList (csB.toList.drop (o + off + n * ie.size + ys.toList.length)) (o + off) (o + off + n * ie.size) (by omega) (by simp; omega)
                  rw [show o + off + n * ie.size - (o + off) = n * ie.size by omega] at this
                  rw [← this]
                  congr 1
                  simp only [hslen, hyl, Array.length_toList]
                rw [e1]
                refine RVs.append ?_ hr'
                have := (hrvB.drop off)
                rw [List.drop_take, List.drop_drop] at this
                have e2 : k.cells.length - off = n * ie.size := by omega
                rwa [e2] at this)
              (fun _ => ⟨rfl, hB0⟩)
              (fun x k' o' hx hk' hm' => by
                obtain ⟨q1, q2, q3, q4⟩ := hoth x k' o' hx hk' hm'
                obtain ⟨_, B', o2, m1, ⟨cs2, e2, f2, n1, n2, n3, n4⟩, _⟩ := h1.blk x k' hk'
                rw [hm'] at m1; cases m1
                rw [hhB] at n1; cases n1
                refine ⟨_, eB, (0, 0), setRow_same _ _ _ csB _ _ hhB, by simp [length_setAllV]; exact n2, ?_, fun _ => rfl⟩
                have : (setAllV csB.toList (o + off + n * ie.size) ys.toList).toArray.toList = setAllV csB.toList (o + off + n * ie.size) ys.toList := rfl
                rw [this, hpre o' k'.cells.length (by omega)]
                exact n3)
              (fun x k' B' o' hx hk' hm' hlt => by
                refine ⟨fun hsol => ?_, fun _ hBB => ?_, fun hsol hBB => ?_, fun htl hBB => ?_⟩
                · intro hBB
                  subst hBB
                  have := (hoth x k' o' hx hk' hm').2.2.2
                  simp only at hsol; rw [this] at hsol; cases hsol
                · subst hBB
                  have := hoth x k' o' hx hk' hm'
                  exact ⟨this.1, by simp only [List.length_append, hslen]; omega⟩
                · subst hBB
                  have := (hoth x k' o' hx hk' hm').2.1
                  rw [this] at hsol; cases hsol
                · subst hBB
                  have := (hoth x k' o' hx hk' hm').1
                  rw [this] at htl; cases htl)
            refine ⟨_, _, G', hrun, hl, by rw [hc1] at hst; exact hst, ?_⟩
            refine .sl _ _ _ _ _ _ B (o + off) _ _ (by have := hst.c; simp at this; omega) (by rw [← hc1]; exact hmu) hroom (by simp) fun _ => ⟨rfl, ?_⟩
            rw [hsz']
            simp only [List.size_toArray, hsetl]
            omega
          split at ha
          · rename_i hsh
            cases ha
            have hlow := h.lower hk1
            have hp := hpush (H.bs.set b { k with tail := false, solo := false }) ⟨H.c, k.cells.drop off ++ xs, true, false⟩
            have hll : (H.bs.set b { k with tail := false, solo := false }).length = H.bs.length := by simp
            rw [hll] at hp
            by_cases hroom : n + m ≤ cap
            · refine inplace _ hlow rfl H.bs.length _ false hroom hp.1 hp.2 fun x k' o' hx hk' hm' => ?_
              simp only [Hp.put, List.getElem?_set] at hk'
              by_cases hxb : b = x
              · subst hxb
                rw [if_pos rfl, if_pos hbl] at hk'
                cases hk'
                simp only at hm'
                rw [hv, a2] at hm'; cases hm'
                exact ⟨rfl, rfl, Nat.le_refl _, rfl⟩
              · rw [if_neg hxb] at hk'
                have h1 := haps x k' B o' hxb hk' hm'
                have h2 := hapo x k' B o' (fun e => hxb e.symm) hk' hm'
                refine ⟨(h1.2 t1 rfl).1, ?_, (h1.2 t1 rfl).2, rfl⟩
                cases hs : k'.solo with
                | false => rfl
                | true => exact absurd rfl (h2.1 hs)
            · have := append_new hT hlow ht hu he (base := some A) (n := n) (cap := cap) hlx hf2 hz1 hr2' (by rw [htake] at *; exact hz2') (by rw [htake] at *; exact hslen) hxl (by omega) c3 c4 ty
                H.bs.length _ ⟨H.c, k.cells.drop off ++ xs, true, false⟩ rfl (by rw [← htake]; exact slCells_all h hsl) (slCells_all h hc) rfl hp.1 hp.2
              exact this
          · cases ha
            have hset : (∀ x, x ≠ b → (H.bs.set b ⟨H.c, k.cells.drop off ++ xs, true, k.solo⟩)[x]? = H.bs[x]?) ∧ (H.bs.set b ⟨H.c, k.cells.drop off ++ xs, true, k.solo⟩)[b]? = some ⟨H.c, k.cells.drop off ++ xs, true, k.solo⟩ := by
              refine ⟨fun x hx => ?_, ?_⟩
              · rw [List.getElem?_set, if_neg (fun e => hx e.symm)]
              · rw [List.getElem?_set, if_pos rfl, if_pos hbl]
            by_cases hroom : n + m ≤ cap
            · refine inplace H h rfl b _ k.solo hroom hset.1 hset.2 fun x k' o' hx hk' hm' => ?_
              have h1 := haps x k' B o' (fun e => hx e.symm) hk' hm'
              have h2 := hapo x k' B o' hx hk' hm'
              refine ⟨(h1.2 t1 rfl).1, ?_, (h1.2 t1 rfl).2, ?_⟩
              · cases hs : k'.solo with
                | false => rfl
                | true => exact absurd rfl (h2.1 hs)
              · cases hs : k.solo with
                | false => rfl
                | true => exact absurd rfl (h1.1 hs)
            · have := append_new hT h ht hu he (base := some A) (n := n) (cap := cap) hlx hf2 hz1 hr2' hz2' hslen hxl (by omega) c3 c4 ty
                b _ ⟨H.c, k.cells.drop off ++ xs, true, k.solo⟩ rfl (by rw [← htake]; exact slCells_all h hsl) (slCells_all h hc) rfl hset.1 hset.2
              exact this
        · cases ha
end
/- copy, small operations; each operation of the executor. -/
section
variable {P : Program} {T : Tab} {B0 : Nat} {w0 w : World} {G : Cx} {H : Hp}
theorem copy_ok (hT : TOK P T) (h : St B0 w0 G H w) {t e u : Nat} {ie : TI} (ht : Tab.d T t = .slice e) (he : T e = some ie)
    {d x v' : AV} {H' : Hp} {vd vx : Value} (hd : RV G d vd) (hx : RV G x vx) (ha : acopy ie.size d x H = some (v', H')) (ty : Nat) :
    OkV P B0 w0 G w (Builtin.copy_ #[t, u] ty #[vd, vx]) v' H' := by
  have hut := desc_slice hT ht
  have hsz := run_sizeOf (hT e ie he) w
  unfold acopy at ha
  split at ha
  · rename_i p hc
    obtain ⟨m, xs⟩ := p
    cases ha
    cases hd
    have hl : ∃ m', (Builtin.lenOf vx).run P w = .ok m' w ∧ (Builtin.firstCells ie.size 0 vx).run P w = .ok #[] w := by
      cases hx <;> simp only [slCells] at hc <;> first | (cases hc; done) | skip
      · exact ⟨0, by simp [Builtin.lenOf], by simp [Builtin.firstCells]⟩
      · exact ⟨_, by simp only [Builtin.lenOf]; rfl, by simp [Builtin.firstCells, loadCells, loadCellsFrom]⟩
      · exact ⟨_, by simp only [Builtin.lenOf]; rfl, by simp [Builtin.firstCells, loadCells, loadCellsFrom]⟩
    obtain ⟨m', hl1, hl2⟩ := hl
    refine ⟨.int .i64 0, w, G, ?_, Le.refl G, h, .int _ _⟩
    simp [Builtin.copy_, run_underlying hut, hl1, hsz, hl2, goInt]
  · rename_i b ver off n es' full m xs hc
    split at ha
    · rename_i k hk
      split at ha
      · rename_i hcond
        obtain ⟨c1, c2, c3, c4⟩ := hcond
        subst c1
        cases ha
        obtain ⟨hlx, hfx⟩ := slCells_ok (P := P) h hx hc c4
        obtain ⟨ys, hf, hr⟩ := hfx (min m n) (Nat.min_le_left _ _)
        have hyl := hr.length
        have hmm : min m n * ie.size ≤ m * ie.size := Nat.mul_le_mul_right _ (Nat.min_le_left _ _)
        have hmn : min m n * ie.size ≤ n * ie.size := Nat.mul_le_mul_right _ (Nat.min_le_right _ _)
        simp only [List.length_take, Array.length_toList] at hyl
        cases hd with | sl _ _ _ _ _ _ B o A cap a1 a2 a3 a4 a5 =>
        obtain ⟨cs, e1, fr, hh, hlen, hrv, hfr, hs⟩ := h.cellsAt hk a2
        obtain ⟨hk1, hv⟩ := Hp.at_some hk
        subst hv
        have h1c : (xs.take (min m n * ie.size)).all AV.one = true := by
          have := slCells_all h hc
          simp only [List.all_eq_true] at this ⊢
          intro y hy
          exact this y (List.mem_of_mem_take hy)
        obtain ⟨hf0, hst⟩ := h.write hk1 c2 a2 hh _ _ hr h1c off (by rw [List.length_take]; omega)
        subst hf0
        have hfin : Builtin.firstCells ie.size (Nat.min m n) vx = Builtin.firstCells ie.size (min m n) vx := rfl
        by_cases hcap : cap = 0
        · have hn0 : n = 0 := by omega
          subst hn0
          have hy0 : ys = #[] := Array.eq_empty_of_size_eq_zero (by simp at hyl; omega)
          subst hy0
          have hnoop : w.setRow B (setAllV cs.toList (o + off) (#[] : Array Value).toList).toArray = w := by
            simp only [setAllV, Array.toArray_toList]
            exact setRow_self w B cs e1 (0, 0) hh
          rw [hnoop] at hst
          refine ⟨.int .i64 (min m 0 : Nat), w, G, ?_, Le.refl G, hst, .int _ _⟩
          simp only [Builtin.copy_, List.getElem?_toArray, List.getElem?_cons_zero, List.getElem?_cons_succ, Sem.run_bind, run_underlying hut, Result.andThen_ok, hlx, hsz, hfin, hf, Sem.run_pure, storeCells, goInt]
        · obtain ⟨rfl, hb⟩ := a5 hcap
          have hst2 := run_storeCells_at P B (o + off) e1 ys.toList 0 cs w hh (by simp; omega) (hr.one h1c)
          simp only [Nat.add_zero] at hst2
          rw [setAllV_eq _ _ _ (by simp; omega)] at hst
          refine ⟨.int .i64 (min m n : Nat), _, G, ?_, Le.refl G, hst, .int _ _⟩
          simp only [Builtin.copy_, List.getElem?_toArray, List.getElem?_cons_zero, List.getElem?_cons_succ, Sem.run_bind, run_underlying hut, Result.andThen_ok, hlx, hsz, hfin, hf, Sem.run_pure, hst2, goInt]
      · cases ha
    · cases ha
  · cases ha
theorem sliceS_ok (hT : TOK P T) {t : Nat} {z : ByteArray} {v' : AV} {lo hi : Option AV} {vl vh : Option Value} (hd : Tab.d T t = .str) (hl : ROV G lo vl) (hh : ROV G hi vh) (h : asliceS z lo hi = some v') :
    ∃ v, (Instr.sliceAt t (.string z) vl vh none).run P w = .ok v w ∧ RV G v' v := by
  have hu := desc_str hT hd
  unfold asliceS at h
  split at h
  · rename_i l h' hl1 hh1
    split at h
    · rename_i hc
      obtain ⟨c1, c2, c3⟩ := hc
      cases h
      have b1 : ∀ (c : BoundsCode) (k : IntKind), (Instr.sliceBound (.int k l) h'.toNat c).run P w = .ok l.toNat w := fun c k => sliceBound_ok c1 (by omega)
      have b2 : ∀ (c : BoundsCode) (k : IntKind), (Instr.sliceBound (.int k h') z.size c).run P w = .ok h'.toNat w := fun c k => sliceBound_ok (by omega) (by omega)
      refine ⟨_, ?_, .str _⟩
      rcases bnd_ok hl hl1 with ⟨rfl, rfl⟩ | ⟨k1, rfl⟩ <;> rcases bnd_ok hh hh1 with ⟨rfl, rfl⟩ | ⟨k2, rfl⟩ <;>
        simp [Instr.sliceAt, run_underlying hu, Instr.slice, Instr.sliceBounds, b1, b2] <;> (try (simp at b1; simp [b1]))
    · cases h
  · cases h
end
/- Each operation of the executor does what the machine's does. -/
section
variable {P : Program} {T : Tab} {B0 : Nat} {w0 w : World} {G : Cx} {H : Hp}
/-- The slots. -/
def RF (G : Cx) (s : Sl) (tmps : Array Value) : Prop := ∀ t, RV G (get s t) (tmps.getD t undef)
theorem RF.le {G G' : Cx} {s tmps} (h : RF G s tmps) (hl : Le G G') : RF G' s tmps := fun t => (h t).le hl
theorem RV.ofConst (v : Value) : RV G (ofConst v) v := by
  unfold Pq.ofConst
  split
  · exact .int _ _
  · exact .bool _
  · exact .str _
  · exact .nilS
  · exact .nilP
  · exact .nilF
  · exact .nilI
  · exact .bad _
theorem RF.ev {s : Sl} {a : Act} (h : RF G s a.tmps) (x : Operand) : RV G (ev s x) (a.eval x) := by
  cases x with
  | tmp t => exact h t
  | const v => exact RV.ofConst v
  | global g => exact .bad _
  | func f => exact .func f [] [] .nil
theorem RF.evs {s : Sl} {a : Act} (h : RF G s a.tmps) : ∀ l : List Operand, RVs G (l.map (Pq.ev s)) (l.map a.eval) := by
  intro l
  induction l with
  | nil => exact .nil
  | cons x l ih => exact .cons _ _ _ _ (h.ev x) ih
theorem RF.evo {s : Sl} {a : Act} (h : RF G s a.tmps) (x : Option Operand) : ROV G (x.map (Pq.ev s)) (x.map a.eval) := by
  cases x with
  | none => exact .none
  | some x => exact .some _ _ (h.ev x)
/-- The operation comes to a value. -/
def OkN (P : Program) (B0 : Nat) (w0 : World) (G : Cx) (w : World) (m : Sem Next) (v' : AV) (H' : Hp) : Prop :=
  ∃ x w' G', m.run P w = .ok x w' ∧ Le G G' ∧ St B0 w0 G' H' w' ∧ (∃ v, RV G' v' v ∧ (x = .value v ∨ (x = .skip ∧ v = undef)))
theorem OkV.n {m : Sem Value} {v' : AV} {H' : Hp} (h : OkV P B0 w0 G w m v' H') : OkN P B0 w0 G w (do pure (.value (← m))) v' H' := by
  obtain ⟨v, w', G', h1, h2, h3, h4⟩ := h
  exact ⟨.value v, w', G', by simp [h1], h2, h3, v, h4, .inl rfl⟩
theorem OkV.pure {m : Sem Value} {v' : AV} {v : Value} (hst : St B0 w0 G H w) (h : m.run P w = .ok v w) (hr : RV G v' v) : OkV P B0 w0 G w m v' H := ⟨v, w, G, h, Le.refl G, hst, hr⟩
theorem guard_ok {op : BinOp} {t : Nat} {ox oy : Operand} {x y v : AV} {vx vy : Value} (hx : RV G x vx) (hy : RV G y vy) (h : abin T op t x y = some v) :
    (eqGuard op t ox oy vx vy).run P w = .ok () w := by
  have key : (∃ k n, vy = .int k n) ∨ (∃ b, vy = .bool b) ∨ (∃ s, vy = .string s) ∨ (vy = .slice none 0 0) ∨ (vy = .pointer none) → (eqGuard op t ox oy vx vy).run P w = .ok () w := by
    rintro (⟨k, n, rfl⟩ | ⟨b, rfl⟩ | ⟨s, rfl⟩ | rfl | rfl) <;> cases op <;> cases vx <;> rfl
  apply key
  unfold abin at h
  split at h
  · cases hy; exact .inl ⟨_, _, rfl⟩
  · cases hy; exact .inr (.inr (.inl ⟨_, rfl⟩))
  · cases hy; exact .inr (.inl ⟨_, rfl⟩)
  · split at h
    · cases hy; exact .inr (.inr (.inr (.inl rfl)))
    · cases hy; exact .inr (.inr (.inr (.inl rfl)))
    · cases hy; exact .inr (.inr (.inr (.inr rfl)))
    · cases hy; exact .inr (.inr (.inr (.inr rfl)))
    · cases h
theorem aop_ok (hT : TOK P T) (h : St B0 w0 G H w) {s : Sl} {a : Act} (hs : RF G s a.tmps) {share : Bool} {o : Oper} {v' : AV} {H' : Hp} (ha : aop T share s o.op H = some (v', H')) :
    OkN P B0 w0 G w (execOp a.eval o) v' H' := by
  unfold execOp
  cases hop : o.op <;> simp only [hop, aop] at ha ⊢ <;> first | (cases ha; done) | skip
  case move x => cases ha; exact ⟨_, w, G, rfl, Le.refl G, h, _, hs.ev x, .inl rfl⟩
  case assign x => cases ha; exact ⟨_, w, G, rfl, Le.refl G, h, _, hs.ev x, .inl rfl⟩
  case pick c x y =>
    have hc := hs.ev c
    split at ha
    · rename_i t ht
      rw [ht] at hc
      cases ha
      have hb : a.eval c = .bool t := by
        generalize a.eval c = vc at hc
        cases hc; rfl
      refine ⟨.value (if t = true then a.eval x else a.eval y), w, G, ?_, Le.refl G, h, _, ?_, .inl rfl⟩
      · simp only [hb, asBool, Sem.run_bind, Sem.run_pure, Result.andThen_ok]
      · cases t
        · exact hs.ev y
        · exact hs.ev x
    · cases ha
  case alloc e =>
    obtain ⟨i, hi, hv⟩ := Option.map_eq_some_iff.1 ha
    cases hv
    exact (alloc_ok hT h hi).n
  case box e x =>
    split at ha
    · rename_i h1
      cases ha
      exact (box_ok h (hs.ev x) h1).n
    · cases ha
  case build t ps =>
    have hparts : (ps.toList.map fun p : Nat × Operand => (p.1, Pq.ev s p.2)).map (·.1) = (ps.map fun (i, x) => (i, a.eval x)).toList.map (·.1) := by simp
    have hvals : RVs G ((ps.toList.map fun p : Nat × Operand => (p.1, Pq.ev s p.2)).map (·.2)) ((ps.map fun (i, x) => (i, a.eval x)).toList.map (·.2)) := by
      have := hs.evs (ps.toList.map (·.2))
      simpa [List.map_map, Function.comp_def] using this
    split at ha
    · rename_i i hi
      split at ha
      · rename_i fs hd
        obtain ⟨cs, hc, hv⟩ := Option.map_eq_some_iff.1 ha
        cases hv
        exact (build_ok (ps := (ps.toList.map fun p : Nat × Operand => (p.1, Pq.ev s p.2)).toArray) hT h hi hparts hvals (by simpa using hc) (.inl ⟨fs, hd, rfl⟩)).n
      · rename_i n e hd
        obtain ⟨ie, hie, hb⟩ := Option.bind_eq_some_iff.1 ha
        obtain ⟨cs, hc, hv⟩ := Option.map_eq_some_iff.1 hb
        cases hv
        exact (build_ok (ps := (ps.toList.map fun p : Nat × Operand => (p.1, Pq.ev s p.2)).toArray) hT h hi hparts hvals (by simpa using hc) (.inr ⟨n, e, ie, hd, hie, rfl⟩)).n
      · cases ha
    · cases ha
  case buildSlice t n ps =>
    have hparts : (ps.toList.map fun p : Nat × Operand => (p.1, Pq.ev s p.2)).map (·.1) = (ps.map fun (i, x) => (i, a.eval x)).toList.map (·.1) := by simp
    have hvals : RVs G ((ps.toList.map fun p : Nat × Operand => (p.1, Pq.ev s p.2)).map (·.2)) ((ps.map fun (i, x) => (i, a.eval x)).toList.map (·.2)) := by
      have := hs.evs (ps.toList.map (·.2))
      simpa [List.map_map, Function.comp_def] using this
    split at ha
    · rename_i e hd
      obtain ⟨ie, hie, hb⟩ := Option.bind_eq_some_iff.1 ha
      split at hb
      · rename_i hle
        obtain ⟨cs, hc, hv⟩ := Option.map_eq_some_iff.1 hb
        cases hv
        exact (buildSlice_ok hT h hd hie hle hparts hvals hc).n
      · cases hb
    · cases ha
  case load t x =>
    obtain ⟨v, hv, he⟩ := Option.map_eq_some_iff.1 ha
    cases he
    exact (load_ok hT h (hs.ev x) hv).n
  case store t x y =>
    obtain ⟨H1, hv, he⟩ := Option.map_eq_some_iff.1 ha
    cases he
    obtain ⟨w', h1, h2⟩ := store_ok hT h (hs.ev x) (hs.ev y) hv
    exact ⟨.skip, w', G, by simp [h1], Le.refl G, h2, undef, .bad _, .inr ⟨rfl, rfl⟩⟩
  case nilCheck x =>
    have hx := hs.ev x
    split at ha
    · rename_i b v off he
      rw [he] at hx
      cases ha
      generalize a.eval x = vx at hx
      cases hx with | ptr _ _ _ B o' a1 a2 =>
      exact ⟨_, w, G, rfl, Le.refl G, h, _, .ptr _ _ _ _ _ a1 a2, .inl rfl⟩
    · cases ha
  case binOp op t x y u =>
    obtain ⟨v, hv, he⟩ := Option.map_eq_some_iff.1 ha
    cases he
    obtain ⟨z, h1, h2⟩ := bin_ok (P := P) (w := w) hT (hs.ev x) (hs.ev y) hv
    have hg := guard_ok (P := P) (w := w) (t := t) (ox := x) (oy := y) (hs.ev x) (hs.ev y) hv
    exact ⟨.value z, w, G, by simp [hg, h1], Le.refl G, h, z, h2, .inl rfl⟩
  case unOp op t x =>
    have hx := hs.ev x
    generalize a.eval x = vx at hx
    split at ha
    · rename_i b he
      rw [he] at hx
      cases ha; cases hx
      exact ⟨_, w, G, by simp [Op.unary], Le.refl G, h, _, .bool _, .inl rfl⟩
    · rename_i k n he
      rw [he] at hx
      cases ha; cases hx
      exact ⟨_, w, G, by simp [Op.unary, Op.intArith], Le.refl G, h, _, .int _ _, .inl rfl⟩
    · cases ha
  case convert src t x =>
    have hx := hs.ev x
    generalize a.eval x = vx at hx
    split at ha
    · rename_i i k k' n hsrc hd he
      rw [he] at hx
      cases ha; cases hx
      obtain ⟨d, hd1⟩ := (hT src i hsrc).under
      refine ⟨.value (.int k (k.wrap n)), w, G, ?_, Le.refl G, h, _, .int _ _, .inl rfl⟩
      simp only [convert, Sem.run_bind, run_underlying hd1, run_underlying (desc_int hT hd), Result.andThen_ok, Conv.intToInt, Sem.run_pure]
    · cases ha
  case makeFunc fn first caps =>
    split at ha
    · split at ha
      · rename_i g h0
        cases ha
        have hf : first = #[] := Array.eq_empty_of_size_eq_zero h0
        subst hf
        have := RV.func (G := G) g _ _ (hs.evs caps.toList)
        refine ⟨.value (.func (.func g) #[] (caps.map a.eval)), w, G, by simp [Instr.makeFunc], Le.refl G, h, _, ?_, .inl rfl⟩
        have e : (caps.toList.map a.eval).toArray = caps.map a.eval := by apply Array.ext'; simp
        rwa [e] at this
      · cases ha
    · cases ha
  case makeSlice t l c =>
    have hl := hs.ev l
    have hc := hs.ev c
    generalize a.eval l = vl at hl
    generalize a.eval c = vc at hc
    split at ha
    · rename_i e k n k' m hd h1 h2
      rw [h1] at hl; rw [h2] at hc
      obtain ⟨ie, hie, hb⟩ := Option.bind_eq_some_iff.1 ha
      split at hb
      · rename_i hcond
        obtain ⟨rfl, c1, c2, c3⟩ := hcond
        cases hb; cases hl; cases hc
        exact (makeSlice_ok hT h hd hie c1 c2 c3).n
      · cases hb
    · cases ha
  case slice t x lo hi mx =>
    have hx := hs.ev x
    split at ha
    · rename_i e x' mx' hd
      obtain ⟨ie, hie, hb⟩ := Option.bind_eq_some_iff.1 ha
      obtain ⟨v, hv, he⟩ := Option.map_eq_some_iff.1 hb
      cases he
      obtain ⟨z, h1, h2⟩ := slice_ok (P := P) (w := w) hT hd hie rfl hx (hs.evo lo) (hs.evo hi) (hs.evo _) hv
      exact (OkV.pure h h1 h2).n
    · rename_i z hd he
      obtain ⟨v, hv, he'⟩ := Option.map_eq_some_iff.1 ha
      cases he'
      rw [he] at hx
      generalize a.eval x = vx at hx
      cases hx
      obtain ⟨y, h1, h2⟩ := sliceS_ok (P := P) (w := w) hT hd (hs.evo lo) (hs.evo hi) hv
      exact (OkV.pure h h1 h2).n
    · cases ha
  case fieldAddr t x f =>
    have hx := hs.ev x
    split at ha
    · rename_i fs b v off hd he
      rw [he] at hx
      obtain ⟨p, hp, hb⟩ := Option.bind_eq_some_iff.1 ha
      obtain ⟨i, hi, hb⟩ := Option.bind_eq_some_iff.1 hb
      split at hb
      · cases hb
      · rename_i h0
        cases hb
        obtain ⟨z, h1, h2⟩ := fieldAddr_ok (P := P) (w := w) hT hd hp hi h0 hx
        exact (OkV.pure h h1 h2).n
    · cases ha
  case field t x f =>
    have hx := hs.ev x
    split at ha
    · rename_i fs cs hd he
      rw [he] at hx
      obtain ⟨p, hp, hb⟩ := Option.bind_eq_some_iff.1 ha
      obtain ⟨v, hv, he'⟩ := Option.map_eq_some_iff.1 hb
      cases he'
      obtain ⟨z, h1, h2⟩ := field_ok (P := P) (w := w) hT hd hp hv hx
      exact (OkV.pure h h1 h2).n
    · cases ha
  case indexAddr t x i =>
    have hx := hs.ev x
    have hi := hs.ev i
    generalize a.eval i = vi at hi
    split at ha
    · rename_i e b v off n es full k j hd h1 h2
      rw [h1] at hx; rw [h2] at hi
      cases hi
      obtain ⟨ie, hie, hb⟩ := Option.bind_eq_some_iff.1 ha
      split at hb
      · rename_i hc
        obtain ⟨c1, c2, c3⟩ := hc
        cases hb
        obtain ⟨z, h1, h2⟩ := indexAddr_sl_ok (P := P) (w := w) hT hd hie c1 c2 c3 hx
        exact (OkV.pure h h1 h2).n
      · cases hb
    · rename_i n e b v off k j hd h1 h2
      rw [h1] at hx; rw [h2] at hi
      cases hi
      obtain ⟨ie, hie, hb⟩ := Option.bind_eq_some_iff.1 ha
      split at hb
      · rename_i hc
        obtain ⟨c2, c3⟩ := hc
        cases hb
        obtain ⟨z, h1, h2⟩ := indexAddr_arr_ok (P := P) (w := w) hT hd hie c2 c3 hx
        exact (OkV.pure h h1 h2).n
      · cases hb
    · cases ha
  case index t x i =>
    have hx := hs.ev x
    have hi := hs.ev i
    generalize a.eval i = vi at hi
    split at ha
    · rename_i n e cs k j hd h1 h2
      rw [h1] at hx; rw [h2] at hi
      cases hi
      obtain ⟨ie, hie, hb⟩ := Option.bind_eq_some_iff.1 ha
      split at hb
      · rename_i hc
        obtain ⟨c2, c3⟩ := hc
        obtain ⟨v, hv, he'⟩ := Option.map_eq_some_iff.1 hb
        cases he'
        obtain ⟨z, h1, h2⟩ := index_arr_ok (P := P) (w := w) hT hd hie c2 c3 hv hx
        exact (OkV.pure h h1 h2).n
      · cases hb
    · rename_i z k j hd h1 h2
      rw [h1] at hx; rw [h2] at hi
      generalize a.eval x = vx at hx
      cases hx; cases hi
      split at ha
      · rename_i h0
        obtain ⟨c, hc, he'⟩ := Option.map_eq_some_iff.1 ha
        cases he'
        refine (OkV.pure h (v := .int .u8 c.toNat) ?_ (.int _ _)).n
        simp [Instr.index, asIntOf, run_underlying (desc_str hT hd), h0, hc]
      · cases ha
    · cases ha
  case extract x i =>
    have hx := hs.ev x
    split at ha
    · rename_i vs he
      rw [he] at hx
      obtain ⟨v, hv, he'⟩ := Option.map_eq_some_iff.1 ha
      cases he'
      generalize a.eval x = vx at hx
      cases hx with | tup _ us hr =>
      obtain ⟨z, h1, h2⟩ := hr.get hv
      refine (OkV.pure h (v := z) ?_ h2).n
      simp [Instr.extract, h1]
    · cases ha
  case call c =>
    obtain ⟨callee, args, tys⟩ := c
    cases callee <;> simp only at ha <;> first | (cases ha; done) | skip
    rename_i b
    obtain ⟨args⟩ := args
    obtain ⟨tys⟩ := tys
    simp only at ha
    have hgo : ∀ (m : Sem Value), (∀ cs, builtin b tys.toArray o.type cs (args.map a.eval).toArray = (do pure (.value (← m)))) → OkV P B0 w0 G w m v' H' →
        OkN P B0 w0 G w (do let d ← resolve a.eval { callee := .builtin b, args := args.toArray, argTypes := tys.toArray } o.type; invoke d.target d.args) v' H' := by
      intro m hm hok
      obtain ⟨x, w', G', h1, h2⟩ := hok.n
      refine ⟨x, w', G', ?_, h2⟩
      simp only [resolve, Sem.run_bind, Sem.run_pure, Result.andThen_ok, invoke, List.map_toArray, hm]
      simpa using h1
    split at ha
    · rename_i x t
      have hx := hs.ev x
      refine hgo (Builtin.len_ #[t] o.type #[a.eval x]) (fun _ => rfl) ?_
      generalize a.eval x = vx at hx
      split at ha
      · rename_i e hd he
        rw [he] at hx; cases ha; cases hx
        exact OkV.pure h (by simp [Builtin.len_, run_underlying (desc_slice hT hd), goInt]) (.int _ _)
      · rename_i e hd he
        rw [he] at hx; cases ha
        cases hx <;> exact OkV.pure h (by simp [Builtin.len_, run_underlying (desc_slice hT hd), goInt]) (.int _ _)
      · rename_i e b ver off n es full hd he
        rw [he] at hx; cases ha
        cases hx
        exact OkV.pure h (by simp [Builtin.len_, run_underlying (desc_slice hT hd), goInt]) (.int _ _)
      · rename_i z hd he
        rw [he] at hx; cases ha; cases hx
        exact OkV.pure h (by simp [Builtin.len_, run_underlying (desc_str hT hd), goInt]) (.int _ _)
      · rename_i n e hd
        cases ha
        refine OkV.pure h (v := .int .i64 n) ?_ (.int _ _)
        simp only [Builtin.len_, List.getElem?_toArray, List.getElem?_cons_zero, Sem.run_bind, run_underlying (desc_array hT hd), Result.andThen_ok, goInt]
        cases vx <;> rfl
      · cases ha
    · rename_i x y t u
      refine hgo (Builtin.append_ #[t, u] o.type #[a.eval x, a.eval y]) (fun _ => rfl) ?_
      split at ha
      · rename_i e e' hd hd'
        obtain ⟨ie, hie, hb⟩ := Option.bind_eq_some_iff.1 ha
        exact append_ok hT h hd hd' hie (hs.ev x) (hs.ev y) hb _
      · cases ha
    · rename_i x y t u
      refine hgo (Builtin.copy_ #[t, u] o.type #[a.eval x, a.eval y]) (fun _ => rfl) ?_
      split at ha
      · rename_i e hd
        obtain ⟨ie, hie, hb⟩ := Option.bind_eq_some_iff.1 ha
        exact copy_ok hT h hd hie (hs.ev x) (hs.ev y) hb _
      · cases ha
    · rename_i ts x y
      have hx := hs.ev x
      have hy := hs.ev y
      refine hgo (Builtin.min_ tys.toArray o.type #[a.eval x, a.eval y]) (fun _ => rfl) ?_
      generalize a.eval x = vx at hx
      generalize a.eval y = vy at hy
      split at ha
      · rename_i k p k' q h1 h2
        rw [h1] at hx; rw [h2] at hy
        split at ha
        · rename_i hk
          subst hk
          cases ha; cases hx; cases hy
          refine OkV.pure h (run_min_int2 w _ _ _ _ _ _) ?_
          by_cases hle : p ≤ q
          · rw [if_pos hle, if_neg (by omega)]; exact .int _ _
          · rw [if_neg hle, if_pos (by omega)]; exact .int _ _
        · cases ha
      · cases ha
    · rename_i ts x y
      have hx := hs.ev x
      have hy := hs.ev y
      refine hgo (Builtin.max_ tys.toArray o.type #[a.eval x, a.eval y]) (fun _ => rfl) ?_
      generalize a.eval x = vx at hx
      generalize a.eval y = vy at hy
      split at ha
      · rename_i k p k' q h1 h2
        rw [h1] at hx; rw [h2] at hy
        split at ha
        · rename_i hk
          subst hk
          cases ha; cases hx; cases hy
          refine OkV.pure h (run_max_int2 w _ _ _ _ _ _) ?_
          by_cases hle : q ≤ p
          · rw [if_pos hle, if_neg (by omega)]; exact .int _ _
          · rw [if_neg hle, if_pos (by omega)]; exact .int _ _
        · cases ha
      · cases ha
    · cases ha
end
/- The executor over code: operations, regions, loops, calls; that it says what the machine does (regions that draw their order apart). -/
/-- What a callee does: it leaves the memory alone, or not. -/
inductive FSem where
  | pure (f : List AV → Hp → Option AV)
  | eff (f : List AV → Hp → Option (AV × Hp))
def FSem.run : FSem → List AV → Hp → Option (AV × Hp)
  | .pure f, vs, H => (f vs H).map fun v => (v, H)
  | .eff f, vs, H => f vs H
abbrev Env := Nat → Option FSem
def aput (nt : Nat) : Option Nat → AV → Sl → Sl
  | some d, v, s => if d < nt then (d, v) :: s else s
  | none, _, s => s
/-- Is the operation carried out? (The slot of the operation that guards it.) -/
def wantedA (ops : Array Oper) (o : Oper) (s : Sl) : Option Bool :=
  match o.guard with
  | none => some true
  | some (j, want) =>
    match (ops[j]?).bind (·.dst) with
    | some d => (match get s d with | .bool b => some (b == want) | .tup _ => some false | _ => none)
    | none => none
def xdo (E : Env) (T : Tab) (share : Bool) (op : Op) (s : Sl) (H : Hp) : Option (AV × Hp) :=
  match op with
  | .call ⟨.value f, args, _⟩ =>
    (match ev s f with
    | .func g caps => (E g).bind fun F => F.run (args.toList.map (ev s) ++ caps) H
    | _ => none)
  | op => aop T share s op H
def xop (E : Env) (T : Tab) (share : Bool) (nt : Nat) (ops : Array Oper) (o : Oper) (s : Sl) (H : Hp) : Option (Sl × Hp) :=
  match wantedA ops o s with
  | none => none
  | some false => some (aput nt o.dst (.tup []) s, H)
  | some true => (xdo E T share o.op s H).map fun r => (aput nt o.dst r.1 s, r.2)
def xlist (E : Env) (T : Tab) (share : Bool) (nt : Nat) (ops : Array Oper) : List Oper → Sl → Hp → Option (Sl × Hp)
  | [], s, H => some (s, H)
  | o :: l, s, H =>
    match xop E T share nt ops o s H with
    | some (s', H') => xlist E T share nt ops l s' H'
    | none => none
section
variable {P : Program} {T : Tab} {B0 : Nat} {w0 w : World} {G : Cx} {H : Hp}
/-- Function g of the program does what F says. -/
def Sound (P : Program) (g : Nat) (F : List AV → Hp → Option (AV × Hp)) : Prop :=
  (∃ fn, P.funcs[g]? = some fn ∧ fn.body.isSome = true ∧ (fn.name == "runtime.NumGoroutine") = false) ∧
  ∀ args H r H', F args H = some (r, H') → ∀ B0 w0 G w vargs, St B0 w0 G H w → RVs G args vargs →
    Calls P g vargs.toArray w fun e w' => ∃ v G', e = .returned v ∧ Le G G' ∧ St B0 w0 G' H' w' ∧ RV G' r v
def EOK (P : Program) (E : Env) : Prop := ∀ g F, E g = some F → Sound P g F.run
def RF' (nt : Nat) (G : Cx) (s : Sl) (a : Act) : Prop := RF G s a.tmps ∧ a.tmps.size = nt
theorem RF'.le {nt : Nat} {G G' : Cx} {s a} (h : RF' nt G s a) (hl : Le G G') : RF' nt G' s a := ⟨h.1.le hl, h.2⟩
theorem Act.put_defers (a : Act) (d : Option Nat) (v : Value) : (a.put d v).defers = a.defers := by cases d <;> rfl
theorem Act.put_size (a : Act) (d : Option Nat) (v : Value) : (a.put d v).tmps.size = a.tmps.size := by cases d <;> simp [Act.put]
theorem RF'.put {nt : Nat} {s : Sl} {a : Act} (h : RF' nt G s a) {x : AV} {v : Value} (hv : RV G x v) (d : Option Nat) : RF' nt G (aput nt d x s) (a.put d v) := by
  refine ⟨?_, by rw [Act.put_size]; exact h.2⟩
  cases d with
  | none => exact h.1
  | some d =>
    intro t
    simp only [aput, Act.put]
    by_cases hd : d < nt
    · rw [if_pos hd]
      simp only [get]
      by_cases ht : t = d
      · rw [if_pos ht]
        subst ht
        have : t < a.tmps.size := by rw [h.2]; exact hd
        simp [Array.getD_eq_getD_getElem?, this]
        exact hv
      · rw [if_neg ht]
        have := h.1 t
        simp only [Array.getD_eq_getD_getElem?, Array.getElem?_setIfInBounds, if_neg (fun e => ht e.symm : ¬ d = t)] at this ⊢
        exact this
    · rw [if_neg hd]
      have : a.tmps.setIfInBounds d v = a.tmps := by rw [Array.setIfInBounds_eq_of_size_le (by rw [h.2]; omega)]
      rw [this]
      exact h.1 t
theorem wanted_ok {nt : Nat} {ops : Array Oper} {o : Oper} {s : Sl} {a : Act} (h : RF' nt G s a) {b : Bool} (hw : wantedA ops o s = some b) : Region.wanted o (yielded ops a.tmps) = b := by
  unfold wantedA at hw
  unfold Region.wanted
  cases hg : o.guard with
  | none => rw [hg] at hw; simp at hw; simp [hw]
  | some p =>
    obtain ⟨j, want⟩ := p
    rw [hg] at hw
    simp only at hw ⊢
    cases hd : (ops[j]?).bind (·.dst) with
    | none => rw [hd] at hw; cases hw
    | some d =>
      rw [hd] at hw
      simp only at hw
      split at hw
      · rename_i c hc
        cases hw
        have := h.1 d
        rw [hc] at this
        unfold yielded
        rw [hd]
        simp only [Option.bind_some]
        cases ht : a.tmps[d]? with
        | none => simp [Array.getD_eq_getD_getElem?, ht, undef] at this; cases this
        | some v =>
          simp [Array.getD_eq_getD_getElem?, ht] at this
          cases this
          simp only
          cases c <;> cases want <;> rfl
      · rename_i cs hc
        cases hw
        have := h.1 d
        rw [hc] at this
        unfold yielded
        rw [hd]
        simp only [Option.bind_some]
        cases ht : a.tmps[d]? with
        | none => rfl
        | some v =>
          simp [Array.getD_eq_getD_getElem?, ht] at this
          cases this
          rfl
      · cases hw
/-- One operation, whatever follows. -/
theorem xdo_ok (hT : TOK P T) {E : Env} (hE : EOK P E) {share : Bool} {o : Oper} {s : Sl} {a : Act} (h : St B0 w0 G H w) (hs : RF G s a.tmps) {v' : AV} {H' : Hp} (hx : xdo E T share o.op s H = some (v', H'))
    {K : Act → World → Prop} {Q : Exit → Act → World → Prop} (hk : ∀ v w' G', Le G G' → St B0 w0 G' H' w' → RV G' v' v → K (a.put o.dst v) w') : o.wp P a w K Q := by
  have prim : aop T share s o.op H = some (v', H') → o.wp P a w K Q := by
    intro ha
    obtain ⟨x, w', G', h1, h2, h3, v, h4, h5⟩ := aop_ok hT h hs ha
    unfold Oper.wp
    rw [h1]
    rcases h5 with rfl | ⟨rfl, rfl⟩
    · rw [Oper.upon_value]; exact hk v w' G' h2 h3 h4
    · rw [Oper.upon_skip]; exact hk undef w' G' h2 h3 h4
  unfold xdo at hx
  split at hx
  · rename_i f args tys hop
    split at hx
    · rename_i g caps hf
      obtain ⟨F, hF, hrun⟩ := Option.bind_eq_some_iff.1 hx
      obtain ⟨⟨fn, f1, f2, f3⟩, hsound⟩ := hE g F hF
      have hfv := hs.ev f
      rw [hf] at hfv
      have hargs := hs.evs args.toList
      unfold Oper.wp execOp
      simp only [hop, resolve, Sem.run_bind]
      generalize a.eval f = vf at hfv
      cases hfv with | func _ _ vcaps hcaps =>
      simp only [Deferred.ofValue, Sem.run_pure, Result.andThen_ok, invoke, callFunc, Sem.run_bind, run_program, f1, f3, Bool.false_eq_true, if_false, Sem.run_ite]
      have hbn : ¬ (fn.body.isNone = true) := by cases hb : fn.body <;> simp [hb] at f2 ⊢
      rw [if_neg hbn, Oper.upon_enter]
      have e : #[] ++ args.map a.eval ++ vcaps.toArray = (args.toList.map a.eval ++ vcaps).toArray := by apply Array.ext'; simp
      rw [e]
      refine (hsound _ H v' H' hrun B0 w0 G w _ h (hargs.append hcaps)).mono ?_
      rintro e w' ⟨v, G', rfl, h1, h2, h3⟩
      exact hk v w' G' h1 h2 h3
    · cases hx
  · exact prim hx
theorem xop_ok (hT : TOK P T) {E : Env} (hE : EOK P E) {share : Bool} {nt : Nat} {ops : Array Oper} {o : Oper} {s s' : Sl} {a : Act} (h : St B0 w0 G H w) (hs : RF' nt G s a) {H' : Hp} (hx : xop E T share nt ops o s H = some (s', H'))
    {K : Act → World → Prop} {Q : Exit → Act → World → Prop} (hk : ∀ a' w' G', Le G G' → St B0 w0 G' H' w' → RF' nt G' s' a' → a'.defers = a.defers → K a' w') :
    if Region.wanted o (yielded ops a.tmps) then o.wp P a w K Q ∨ (o.asks P a w ∧ LetsOut Q) else K (a.put o.dst undef) w := by
  unfold xop at hx
  split at hx
  · cases hx
  · rename_i hw
    have := wanted_ok hs hw
    rw [if_neg (by simp [this])]
    cases hx
    exact hk _ _ G (Le.refl G) h (hs.put (v := undef) (.tup [] [] .nil) _) (Act.put_defers _ _ _)
  · rename_i hw
    have := wanted_ok hs hw
    rw [if_pos this]
    obtain ⟨r, hr, he⟩ := Option.map_eq_some_iff.1 hx
    obtain ⟨v', H1⟩ := r
    cases he
    exact .inl (xdo_ok hT hE h hs.1 hr fun v w' G' h1 h2 h3 => hk _ _ G' h1 h2 ((hs.le h1).put h3 _) (Act.put_defers _ _ _))
theorem xlist_ok (hT : TOK P T) {E : Env} (hE : EOK P E) {share : Bool} {nt : Nat} {ops : Array Oper} {Q : Exit → Act → World → Prop} : ∀ (l : List Oper) {s s' : Sl} {a : Act} {G : Cx} {H H' : Hp} {w : World}, St B0 w0 G H w → RF' nt G s a →
    xlist E T share nt ops l s H = some (s', H') → (∀ a' w' G', Le G G' → St B0 w0 G' H' w' → RF' nt G' s' a' → a'.defers = a.defers → Q .normal a' w') → wpList P ops Q l a w := by
  intro l
  induction l with
  | nil =>
    intro s s' a G H H' w h hs hx hk
    simp only [xlist] at hx
    cases hx
    exact wpList_nil (hk _ _ G (Le.refl G) h hs rfl)
  | cons o l ih =>
    intro s s' a G H H' w h hs hx hk
    simp only [xlist] at hx
    split at hx
    · rename_i s1 H1 h1
      unfold wpList
      exact xop_ok hT hE h hs h1 fun a1 w1 G1 g1 g2 g3 g4 => ih g2 g3 hx fun a2 w2 G2 e1 e2 e3 e4 => hk a2 w2 G2 (g1.trans e1) e2 e3 (e4.trans g4)
    · cases hx
end
/- A region that draws its order: one order, and a look at what may come earlier or later, serve every order. -/
def tmpsOf : List Operand → List Nat
  | [] => []
  | .tmp t :: l => t :: tmpsOf l
  | _ :: l => tmpsOf l
/-- The slots that an operation reads. -/
def readsOf (ops : Array Oper) (o : Oper) : List Nat :=
  tmpsOf o.op.operands.toList ++ (match o.guard with
    | some (j, _) => ((ops[j]?).bind (·.dst)).toList
    | none => [])
def xval (E : Env) (T : Tab) (share : Bool) (ops : Array Oper) (o : Oper) (s : Sl) (H : Hp) : Option (AV × Hp) :=
  match wantedA ops o s with
  | none => none
  | some false => some (.tup [], H)
  | some true => xdo E T share o.op s H
theorem xop_val (E : Env) (T : Tab) (share : Bool) (nt : Nat) (ops : Array Oper) (o : Oper) (s : Sl) (H : Hp) :
    xop E T share nt ops o s H = (xval E T share ops o s H).map fun r => (aput nt o.dst r.1 s, r.2) := by
  unfold xop xval
  cases wantedA ops o s with
  | none => rfl
  | some b => cases b <;> rfl
theorem ev_congr {s r : Sl} {l : List Operand} (h : ∀ t ∈ tmpsOf l, get s t = get r t) : ∀ x ∈ l, ev s x = ev r x := by
  induction l with
  | nil => intro x hx; cases hx
  | cons y l ih =>
    intro x hx
    have hl : ∀ t ∈ tmpsOf l, get s t = get r t := fun t ht => h t (by cases y <;> simp [tmpsOf, ht])
    rcases List.mem_cons.1 hx with rfl | hx
    · cases x with
      | tmp t => exact h t (by simp [tmpsOf])
      | const v => rfl
      | global g => rfl
      | func f => rfl
    · exact ih hl x hx
theorem xdo_congr {E : Env} {T : Tab} {share : Bool} {op : Op} {s r : Sl} {H : Hp} (h : ∀ x ∈ op.operands.toList, ev s x = ev r x) : xdo E T share op s H = xdo E T share op r H := by
  cases op with
  | build t ps =>
    have : ps.toList.map (fun p : Nat × Operand => (p.1, ev s p.2)) = ps.toList.map (fun p => (p.1, ev r p.2)) :=
      List.map_congr_left fun p hp => by rw [h p.2 (by simp only [Op.operands]; exact List.mem_map.2 ⟨p, hp, rfl⟩)]
    simp only [xdo, aop, this]
  | buildSlice t n ps =>
    have : ps.toList.map (fun p : Nat × Operand => (p.1, ev s p.2)) = ps.toList.map (fun p => (p.1, ev r p.2)) :=
      List.map_congr_left fun p hp => by rw [h p.2 (by simp only [Op.operands]; exact List.mem_map.2 ⟨p, hp, rfl⟩)]
    simp only [xdo, aop, this]
  | makeFunc fn first caps =>
    have : caps.toList.map (ev s) = caps.toList.map (ev r) := List.map_congr_left fun x hx => h x (by simp [Op.operands, hx])
    simp only [xdo, aop, this]
  | slice t x lo hi mx =>
    have h1 : ev s x = ev r x := h x (by simp [Op.operands])
    have h2 : lo.map (ev s) = lo.map (ev r) := by cases lo with | none => rfl | some y => simp [h y (by simp [Op.operands])]
    have h3 : hi.map (ev s) = hi.map (ev r) := by cases hi with | none => rfl | some y => simp [h y (by simp [Op.operands])]
    have h4 : mx.map (ev s) = mx.map (ev r) := by cases mx with | none => rfl | some y => simp [h y (by simp [Op.operands])]
    simp only [xdo, aop, h1, h2, h3, h4]
  | call c =>
    obtain ⟨callee, args, tys⟩ := c
    have hargs : args.toList.map (ev s) = args.toList.map (ev r) := List.map_congr_left fun x hx => h x (by simp [Op.operands, Call.operands, hx])
    cases callee with
    | value f =>
      have hf : ev s f = ev r f := h f (by simp [Op.operands, Call.operands])
      simp only [xdo, hf, hargs]
    | invoke f m => simp only [xdo, aop]
    | builtin b =>
      have h' : ∀ x ∈ args.toList, ev s x = ev r x := fun x hx => h x (by simp [Op.operands, Call.operands, hx])
      obtain ⟨args⟩ := args
      simp only at h'
      simp only [xdo, aop]
      split <;> first
        | rfl
        | (rw [h' _ (by simp)]; done)
        | (rw [h' _ (List.mem_cons_self ..), h' _ (List.mem_cons_of_mem _ (List.mem_cons_self ..))]; done)
        | simp only [h' _ (List.mem_cons_self ..), h' _ (List.mem_cons_of_mem _ (List.mem_cons_self ..))]
  | _ =>
    simp only [Op.operands, List.mem_cons, List.not_mem_nil, or_false, forall_eq_or_imp, forall_eq] at h
    try simp only [xdo, aop, h]
/-! ### the trace of the text's order -/
/-- The states ahead of each operation, and the last. -/
def xtr (E : Env) (T : Tab) (share : Bool) (nt : Nat) (ops : Array Oper) : List Oper → Sl → Hp → Option (List (Sl × Hp))
  | [], s, H => some [(s, H)]
  | o :: l, s, H =>
    match xop E T share nt ops o s H with
    | some (s', H') => (xtr E T share nt ops l s' H').map ((s, H) :: ·)
    | none => none
/-- An operation that leaves the memory alone, whatever it is asked. -/
def quietOp (E : Env) (o : Oper) : Bool :=
  match o.op with
  | .alloc _ | .box .. | .buildSlice .. | .store .. | .makeSlice .. => false
  | .call ⟨.builtin b, _, _⟩ => (match b with | .len | .min | .max => true | _ => false)
  | .call ⟨.value (.func g), _, _⟩ => (match E g with | some (.pure _) => true | _ => false)
  | .call _ => false
  | _ => true
theorem map_same {α : Type} {x : Option α} {f : α → AV} {H H' : Hp} {v : AV} (h : (x.map fun a => (f a, H)) = some (v, H')) : H' = H := by
  cases x with
  | none => cases h
  | some a => cases h; rfl
theorem bind_same {x : Option TI} {f : TI → Option (AV × Hp)} {H H' : Hp} {v : AV} (h : x.bind f = some (v, H')) (hf : ∀ i, f i = some (v, H') → H' = H) : H' = H := by
  cases x with
  | none => cases h
  | some a => exact hf a h
theorem bind_same2 {x : Option (Nat × Nat)} {f : Nat × Nat → Option (AV × Hp)} {H H' : Hp} {v : AV} (h : x.bind f = some (v, H')) (hf : ∀ i, f i = some (v, H') → H' = H) : H' = H := by
  cases x with
  | none => cases h
  | some a => exact hf a h
theorem quietOp_same {E : Env} {T : Tab} {share : Bool} {ops : Array Oper} {o : Oper} {s : Sl} {H H' : Hp} {v : AV} (hq : quietOp E o = true) (h : xval E T share ops o s H = some (v, H')) : H' = H := by
  unfold xval at h
  split at h
  · cases h
  · cases h; rfl
  · unfold quietOp at hq
    cases hop : o.op <;> simp only [hop] at hq h <;> first | (cases hq; done) | skip
    case call c =>
      obtain ⟨callee, args, tys⟩ := c
      cases callee <;> (try simp only at hq) <;> (try simp only at h) <;> first | (cases hq; done) | skip
      · rename_i f
        cases f <;> (try simp only at hq) <;> first | (cases hq; done) | skip
        rename_i g
        simp only [xdo, ev] at h
        obtain ⟨F, hF, hr⟩ := Option.bind_eq_some_iff.1 h
        rw [hF] at hq
        cases F with
        | pure f =>
          simp only [FSem.run] at hr
          obtain ⟨u, hu, he⟩ := Option.map_eq_some_iff.1 hr
          cases he; rfl
        | eff f => simp at hq
      · rename_i b
        simp only [xdo, aop] at h
        cases b <;> (try simp only at hq) <;> first | (cases hq; done) | skip
        all_goals
          repeat' first
            | contradiction
            | (cases h; done)
            | (cases h; rfl)
            | split at h
    all_goals
      simp only [xdo, aop] at h
      first
        | exact map_same h
        | (cases h; done)
        | (cases h; rfl)
        | (repeat' first
            | split at h
            | exact map_same h
            | (refine bind_same h fun i h => ?_)
            | (refine bind_same2 h fun i h => ?_)
            | (cases h; done)
            | (cases h; rfl))
/- A region that draws its order: the theorem. -/
/-! ### who waits for whom -/
def maskOf (acc : List Nat) (o : Oper) : Nat := o.after.toList.foldl (fun m e => if Region.binds .any e then m ||| 2 ^ e.on ||| acc.getD e.on 0 else m) 0
def masks : List Oper → List Nat → List Nat
  | [], acc => acc
  | o :: l, acc => masks l (acc ++ [maskOf acc o])
def preB (ms : List Nat) (e q : Nat) : Bool := (ms.getD e 0).testBit q
theorem maskOf_bit {acc : List Nat} {o : Oper} {q : Nat} (h : (maskOf acc o).testBit q = true) : ∃ e ∈ o.after, Region.binds .any e = true ∧ (e.on = q ∨ (acc.getD e.on 0).testBit q = true) := by
  unfold maskOf at h
  have key : ∀ (l : List Edge) (m : Nat), (l.foldl (fun m e => if Region.binds .any e then m ||| 2 ^ e.on ||| acc.getD e.on 0 else m) m).testBit q = true →
      m.testBit q = true ∨ ∃ e ∈ l, Region.binds .any e = true ∧ (e.on = q ∨ (acc.getD e.on 0).testBit q = true) := by
    intro l
    induction l with
    | nil => intro m h; exact .inl h
    | cons e l ih =>
      intro m h
      simp only [List.foldl_cons] at h
      rcases ih _ h with h1 | ⟨e', h1, h2⟩
      · split at h1
        · rename_i hb
          rw [Nat.testBit_or, Nat.testBit_or, Bool.or_eq_true, Bool.or_eq_true] at h1
          rcases h1 with (h1 | h1) | h1
          · exact .inl h1
          · rw [Nat.testBit_two_pow] at h1
            exact .inr ⟨e, by simp, hb, .inl (by simpa using h1)⟩
          · exact .inr ⟨e, by simp, hb, .inr h1⟩
        · exact .inl h1
      · exact .inr ⟨e', by simp [h1], h2⟩
  rcases key _ _ h with h1 | ⟨e, h1, h2⟩
  · simp at h1
  · exact ⟨e, by simpa using h1, h2⟩
theorem masks_spec : ∀ (l : List Oper) (acc : List Nat) (i : Nat), (∀ j, j < acc.length → (masks l acc).getD j 0 = acc.getD j 0) ∧
    (∀ o, l[i]? = some o → ∃ pre : List Nat, pre.length = acc.length + i ∧ (∀ j, j < pre.length → (masks l acc).getD j 0 = pre.getD j 0) ∧ (masks l acc).getD (acc.length + i) 0 = maskOf pre o) := by
  intro l
  induction l with
  | nil => intro acc i; exact ⟨fun j _ => rfl, fun o h => by simp at h⟩
  | cons o l ih =>
    intro acc i
    have h1 : ∀ j, j < (acc ++ [maskOf acc o]).length → (masks (o :: l) acc).getD j 0 = (acc ++ [maskOf acc o]).getD j 0 := fun j hj => (ih (acc ++ [maskOf acc o]) 0).1 j hj
    refine ⟨fun j hj => ?_, fun o' ho => ?_⟩
    · rw [h1 j (by simp; omega)]
      simp only [List.getD_eq_getElem?_getD, List.getElem?_append_left hj]
    · cases i with
      | zero =>
        simp at ho; subst ho
        refine ⟨acc, rfl, fun j hj => ?_, ?_⟩
        · rw [h1 j (by simp; omega)]
          simp only [List.getD_eq_getElem?_getD, List.getElem?_append_left hj]
        · rw [Nat.add_zero, h1 _ (by simp)]
          simp [List.getD_eq_getElem?_getD]
      | succ i =>
        obtain ⟨pre, p1, p2, p3⟩ := (ih (acc ++ [maskOf acc o]) i).2 o' (by simpa using ho)
        refine ⟨pre, by simp at p1; omega, p2, ?_⟩
        have : (acc ++ [maskOf acc o]).length + i = acc.length + (i + 1) := by simp; omega
        rw [this] at p3
        exact p3
/-- Whoever waits for q has somebody right ahead that is q or waits for it. -/
theorem preB_step {ops : Array Oper} {e q : Nat} {o : Oper} (ho : ops[e]? = some o) (h : preB (masks ops.toList []) e q = true) (hlex : ∀ ed ∈ o.after, Region.binds .any ed = true → ed.on < e) :
    ∃ ed ∈ o.after, Region.binds .any ed = true ∧ (ed.on = q ∨ preB (masks ops.toList []) ed.on q = true) := by
  obtain ⟨pre, p1, p2, p3⟩ := (masks_spec ops.toList [] e).2 o (by simpa using ho)
  unfold preB at h ⊢
  simp only [List.length_nil, Nat.zero_add] at p1 p3
  rw [p3] at h
  obtain ⟨ed, h1, h2, h3⟩ := maskOf_bit h
  refine ⟨ed, h1, h2, h3.imp id fun h4 => ?_⟩
  rw [p2 ed.on (by rw [p1]; exact hlex ed h1 h2)]
  exact h4
def waitsB (oj : Oper) (i : Nat) : Bool := oj.after.any fun e => Region.binds .any e && e.on == i
def apartA (ops : Array Oper) (oi oj : Oper) : Bool :=
  (match oi.dst with | some d => !(readsOf ops oj).contains d && !(oj.dst == some d) | none => true) && (match oj.dst with | some d => !(readsOf ops oi).contains d | none => true)
/-- The text's order is one that may be, and whoever does not wait for another is apart from it. -/
def lexA (ops : Array Oper) : Bool :=
  (List.range ops.size).all fun j => match ops[j]? with
    | none => true
    | some oj => (oj.after.all fun e => !Region.binds .any e || decide (e.on < j)) &&
      (List.range j).all fun i => match ops[i]? with
        | none => true
        | some oi => waitsB oj i || apartA ops oi oj
def effs (E : Env) (ops : Array Oper) : List Nat := (List.range ops.size).filter fun i => match ops[i]? with | some o => !quietOp E o | none => false
def quiets (E : Env) (ops : Array Oper) : List Nat := (List.range ops.size).filter fun i => match ops[i]? with | some o => quietOp E o | none => false
def chainA (E : Env) (ops : Array Oper) : Bool :=
  (effs E ops).all fun e => (effs E ops).all fun f => !decide (e < f) || preB (masks ops.toList []) f e
/-- Which quiet operation must be looked at in which memory again. -/
def recs (E : Env) (ops : Array Oper) : List (Nat × Nat) :=
  (quiets E ops).flatMap fun q => (effs E ops).flatMap fun e =>
    if q < e ∧ preB (masks ops.toList []) e q = false then [(q, e + 1)] else if e < q ∧ preB (masks ops.toList []) q e = false then [(q, e)] else []
theorem mem_effs {E : Env} {ops : Array Oper} {i : Nat} : i ∈ effs E ops ↔ ∃ o, ops[i]? = some o ∧ quietOp E o = false := by
  unfold effs
  rw [List.mem_filter, List.mem_range]
  cases ho : ops[i]? with
  | none => simp
  | some o => have := (Array.getElem?_eq_some_iff.1 ho).1; simp [this]
theorem mem_quiets {E : Env} {ops : Array Oper} {i : Nat} : i ∈ quiets E ops ↔ ∃ o, ops[i]? = some o ∧ quietOp E o = true := by
  unfold quiets
  rw [List.mem_filter, List.mem_range]
  cases ho : ops[i]? with
  | none => simp
  | some o => have := (Array.getElem?_eq_some_iff.1 ho).1; simp [this]
theorem mem_recs {E : Env} {ops : Array Oper} {q e : Nat} (hq : q ∈ quiets E ops) (he : e ∈ effs E ops) :
    (q < e → preB (masks ops.toList []) e q = false → (q, e + 1) ∈ recs E ops) ∧ (e < q → preB (masks ops.toList []) q e = false → (q, e) ∈ recs E ops) := by
  unfold recs
  refine ⟨fun h1 h2 => ?_, fun h1 h2 => ?_⟩
  · refine List.mem_flatMap.2 ⟨q, hq, List.mem_flatMap.2 ⟨e, he, ?_⟩⟩
    rw [if_pos ⟨h1, h2⟩]; simp
  · refine List.mem_flatMap.2 ⟨q, hq, List.mem_flatMap.2 ⟨e, he, ?_⟩⟩
    rw [if_neg (by omega), if_pos ⟨h1, h2⟩]; simp
theorem lexA_spec {ops : Array Oper} (h : lexA ops = true) : (∀ j oj, ops[j]? = some oj → ∀ e ∈ oj.after, Region.binds .any e = true → e.on < j) ∧
    (∀ i j oi oj, i < j → ops[i]? = some oi → ops[j]? = some oj → (∃ e ∈ oj.after, Region.binds .any e = true ∧ e.on = i) ∨ apartA ops oi oj = true) := by
  unfold lexA at h
  rw [List.all_eq_true] at h
  have hh := fun j oj (hj : ops[j]? = some oj) => (by
    have h1 := h j (List.mem_range.2 (Array.getElem?_eq_some_iff.1 hj).1)
    rw [hj] at h1
    simp only [Bool.and_eq_true] at h1
    exact h1 : (oj.after.all fun e => !Region.binds .any e || decide (e.on < j)) = true ∧ ((List.range j).all fun i => match ops[i]? with | none => true | some oi => waitsB oj i || apartA ops oi oj) = true)
  refine ⟨fun j oj hj e he hb => ?_, fun i j oi oj hij hi hj => ?_⟩
  · have h1 := (hh j oj hj).1
    rw [Array.all_eq_true_iff_forall_mem] at h1
    have := h1 e he
    simpa [hb] using this
  · have h1 := (hh j oj hj).2
    rw [List.all_eq_true] at h1
    have h2 := h1 i (List.mem_range.2 hij)
    rw [hi] at h2
    simp only [Bool.or_eq_true] at h2
    refine h2.imp (fun h3 => ?_) id
    unfold waitsB at h3
    rw [← Array.any_toList, List.any_eq_true] at h3
    obtain ⟨e, he, h4⟩ := h3
    simp only [Bool.and_eq_true, beq_iff_eq] at h4
    exact ⟨e, by simpa using he, h4.1, h4.2⟩
section
variable {P : Program} {T : Tab} {B0 : Nat} {w0 w : World} {G : Cx}
/-- The trace of the text's order, as functions. -/
structure Trace (E : Env) (T : Tab) (share : Bool) (nt : Nat) (ops : Array Oper) (S : Nat → Sl) (Hh : Nat → Hp) (V : Nat → AV) : Prop where
  step : ∀ i o, ops[i]? = some o → xval E T share ops o (S i) (Hh i) = some (V i, Hh (i + 1)) ∧ S (i + 1) = aput nt o.dst (V i) (S i)
  lex : lexA ops = true
  chain : chainA E ops = true
  stab : ∀ q k o, (q, k) ∈ recs E ops → ops[q]? = some o → xval E T share ops o (S q) (Hh k) = some (V q, Hh k)
/-- Operation i writes slot t. -/
def Wr (nt : Nat) (ops : Array Oper) (i t : Nat) : Prop := ∃ o, ops[i]? = some o ∧ o.dst = some t ∧ t < nt
theorem get_aput (nt : Nat) (d : Option Nat) (v : AV) (s : Sl) (t : Nat) : get (aput nt d v s) t = if d = some t ∧ t < nt then v else get s t := by
  cases d with
  | none => simp [aput]
  | some d =>
    simp only [aput, Option.some.injEq]
    by_cases hd : d < nt
    · rw [if_pos hd]
      simp only [get]
      by_cases ht : t = d
      · subst ht; simp [hd]
      · rw [if_neg ht, if_neg (fun h => ht h.1.symm)]
    · rw [if_neg hd]
      by_cases ht : d = t
      · subst ht; rw [if_neg (fun h => hd h.2)]
      · rw [if_neg (fun h => ht h.1)]
variable {E : Env} {share : Bool} {nt : Nat} {ops : Array Oper} {S : Nat → Sl} {Hh : Nat → Hp} {V : Nat → AV}
theorem Trace.slot (tr : Trace E T share nt ops S Hh V) (t : Nat) : ∀ i, i ≤ ops.size → (∃ p, p < i ∧ Wr nt ops p t ∧ (∀ k, k < i → Wr nt ops k t → k ≤ p) ∧ get (S i) t = V p) ∨ ((∀ k, k < i → ¬ Wr nt ops k t) ∧ get (S i) t = get (S 0) t) := by
  intro i
  induction i with
  | zero => intro _; exact .inr ⟨fun k h => by omega, rfl⟩
  | succ i ih =>
    intro hi
    obtain ⟨o, ho⟩ : ∃ o, ops[i]? = some o := ⟨_, Array.getElem?_eq_getElem (by omega)⟩
    have hs := (tr.step i o ho).2
    rw [hs, get_aput]
    by_cases hw : o.dst = some t ∧ t < nt
    · rw [if_pos hw]
      exact .inl ⟨i, by omega, ⟨o, ho, hw.1, hw.2⟩, fun k hk _ => by omega, rfl⟩
    · rw [if_neg hw]
      have hnw : ¬ Wr nt ops i t := by
        rintro ⟨o', h1, h2, h3⟩
        rw [ho] at h1; cases h1
        exact hw ⟨h2, h3⟩
      rcases ih (by omega) with ⟨p, h1, h2, h3, h4⟩ | ⟨h1, h2⟩
      · refine .inl ⟨p, by omega, h2, fun k hk hwk => ?_, h4⟩
        rcases Nat.lt_or_ge k i with h5 | h5
        · exact h3 k h5 hwk
        · have : k = i := by omega
          subst this; exact absurd hwk hnw
      · refine .inr ⟨fun k hk => ?_, h2⟩
        rcases Nat.lt_or_ge k i with h5 | h5
        · exact h1 k h5
        · have : k = i := by omega
          subst this; exact hnw
/-- The slots once the operations of X have been carried out, in whatever order. -/
def SlotX (nt : Nat) (ops : Array Oper) (S : Nat → Sl) (V : Nat → AV) (X : Nat → Prop) (s : Sl) : Prop :=
  ∀ t, (∃ p, X p ∧ Wr nt ops p t ∧ (∀ k, X k → Wr nt ops k t → k ≤ p) ∧ get s t = V p) ∨ ((∀ k, X k → ¬ Wr nt ops k t) ∧ get s t = get (S 0) t)
/-- The memory: as it was ahead of the first operation of those not carried out that write. -/
def MemX (E : Env) (ops : Array Oper) (Hh : Nat → Hp) (X : Nat → Prop) (H : Hp) : Prop :=
  ∃ m, m ≤ ops.size ∧ H = Hh m ∧ (∀ e, e ∈ effs E ops → (X e ↔ e < m))
def Closed (ops : Array Oper) (X : Nat → Prop) : Prop := ∀ i o, X i → ops[i]? = some o → ∀ e ∈ o.after, Region.binds .any e = true → X e.on
theorem Closed.pre (tr : Trace E T share nt ops S Hh V) {X : Nat → Prop} (hX : Closed ops X) : ∀ e q, X e → e < ops.size → preB (masks ops.toList []) e q = true → X q := by
  intro e
  induction e using Nat.strongRecOn with
  | _ e ih =>
    intro q he hlt hp
    obtain ⟨o, ho⟩ : ∃ o, ops[e]? = some o := ⟨_, Array.getElem?_eq_getElem hlt⟩
    have hlx := (lexA_spec tr.lex).1 e o ho
    obtain ⟨ed, h1, h2, h3⟩ := preB_step ho hp hlx
    have hXd := hX e o he ho ed h1 h2
    have hle := hlx ed h1 h2
    rcases h3 with h3 | h3
    · rw [← h3]; exact hXd
    · exact ih ed.on hle q hXd (by omega) h3
/-- The memory does not turn between operations that leave it alone. -/
theorem Trace.mem_const (tr : Trace E T share nt ops S Hh V) : ∀ (d i : Nat), i + d ≤ ops.size → (∀ e, e ∈ effs E ops → ¬ (i ≤ e ∧ e < i + d)) → Hh (i + d) = Hh i := by
  intro d
  induction d with
  | zero => intro i _ _; rfl
  | succ d ih =>
    intro i hi hn
    have h1 := ih i (by omega) (fun e he hh => hn e he ⟨hh.1, by omega⟩)
    obtain ⟨o, ho⟩ : ∃ o, ops[i + d]? = some o := ⟨_, Array.getElem?_eq_getElem (by omega)⟩
    have hq : quietOp E o = true := by
      cases hq : quietOp E o with
      | true => rfl
      | false => exact absurd ⟨by omega, by omega⟩ (hn (i + d) (mem_effs.2 ⟨o, ho, hq⟩))
    have := quietOp_same hq (tr.step (i + d) o ho).1
    rw [← h1, ← this]
    rfl
/-- An operation that may come now does what it does in the text's order. -/
theorem Trace.now (tr : Trace E T share nt ops S Hh V) {X : Nat → Prop} {s : Sl} {H : Hp} {i : Nat} {o : Oper} (ho : ops[i]? = some o) (hX : Closed ops X) (hlt : ∀ k, X k → k < ops.size) (hni : ¬ X i)
    (hready : ∀ e ∈ o.after, Region.binds .any e = true → X e.on) (hs : SlotX nt ops S V X s) (hm : MemX E ops Hh X H) :
    ∃ H', xval E T share ops o s H = some (V i, H') ∧ SlotX nt ops S V (fun k => X k ∨ k = i) (aput nt o.dst (V i) s) ∧ MemX E ops Hh (fun k => X k ∨ k = i) H' := by
  have hil := (Array.getElem?_eq_some_iff.1 ho).1
  obtain ⟨hlx1, hlx2⟩ := lexA_spec tr.lex
  -- who writes what i reads
  have hwr : ∀ t, t ∈ readsOf ops o → ∀ k, Wr nt ops k t → k ≠ i → (k < i → X k) ∧ (i < k → ¬ X k) := by
    rintro t ht k ⟨ok, hk, hd, _⟩ hne
    refine ⟨fun hki => ?_, fun hik hXk => ?_⟩
    · rcases hlx2 k i ok o hki hk ho with ⟨e, he, hb, hon⟩ | hap
      · rw [← hon]; exact hready e he hb
      · simp only [apartA, hd, Bool.and_eq_true, Bool.not_eq_true', List.contains_eq_mem, decide_eq_false_iff_not] at hap
        exact absurd ht hap.1.1
    · rcases hlx2 i k o ok hik ho hk with ⟨e, he, hb, hon⟩ | hap
      · have := hX k ok hXk hk e he hb
        rw [hon] at this; exact hni this
      · simp only [apartA, hd, Bool.and_eq_true, Bool.not_eq_true', List.contains_eq_mem, decide_eq_false_iff_not] at hap
        exact absurd ht hap.2
  have hself : ∀ t, t ∈ readsOf ops o → get s t = get (S i) t := by
    intro t ht
    rcases tr.slot t i (by omega) with ⟨p, p1, p2, p3, p4⟩ | ⟨p1, p2⟩
    · rcases hs t with ⟨p', q1, q2, q3, q4⟩ | ⟨q1, q2⟩
      · have hpX := (hwr t ht p p2 (by omega)).1 p1
        have h1 := q3 p hpX p2
        have hne : p' ≠ i := fun e => hni (e ▸ q1)
        have h2 : p' < i := by
          rcases Nat.lt_or_ge p' i with h | h
          · exact h
          · exact absurd q1 ((hwr t ht p' q2 hne).2 (by omega))
        have h3 := p3 p' h2 q2
        have : p' = p := by omega
        rw [q4, p4, this]
      · exact absurd p2 (q1 p ((hwr t ht p p2 (by omega)).1 p1))
    · rcases hs t with ⟨p', q1, q2, q3, q4⟩ | ⟨q1, q2⟩
      · have hne : p' ≠ i := fun e => hni (e ▸ q1)
        rcases Nat.lt_or_ge p' i with h | h
        · exact absurd q2 (p1 p' h)
        · exact absurd q1 ((hwr t ht p' q2 hne).2 (by omega))
      · rw [p2, q2]
  have hcongr : ∀ Hx, xval E T share ops o s Hx = xval E T share ops o (S i) Hx := by
    intro Hx
    have h1 : ∀ x ∈ o.op.operands.toList, ev s x = ev (S i) x := ev_congr fun t ht => hself t (by unfold readsOf; exact List.mem_append_left _ ht)
    have h2 : wantedA ops o s = wantedA ops o (S i) := by
      unfold wantedA
      cases hg : o.guard with
      | none => rfl
      | some p =>
        obtain ⟨j, want⟩ := p
        simp only
        cases hd : (ops[j]?).bind (·.dst) with
        | none => rfl
        | some d =>
          have := hself d (by unfold readsOf; rw [hg]; simp [hd])
          simp only [this]
    unfold xval
    rw [h2]
    split
    · rfl
    · rfl
    · rw [xdo_congr h1]
  -- the slots behind it
  have hslot : SlotX nt ops S V (fun k => X k ∨ k = i) (aput nt o.dst (V i) s) := by
    intro t
    rw [get_aput]
    by_cases hw : o.dst = some t ∧ t < nt
    · rw [if_pos hw]
      refine .inl ⟨i, .inr rfl, ⟨o, ho, hw.1, hw.2⟩, fun k hk hwk => ?_, rfl⟩
      rcases hk with hk | hk
      · rcases Nat.lt_or_ge i k with hik | hik
        · obtain ⟨ok, hok, hd, _⟩ := hwk
          rcases hlx2 i k o ok hik ho hok with ⟨e, he, hb, hon⟩ | hap
          · have := hX k ok hk hok e he hb
            rw [hon] at this; exact absurd this hni
          · simp only [apartA, hw.1, hd, Bool.and_eq_true, Bool.not_eq_true', beq_self_eq_true] at hap
            exact absurd hap.1.2 (by simp)
        · exact hik
      · omega
    · rw [if_neg hw]
      have hnw : ¬ Wr nt ops i t := by
        rintro ⟨o', h1, h2, h3⟩
        rw [ho] at h1; cases h1
        exact hw ⟨h2, h3⟩
      rcases hs t with ⟨p, q1, q2, q3, q4⟩ | ⟨q1, q2⟩
      · refine .inl ⟨p, .inl q1, q2, fun k hk hwk => ?_, q4⟩
        rcases hk with hk | hk
        · exact q3 k hk hwk
        · subst hk; exact absurd hwk hnw
      · refine .inr ⟨fun k hk hwk => ?_, q2⟩
        rcases hk with hk | hk
        · exact q1 k hk hwk
        · subst hk; exact hnw hwk
  obtain ⟨m, hmle, rfl, hmX⟩ := hm
  have hstep := (tr.step i o ho).1
  cases hq : quietOp E o with
  | true =>
    have hiq : i ∈ quiets E ops := mem_quiets.2 ⟨o, ho, hq⟩
    have hine : i ∉ effs E ops := fun h => by
      obtain ⟨o', h1, h2⟩ := mem_effs.1 h
      rw [ho] at h1; cases h1
      rw [hq] at h2; cases h2
    have hval : xval E T share ops o s (Hh m) = some (V i, Hh m) := by
      rw [hcongr]
      have hsame := quietOp_same hq hstep
      rw [hsame] at hstep
      rcases Nat.lt_trichotomy m i with hmi | hmi | hmi
      · -- some operation that writes and stands ahead of i may not have come yet
        by_cases hex : ∃ e, e ∈ effs E ops ∧ m ≤ e ∧ e < i
        · -- the least such
          obtain ⟨e, he1, he2, he3, hmin⟩ : ∃ e, e ∈ effs E ops ∧ m ≤ e ∧ e < i ∧ ∀ f, f ∈ effs E ops → m ≤ f → e ≤ f := by
            obtain ⟨e0, h1, h2, h3⟩ := hex
            have : ∀ n e0, e0 ≤ n → e0 ∈ effs E ops → m ≤ e0 → e0 < i → ∃ e, e ∈ effs E ops ∧ m ≤ e ∧ e < i ∧ ∀ f, f ∈ effs E ops → m ≤ f → e ≤ f := by
              intro n
              induction n with
              | zero => intro e0 hn h1 h2 h3; exact ⟨e0, h1, h2, h3, fun f _ _ => by omega⟩
              | succ n ih =>
                intro e0 hn h1 h2 h3
                by_cases hsm : ∃ f, f ∈ effs E ops ∧ m ≤ f ∧ f < e0
                · obtain ⟨f, f1, f2, f3⟩ := hsm
                  exact ih f (by omega) f1 f2 (by omega)
                · exact ⟨e0, h1, h2, h3, fun f f1 f2 => Nat.le_of_not_lt fun h => hsm ⟨f, f1, f2, h⟩⟩
            exact this e0 e0 (Nat.le_refl _) h1 h2 h3
          have hnX : ¬ X e := fun h => by have := (hmX e he1).1 h; omega
          have hnp : preB (masks ops.toList []) i e = false := by
            cases hp : preB (masks ops.toList []) i e with
            | false => rfl
            | true =>
              exfalso
              obtain ⟨ed, a1, a2, a3⟩ := preB_step ho hp (hlx1 i o ho)
              have hXd := hready ed a1 a2
              rcases a3 with a3 | a3
              · rw [a3] at hXd; exact hnX hXd
              · exact hnX (hX.pre tr ed.on e hXd (hlt _ hXd) a3)
          have hst := tr.stab i e o ((mem_recs hiq he1).2 he3 hnp) ho
          have hconst := tr.mem_const (e - m) m (by have := (Array.getElem?_eq_some_iff.1 ho).1; omega) (fun f hf hh => by have := hmin f hf hh.1; omega)
          rw [show m + (e - m) = e by omega] at hconst
          rwa [hconst] at hst
        · have hconst := tr.mem_const (i - m) m (by omega) (fun f hf hh => hex ⟨f, hf, hh.1, by omega⟩)
          rw [show m + (i - m) = i by omega] at hconst
          rwa [hconst] at hstep
      · subst hmi; exact hstep
      · -- some that writes and stands behind i may have come already
        by_cases hex : ∃ e, e ∈ effs E ops ∧ i < e ∧ e < m
        · obtain ⟨e, he1, he2, he3, hmax⟩ : ∃ e, e ∈ effs E ops ∧ i < e ∧ e < m ∧ ∀ f, f ∈ effs E ops → f < m → f ≤ e := by
            obtain ⟨e0, h1, h2, h3⟩ := hex
            have : ∀ n e0, m - e0 ≤ n → e0 ∈ effs E ops → i < e0 → e0 < m → ∃ e, e ∈ effs E ops ∧ i < e ∧ e < m ∧ ∀ f, f ∈ effs E ops → f < m → f ≤ e := by
              intro n
              induction n with
              | zero => intro e0 hn h1 h2 h3; omega
              | succ n ih =>
                intro e0 hn h1 h2 h3
                by_cases hsm : ∃ f, f ∈ effs E ops ∧ f < m ∧ e0 < f
                · obtain ⟨f, f1, f2, f3⟩ := hsm
                  exact ih f (by omega) f1 (by omega) f2
                · exact ⟨e0, h1, h2, h3, fun f f1 f2 => Nat.le_of_not_lt fun h => hsm ⟨f, f1, f2, h⟩⟩
            exact this (m - e0) e0 (Nat.le_refl _) h1 h2 h3
          have hXe : X e := (hmX e he1).2 he3
          have hnp : preB (masks ops.toList []) e i = false := by
            cases hp : preB (masks ops.toList []) e i with
            | false => rfl
            | true => exact absurd (hX.pre tr e i hXe (hlt e hXe) hp) hni
          have hst := tr.stab i (e + 1) o ((mem_recs hiq he1).1 he2 hnp) ho
          have hconst := tr.mem_const (m - (e + 1)) (e + 1) (by omega) (fun f hf hh => by have := hmax f hf (by omega); omega)
          rw [show e + 1 + (m - (e + 1)) = m by omega] at hconst
          rwa [← hconst] at hst
        · have hconst := tr.mem_const (m - i) i (by omega) (fun f hf hh => by
            by_cases hfi : f = i
            · subst hfi; exact hine hf
            · exact hex ⟨f, hf, by omega, by omega⟩)
          rw [show i + (m - i) = m by omega] at hconst
          rwa [← hconst] at hstep
    refine ⟨Hh m, hval, hslot, m, hmle, rfl, fun e he => ?_⟩
    have hei : e ≠ i := fun h => hine (h ▸ he)
    rw [← hmX e he]
    exact ⟨fun h => h.resolve_right hei, .inl⟩
  | false =>
    have hie : i ∈ effs E ops := mem_effs.2 ⟨o, ho, hq⟩
    have hch := tr.chain
    unfold chainA at hch
    rw [List.all_eq_true] at hch
    have hpair : ∀ e f, e ∈ effs E ops → f ∈ effs E ops → e < f → preB (masks ops.toList []) f e = true := by
      intro e f he hf hef
      have := hch e he
      rw [List.all_eq_true] at this
      have := this f hf
      simpa [hef] using this
    have hbefore : ∀ e, e ∈ effs E ops → e < i → X e := by
      intro e he hei
      obtain ⟨ed, a1, a2, a3⟩ := preB_step ho (hpair e i he hie hei) (hlx1 i o ho)
      have hXd := hready ed a1 a2
      rcases a3 with a3 | a3
      · rw [← a3]; exact hXd
      · exact hX.pre tr ed.on e hXd (hlt _ hXd) a3
    have hafter : ∀ e, e ∈ effs E ops → i < e → ¬ X e := fun e he hie' hXe => hni (hX.pre tr e i hXe (hlt e hXe) (hpair i e hie he hie'))
    have hmem : Hh m = Hh i := by
      rcases Nat.lt_or_ge m i with hmi | hmi
      · have hconst := tr.mem_const (i - m) m (by omega) (fun f hf hh => by
          have := (hmX f hf).1 (hbefore f hf (by omega)); omega)
        rw [show m + (i - m) = i by omega] at hconst
        exact hconst.symm
      · rcases Nat.eq_or_lt_of_le hmi with h | h
        · rw [h]
        · exact absurd ((hmX i hie).2 h) hni
    refine ⟨Hh (i + 1), by rw [hcongr, hmem]; exact hstep, hslot, i + 1, by omega, rfl, fun e he => ?_⟩
    constructor
    · rintro (h | h)
      · rcases Nat.lt_or_ge i e with h1 | h1
        · exact absurd h (hafter e he h1)
        · omega
      · omega
    · intro h
      by_cases hei : e = i
      · exact .inr hei
      · exact .inl (hbefore e he (by omega))
end
/- Regions that draw their order; code; functions. -/
section
variable {P : Program} {T : Tab} {B0 : Nat} {w0 : World}
variable {E : Env} {share : Bool} {nt : Nat} {ops : Array Oper} {S : Nat → Sl} {Hh : Nat → Hp} {V : Nat → AV}
def Lst (ops : Array Oper) (listed : Array Bool) : Nat → Prop := fun i => i < ops.size ∧ listed.getD i false = true
theorem getD_set' (listed : Array Bool) (i k : Nat) (d : Bool) (h : i < listed.size) : (listed.setIfInBounds i true).getD k d = if k = i then true else listed.getD k d := by
  simp only [Array.getD_eq_getD_getElem?, Array.getElem?_setIfInBounds]
  by_cases hk : i = k
  · subst hk; simp [h]
  · rw [if_neg hk, if_neg (fun e => hk e.symm)]
theorem draws_any (hT : TOK P T) (hE : EOK P E) (tr : Trace E T share nt ops S Hh V) {Q : Exit → Act → World → Prop} : ∀ (fuel : Nat) (listed : Array Bool) (a : Act) (w : World) (G : Cx) (s : Sl) (H : Hp), listed.size = ops.size →
    Closed ops (Lst ops listed) → SlotX nt ops S V (Lst ops listed) s → MemX E ops Hh (Lst ops listed) H → St B0 w0 G H w → RF' nt G s a → ((List.range ops.size).filter fun i => !listed.getD i false).length ≤ fuel →
    (∀ a' w' G', Le G G' → St B0 w0 G' (Hh ops.size) w' → RF' nt G' (S ops.size) a' → a'.defers = a.defers → Q .normal a' w') → wpAny P .any ops Q fuel listed a w := by
  have hdone : ∀ (listed : Array Bool) (a : Act) (w : World) (G : Cx) (s : Sl) (H : Hp), SlotX nt ops S V (Lst ops listed) s → MemX E ops Hh (Lst ops listed) H → St B0 w0 G H w → RF' nt G s a →
      (∀ i, i < ops.size → listed.getD i false = true) → (∀ a' w' G', Le G G' → St B0 w0 G' (Hh ops.size) w' → RF' nt G' (S ops.size) a' → a'.defers = a.defers → Q .normal a' w') → Q .normal a w := by
    intro listed a w G s H hs hm hst hrf hall hk
    have hH : H = Hh ops.size := by
      obtain ⟨m, h1, rfl, h3⟩ := hm
      have := tr.mem_const (ops.size - m) m (by omega) (fun e he hh => by
        have := (h3 e he).1 ⟨by omega, hall e (by omega)⟩; omega)
      rw [show m + (ops.size - m) = ops.size by omega] at this
      exact this.symm
    have hS : ∀ t, get s t = get (S ops.size) t := by
      intro t
      rcases hs t with ⟨p, p1, p2, p3, p4⟩ | ⟨p1, p2⟩ <;> rcases tr.slot t ops.size (Nat.le_refl _) with ⟨q, q1, q2, q3, q4⟩ | ⟨q1, q2⟩
      · have h1 := p3 q ⟨q1, hall q q1⟩ q2
        have h2 := q3 p p1.1 p2
        rw [p4, q4, show p = q by omega]
      · exact absurd p2 (q1 p p1.1)
      · exact absurd q2 (p1 q ⟨q1, hall q q1⟩)
      · rw [p2, q2]
    subst hH
    exact hk a w G (Le.refl G) hst ⟨fun t => by rw [← hS t]; exact hrf.1 t, hrf.2⟩ rfl
  have hready0 : ∀ listed : Array Bool, listed.size = ops.size → Region.ready .any ops listed = [] → ∀ i, i < ops.size → listed.getD i false = true := by
    intro listed hsz h0 i
    induction i using Nat.strongRecOn with
    | _ i ih =>
      intro hi
      cases hl : listed.getD i false with
      | true => rfl
      | false =>
        exfalso
        obtain ⟨o, ho⟩ : ∃ o, ops[i]? = some o := ⟨_, Array.getElem?_eq_getElem hi⟩
        have : i ∈ Region.ready .any ops listed := by
          refine mem_ready.2 ⟨?_, o, ho, fun e he hb => ?_⟩
          · simp only [Array.getD_eq_getD_getElem?] at hl ⊢
            rw [Array.getElem?_eq_getElem (by omega)] at hl ⊢
            exact hl
          · have := (lexA_spec tr.lex).1 i o ho e he hb
            exact ih e.on this (by omega)
        rw [h0] at this
        cases this
  intro fuel
  induction fuel with
  | zero =>
    intro listed a w G s H hsz hcl hs hm hst hrf hcount hk
    have hall : ∀ i, i < ops.size → listed.getD i false = true := by
      intro i hi
      have h0 : (List.range ops.size).filter (fun i => !listed.getD i false) = [] := List.eq_nil_of_length_eq_zero (by omega)
      rw [List.filter_eq_nil_iff] at h0
      have := h0 i (List.mem_range.2 hi)
      simpa using this
    refine ⟨?_, hdone listed a w G s H hs hm hst hrf hall hk⟩
    apply List.eq_nil_iff_forall_not_mem.2
    intro i hi
    obtain ⟨h1, o, ho, _⟩ := mem_ready.1 hi
    have hil := (Array.getElem?_eq_some_iff.1 ho).1
    have := hall i hil
    simp only [Array.getD_eq_getD_getElem?] at h1 this
    rw [Array.getElem?_eq_getElem (by omega)] at h1 this
    simp at h1 this
    rw [this] at h1; cases h1
  | succ fuel ih =>
    intro listed a w G s H hsz hcl hs hm hst hrf hcount hk
    refine ⟨fun h0 => hdone listed a w G s H hs hm hst hrf (hready0 listed hsz h0) hk, fun i hi => ?_⟩
    obtain ⟨h1, o, ho, hpre⟩ := mem_ready.1 hi
    have hil := (Array.getElem?_eq_some_iff.1 ho).1
    have hli : listed.getD i false = false := by
      simp only [Array.getD_eq_getD_getElem?] at h1 ⊢
      rw [Array.getElem?_eq_getElem (by omega)] at h1 ⊢
      exact h1
    have hni : ¬ Lst ops listed i := fun h => by rw [h.2] at hli; cases hli
    have hready : ∀ e ∈ o.after, Region.binds .any e = true → Lst ops listed e.on := by
      intro e he hb
      refine ⟨?_, hpre e he hb⟩
      have := (lexA_spec tr.lex).1 i o ho e he hb
      omega
    obtain ⟨H', hv, hs', hm'⟩ := tr.now ho hcl (fun k hk => hk.1) hni hready hs hm
    have hX : ∀ k, Lst ops (listed.setIfInBounds i true) k ↔ (Lst ops listed k ∨ k = i) := by
      intro k
      unfold Lst
      rw [getD_set' listed i k false (by omega)]
      by_cases hk : k = i
      · subst hk; simp [hil]
      · simp [hk]
    have hXe : (fun k => Lst ops listed k ∨ k = i) = Lst ops (listed.setIfInBounds i true) := by
      funext k; exact propext (hX k).symm
    rw [hXe] at hs' hm'
    unfold wpOp
    rw [ho]
    simp only
    refine xop_ok hT hE (s' := aput nt o.dst (V i) s) (H' := H') hst hrf (by rw [xop_val, hv]; rfl) fun a' w' G' g1 g2 g3 g4 => ?_
    refine ih (listed.setIfInBounds i true) a' w' G' _ H' (by simp [hsz]) ?_ hs' hm' g2 g3 ?_ fun a2 w2 G2 e1 e2 e3 e4 => hk a2 w2 G2 (g1.trans e1) e2 e3 (e4.trans g4)
    · intro k ok hk hok e he hb
      rw [hX] at hk ⊢
      rcases hk with hk | hk
      · exact .inl (hcl k ok hk hok e he hb)
      · subst hk
        rw [ho] at hok; cases hok
        exact .inl (hready e he hb)
    · have hlt : ((List.range ops.size).filter fun k => !(listed.setIfInBounds i true).getD k false).length < ((List.range ops.size).filter fun k => !listed.getD k false).length := by
        have hsub : ∀ l : List Nat, (l.filter fun k => !(listed.setIfInBounds i true).getD k false) = (l.filter fun k => !listed.getD k false).filter fun k => k != i := by
          intro l
          rw [List.filter_filter]
          congr 1
          funext k
          rw [getD_set' listed i k false (by omega)]
          by_cases hk : k = i <;> simp [hk]
        rw [hsub]
        refine List.length_filter_lt_length_iff_exists.2 ⟨i, List.mem_filter.2 ⟨List.mem_range.2 hil, by simp [hli]⟩, by simp⟩
      omega
/-- The trace's list. -/
theorem xtr_spec : ∀ (l : List Oper) (s : Sl) (H : Hp) (tr : List (Sl × Hp)), xtr E T share nt ops l s H = some tr →
    tr.length = l.length + 1 ∧ (tr[0]?) = some (s, H) ∧ ∀ i o, l[i]? = some o → ∃ s1 H1 v H2, tr[i]? = some (s1, H1) ∧ xval E T share ops o s1 H1 = some (v, H2) ∧ tr[i + 1]? = some (aput nt o.dst v s1, H2) := by
  intro l
  induction l with
  | nil =>
    intro s H tr h
    simp [xtr] at h; subst h
    exact ⟨rfl, rfl, fun i o h => by simp at h⟩
  | cons o l ih =>
    intro s H tr h
    simp only [xtr] at h
    split at h
    · rename_i s' H' h1
      obtain ⟨tr', h2, rfl⟩ := Option.map_eq_some_iff.1 h
      obtain ⟨i1, i2, i3⟩ := ih s' H' tr' h2
      rw [xop_val] at h1
      obtain ⟨r, hr, he⟩ := Option.map_eq_some_iff.1 h1
      cases he
      refine ⟨by simp [i1], rfl, fun i o' ho => ?_⟩
      cases i with
      | zero =>
        simp at ho; subst ho
        exact ⟨s, H, r.1, r.2, rfl, hr, by simpa using i2⟩
      | succ i => simpa using i3 i o' (by simpa using ho)
    · cases h
/-- What has to be seen again. -/
def Restab (E : Env) (T : Tab) (share : Bool) (ops : Array Oper) (tr : List (Sl × Hp)) : List (Nat × Nat) → Prop
  | [] => True
  | (q, k) :: l =>
    (match ops[q]?, tr[q]?, tr[k]? with
      | some o, some (sq, Hq), some (_, Hk) => (xval E T share ops o sq Hk).map (·.1) = (xval E T share ops o sq Hq).map (·.1)
      | _, _, _ => False) ∧ Restab E T share ops tr l
theorem Restab.mem {tr : List (Sl × Hp)} : ∀ {l : List (Nat × Nat)}, Restab E T share ops tr l → ∀ q k, (q, k) ∈ l →
    ∃ o sq Hq sk Hk, ops[q]? = some o ∧ tr[q]? = some (sq, Hq) ∧ tr[k]? = some (sk, Hk) ∧ (xval E T share ops o sq Hk).map (·.1) = (xval E T share ops o sq Hq).map (·.1) := by
  intro l
  induction l with
  | nil => intro _ q k h; cases h
  | cons p l ih =>
    intro h q k hm
    obtain ⟨q', k'⟩ := p
    simp only [Restab] at h
    rcases List.mem_cons.1 hm with e | hm
    · cases e
      have h1 := h.1
      split at h1
      · rename_i o sq Hq sk Hk a1 a2 a3
        exact ⟨o, sq, Hq, sk, Hk, a1, a2, a3, h1⟩
      · exact h1.elim
    · exact ih h.2 q k hm
theorem draw_ok (hT : TOK P T) (hE : EOK P E) (hmix : P.follows .mixedOrders = true) {id : Nat} {s : Sl} {H : Hp} {a : Act} {w : World} {G : Cx} {Q : Exit → Act → World → Prop} {tr : List (Sl × Hp)}
    (htr : xtr E T share nt ops ops.toList s H = some tr) (hlex : lexA ops = true) (hchain : chainA E ops = true) (hstab : Restab E T share ops tr (recs E ops)) (hst : St B0 w0 G H w) (hrf : RF' nt G s a)
    {s' : Sl} {H' : Hp} (hfin : tr[ops.size]? = some (s', H')) (hk : ∀ a' w' G', Le G G' → St B0 w0 G' H' w' → RF' nt G' s' a' → a'.defers = a.defers → Q .normal a' w') : (Code.region id ops true).wp P Q a w := by
  obtain ⟨h1, h2, h3⟩ := xtr_spec ops.toList s H tr htr
  let S : Nat → Sl := fun i => ((tr[i]?).getD default).1
  let Hh : Nat → Hp := fun i => ((tr[i]?).getD default).2
  let V : Nat → AV := fun i => match ops[i]? with
    | some o => ((xval E T share ops o (S i) (Hh i)).getD default).1
    | none => .bad
  have hstep : ∀ i o, ops[i]? = some o → xval E T share ops o (S i) (Hh i) = some (V i, Hh (i + 1)) ∧ S (i + 1) = aput nt o.dst (V i) (S i) := by
    intro i o ho
    obtain ⟨s1, H1, v, H2, a1, a2, a3⟩ := h3 i o (by simpa using ho)
    have hS : S i = s1 := by simp only [S, a1, Option.getD_some]
    have hH : Hh i = H1 := by simp only [Hh, a1, Option.getD_some]
    have hS' : S (i + 1) = aput nt o.dst v s1 := by simp only [S, a3, Option.getD_some]
    have hH' : Hh (i + 1) = H2 := by simp only [Hh, a3, Option.getD_some]
    have hV : V i = v := by simp only [V, ho, hS, hH, a2, Option.getD_some]
    rw [hS, hH, hS', hH', hV]
    exact ⟨a2, rfl⟩
  have trc : Trace E T share nt ops S Hh V := by
    refine ⟨hstep, hlex, hchain, fun q k o hm ho => ?_⟩
    obtain ⟨o', sq, Hq, sk, Hk, a1, a2, a3, a4⟩ := hstab.mem q k hm
    rw [ho] at a1; cases a1
    have hS : S q = sq := by simp only [S, a2, Option.getD_some]
    have hHq : Hh q = Hq := by simp only [Hh, a2, Option.getD_some]
    have hHk : Hh k = Hk := by simp only [Hh, a3, Option.getD_some]
    have hv := (hstep q o ho).1
    rw [hS, hHq] at hv
    rw [hv] at a4
    simp only [Option.map_some] at a4
    obtain ⟨r, hr1, hr2⟩ := Option.map_eq_some_iff.1 a4
    have hq : quietOp E o = true := by
      unfold recs at hm
      obtain ⟨q', hq', hm2⟩ := List.mem_flatMap.1 hm
      obtain ⟨e, he, hm3⟩ := List.mem_flatMap.1 hm2
      have : q' = q := by
        split at hm3
        · simp at hm3; exact hm3.1.symm
        · split at hm3
          · simp at hm3; exact hm3.1.symm
          · simp at hm3
      subst this
      obtain ⟨o', h1, h2⟩ := mem_quiets.1 hq'
      rw [ho] at h1; cases h1
      exact h2
    obtain ⟨r1, r2⟩ := r
    simp only at hr2
    have := quietOp_same hq hr1
    rw [hS, hHk, hr1, this, hr2]
  have hS0 : S 0 = s := by simp only [S, h2, Option.getD_some]
  have hH0 : Hh 0 = H := by simp only [Hh, h2, Option.getD_some]
  have hSn : S ops.size = s' := by simp only [S, hfin, Option.getD_some]
  have hHn : Hh ops.size = H' := by simp only [Hh, hfin, Option.getD_some]
  refine wp_region_any hmix ?_
  have hno : ∀ i, (Array.replicate ops.size false).getD i false = false := by
    intro i
    simp only [Array.getD_eq_getD_getElem?, Array.getElem?_replicate]
    split <;> rfl
  refine draws_any hT hE trc ops.size _ a w.drew G s H (by simp) ?_ ?_ ?_ hst.drew hrf (Nat.le_trans (List.length_filter_le _ _) (by simp)) ?_
  · rintro i o ⟨_, hi⟩
    rw [hno] at hi; cases hi
  · intro t
    refine .inr ⟨?_, by rw [hS0]⟩
    rintro k ⟨_, hk⟩
    rw [hno] at hk; cases hk
  · refine ⟨0, by omega, hH0.symm, fun e he => ⟨?_, fun h => by omega⟩⟩
    rintro ⟨_, hk⟩
    rw [hno] at hk; cases hk
  · intro a' w' G' g1 g2 g3 g4
    rw [hHn] at g2
    rw [hSn] at g3
    exact hk a' w' G' g1 g2 g3 g4
end
/- Code and functions. -/
/-- What is told beside a function's code: where an append lives beside what it was made of; what has to be seen again in regions that draw their order; of each loop which slots live on, and whether what a round makes is let go. -/
structure Ann where
  share : Nat → Bool := fun _ => false
  recs : Nat → List (Nat × Nat) := fun _ => []
  live : Nat → List Nat := fun _ => []
  drop : Nat → Bool := fun _ => true
def firstReg : Code → Nat
  | .region id _ _ => id
  | .seq a _ => firstReg a
  | .block _ b => firstReg b
  | .loop b => firstReg b
  | .cond _ x _ => firstReg x
  | _ => 0
def okCode (E : Env) (A : Ann) : Code → Bool
  | .region id ops draw => !draw || (lexA ops && chainA E ops && (recs E ops == A.recs id))
  | .seq a b => okCode E A a && okCode E A b
  | .cond _ a b => okCode E A a && okCode E A b
  | .block _ b => okCode E A b
  | .loop b => okCode E A b
  | _ => true
inductive Ex where
  | norm | exit (id : Nat) | ret
def Ex.exit' : Ex → Exit
  | .norm => .normal
  | .exit id => .exit id
  | .ret => .ret
def cutSl (lv : List Nat) (s : Sl) : Sl := lv.map fun j => (j, get s j)
def Hp.take (H : Hp) (n : Nat) : Hp := ⟨H.bs.take n, H.c⟩
def xloop (f : Sl → Hp → Option (Ex × Sl × Hp)) (lv : List Nat) (drop : Bool) (n : Nat) : Nat → Sl → Hp → Option (Ex × Sl × Hp)
  | 0, _, _ => none
  | k + 1, s, H =>
    match f (cutSl lv s) (if drop = true then H.take n else H) with
    | some (.norm, s', H') => xloop f lv drop n k s' H'
    | r => r
open Classical in
noncomputable def xdraw (E : Env) (T : Tab) (share : Bool) (nt : Nat) (ops : Array Oper) (rs : List (Nat × Nat)) (s : Sl) (H : Hp) : Option (Sl × Hp) :=
  match xtr E T share nt ops ops.toList s H with
  | some tr => if Restab E T share ops tr rs then tr[ops.size]? else none
  | none => none
noncomputable def xcode (E : Env) (T : Tab) (A : Ann) (nt k : Nat) : Code → Sl → Hp → Option (Ex × Sl × Hp)
  | .skip, s, H => some (.norm, s, H)
  | .label _, s, H => some (.norm, s, H)
  | .region id ops draw, s, H =>
    (if draw = true then xdraw E T (A.share id) nt ops (A.recs id) s H else xlist E T (A.share id) nt ops ops.toList s H).map fun r => (.norm, r.1, r.2)
  | .seq a b, s, H =>
    match xcode E T A nt k a s H with
    | some (.norm, s', H') => xcode E T A nt k b s' H'
    | r => r
  | .cond c x y, s, H =>
    match ev s c with
    | .bool true => xcode E T A nt k x s H
    | .bool false => xcode E T A nt k y s H
    | _ => none
  | .block id b, s, H =>
    match xcode E T A nt k b s H with
    | some (.exit j, s', H') => some (if j = id then .norm else .exit j, s', H')
    | r => r
  | .loop b, s, H => xloop (xcode E T A nt k b) (A.live (firstReg b)) (A.drop (firstReg b)) H.bs.length k s H
  | .exit id, s, H => some (.exit id, s, H)
  | .ret, s, H => some (.ret, s, H)
  | _, _, _ => none
section
variable {P : Program} {T : Tab} {B0 : Nat} {w0 : World} {E : Env}
theorem St.back {G G' : Cx} {H H' : Hp} {w : World} (h : St B0 w0 G' H' w) (hc : H.c ≤ H'.c) (hbs : ∀ (b : Nat) (k : Blk), H.bs[b]? = some k → H'.bs[b]? = some k ∧ k.ver < H.c) (hG : G.c = H.c) (hmu : G.mu = G'.mu) (hsz : G.sz = G'.sz)
    (hr : ∀ (b : Nat) (k : Blk), H.bs[b]? = some k → ∀ vs, RVs G' k.cells vs → RVs G k.cells vs) : St B0 w0 G H w := by
  refine ⟨h.below, h.base, hG, ?_, ?_, fun b k hk => h.ones b k (hbs b k hk).1, ?_⟩
  · intro b k hk
    obtain ⟨h1, h2⟩ := hbs b k hk
    obtain ⟨_, B, o, h3, ⟨cs, e, fr, h4, h5, h6, h7⟩, h8⟩ := h.blk b k h1
    exact ⟨h2, B, o, by rw [hmu]; exact h3, ⟨cs, e, fr, h4, h5, hr b k hk _ h6, h7⟩, h8⟩
  · intro b k b' k' B o B' o' hne hk hk' hm hm'
    rw [hmu] at hm hm'
    exact h.apart b k b' k' B o B' o' hne (hbs b k hk).1 (hbs b' k' hk').1 hm hm'
  · intro b v B o hv hm
    rw [hmu] at hm
    obtain ⟨cs, e, fr, h1, h2⟩ := h.maps b v B o (by rw [h.c]; omega) hm
    exact ⟨cs, e, fr, h1, by rw [hsz]; exact h2⟩
theorem St.take {G : Cx} {H : Hp} {w : World} (h : St B0 w0 G H w) (n : Nat) : St B0 w0 G (H.take n) w := by
  refine h.back (Nat.le_refl _) (fun b k hk => ?_) h.c rfl rfl (fun _ _ _ _ hr => hr)
  simp only [Hp.take, List.getElem?_take] at hk
  split at hk
  · exact ⟨hk, (h.blk b k hk).1⟩
  · cases hk
theorem RF'.cut {nt : Nat} {G : Cx} {s : Sl} {a : Act} (h : RF' nt G s a) (lv : List Nat) : RF' nt G (cutSl lv s) a := by
  refine ⟨fun t => ?_, h.2⟩
  have : get (cutSl lv s) t = get s t ∨ get (cutSl lv s) t = .bad := by
    unfold cutSl
    induction lv with
    | nil => exact .inr rfl
    | cons j lv ih =>
      simp only [List.map_cons, get]
      by_cases ht : t = j
      · rw [if_pos ht, ht]; exact .inl rfl
      · rw [if_neg ht]; exact ih
  rcases this with e | e
  · rw [e]; exact h.1 t
  · rw [e]; exact .bad _
theorem xcode_ok (hT : TOK P T) (hE : EOK P E) (hmix : P.follows .mixedOrders = true) {A : Ann} {nt k : Nat} : ∀ (c : Code), okCode E A c = true → ∀ {s s' : Sl} {H H' : Hp} {x : Ex} {a : Act} {w : World} {G : Cx} {Q : Exit → Act → World → Prop},
    xcode E T A nt k c s H = some (x, s', H') → St B0 w0 G H w → RF' nt G s a →
    (∀ a' w' G', Le G G' → St B0 w0 G' H' w' → RF' nt G' s' a' → a'.defers = a.defers → Q x.exit' a' w') → c.wp P Q a w := by
  intro c
  induction c with
  | skip =>
    intro _ s s' H H' x a w G Q hx hst hrf hk
    simp only [xcode] at hx; cases hx
    exact wp_skip (hk a w G (Le.refl G) hst hrf rfl)
  | label l =>
    intro _ s s' H H' x a w G Q hx hst hrf hk
    simp only [xcode] at hx; cases hx
    exact wp_label (hk a w G (Le.refl G) hst hrf rfl)
  | exit id =>
    intro _ s s' H H' x a w G Q hx hst hrf hk
    simp only [xcode] at hx; cases hx
    exact wp_exit (hk a w G (Le.refl G) hst hrf rfl)
  | ret =>
    intro _ s s' H H' x a w G Q hx hst hrf hk
    simp only [xcode] at hx; cases hx
    exact wp_ret (hk a w G (Le.refl G) hst hrf rfl)
  | region id ops draw =>
    intro hok s s' H H' x a w G Q hx hst hrf hk
    simp only [xcode] at hx
    obtain ⟨r, hr, he⟩ := Option.map_eq_some_iff.1 hx
    obtain ⟨r1, r2⟩ := r
    cases he
    cases draw with
    | false =>
      simp only [Bool.false_eq_true, if_false] at hr
      exact wp_region_list (xlist_ok hT hE ops.toList hst hrf hr hk)
    | true =>
      simp only [if_true, xdraw] at hr
      simp only [okCode, Bool.not_true, Bool.false_or, Bool.and_eq_true, beq_iff_eq] at hok
      split at hr
      · rename_i tr htr
        split at hr
        · rename_i hstab
          rw [← hok.2] at hstab
          exact draw_ok hT hE hmix htr hok.1.1 hok.1.2 hstab hst hrf hr hk
        · cases hr
      · cases hr
  | seq p q ihp ihq =>
    intro hok s s' H H' x a w G Q hx hst hrf hk
    simp only [okCode, Bool.and_eq_true] at hok
    simp only [xcode] at hx
    refine wp_seq ?_
    split at hx
    · rename_i s1 H1 h1
      exact ihp hok.1 h1 hst hrf fun a1 w1 G1 g1 g2 g3 g4 => ihq hok.2 hx g2 g3 fun a2 w2 G2 e1 e2 e3 e4 => hk a2 w2 G2 (g1.trans e1) e2 e3 (e4.trans g4)
    · rename_i hne
      refine ihp hok.1 hx hst hrf fun a1 w1 G1 g1 g2 g3 g4 => ?_
      have := hk a1 w1 G1 g1 g2 g3 g4
      cases x with
      | norm => exact absurd hx (hne _ _)
      | exit id => exact this
      | ret => exact this
  | cond c p q ihp ihq =>
    intro hok s s' H H' x a w G Q hx hst hrf hk
    simp only [okCode, Bool.and_eq_true] at hok
    simp only [xcode] at hx
    have hc := hrf.1.ev c
    split at hx
    · rename_i he
      rw [he] at hc
      refine wp_cond_true ?_ (ihp hok.1 hx hst hrf hk)
      generalize a.eval c = v at hc
      cases hc; rfl
    · rename_i he
      rw [he] at hc
      refine wp_cond_false ?_ (ihq hok.2 hx hst hrf hk)
      generalize a.eval c = v at hc
      cases hc; rfl
    · cases hx
  | block id b ih =>
    intro hok s s' H H' x a w G Q hx hst hrf hk
    simp only [okCode] at hok
    simp only [xcode] at hx
    refine wp_block ?_
    split at hx
    · rename_i j s1 H1 h1
      cases hx
      refine ih hok h1 hst hrf fun a1 w1 G1 g1 g2 g3 g4 => ?_
      have := hk a1 w1 G1 g1 g2 g3 g4
      simp only [Ex.exit', Exit.inBlock]
      by_cases hj : j = id
      · rw [if_pos hj] at this ⊢; exact this
      · rw [if_neg hj] at this ⊢; exact this
    · rename_i hne
      refine ih hok hx hst hrf fun a1 w1 G1 g1 g2 g3 g4 => ?_
      have := hk a1 w1 G1 g1 g2 g3 g4
      cases x with
      | norm => exact this
      | exit j => exact absurd hx (hne _ _ _)
      | ret => exact this
  | loop b ih =>
    intro hok s s' H H' x a w G Q hx hst hrf hk
    simp only [okCode] at hok
    simp only [xcode] at hx
    have key : ∀ (n m : Nat) (s : Sl) (H : Hp) (a : Act) (w : World) (G : Cx), xloop (xcode E T A nt k b) (A.live (firstReg b)) (A.drop (firstReg b)) m n s H = some (x, s', H') → St B0 w0 G H w → RF' nt G s a →
        (∀ a' w' G', Le G G' → St B0 w0 G' H' w' → RF' nt G' s' a' → a'.defers = a.defers → Q x.exit' a' w') → Code.rounds P b Q n a w := by
      intro n
      induction n with
      | zero => intro m s H a w G h _ _ _; simp [xloop] at h
      | succ n ihn =>
        intro m s H a w G h hst hrf hk
        simp only [xloop] at h
        rw [rounds_succ]
        have hst' : St B0 w0 G (if A.drop (firstReg b) = true then H.take m else H) w := by
          split
          · exact hst.take m
          · exact hst
        split at h
        · rename_i s1 H1 h1
          exact ih hok h1 hst' (hrf.cut _) fun a1 w1 G1 g1 g2 g3 g4 => ihn m s1 H1 a1 w1 G1 h g2 g3 fun a2 w2 G2 e1 e2 e3 e4 => hk a2 w2 G2 (g1.trans e1) e2 e3 (e4.trans g4)
        · rename_i hne
          refine ih hok h hst' (hrf.cut _) fun a1 w1 G1 g1 g2 g3 g4 => ?_
          have := hk a1 w1 G1 g1 g2 g3 g4
          cases x with
          | norm => exact absurd h (hne _ _)
          | exit id => exact this
          | ret => exact this
    exact wp_loop_rounds k (key k _ s H a w G hx hst hrf hk)
  | _ =>
    intro _ s s' H H' x a w G Q hx hst hrf hk
    simp only [xcode] at hx
    cases hx
/-! ### functions -/
def xres (T : Tab) (s : Sl) (H : Hp) : List ResultVar → Option (List AV)
  | [] => some []
  | .tmp t :: l => (xres T s H l).map (get s t :: ·)
  | .cell a t :: l =>
    match aload T t (get s a) H with
    | some v => (xres T s H l).map (v :: ·)
    | none => none
def xret (vs : List AV) : AV := match vs with | [v] => v | vs => .tup vs
def argSl : List AV → Nat → Sl
  | [], _ => []
  | a :: l, i => (i, a) :: argSl l (i + 1)
noncomputable def xbody (E : Env) (T : Tab) (A : Ann) (nt : Nat) (c : Code) (rs : List ResultVar) (k : Nat) (args : List AV) (H : Hp) : Option (AV × Hp) :=
  match xcode E T A nt k c (argSl args 0) H with
  | some (.norm, s, H') => (xres T s H' rs).map fun vs => (xret vs, H')
  | some (.ret, s, H') => (xres T s H' rs).map fun vs => (xret vs, H')
  | _ => none
theorem get_argSl : ∀ (args : List AV) (i t : Nat), get (argSl args i) t = if i ≤ t then (args[t - i]?).getD .bad else .bad := by
  intro args
  induction args with
  | nil => intro i t; simp [argSl, get]
  | cons a l ih =>
    intro i t
    simp only [argSl, get]
    by_cases ht : t = i
    · subst ht; simp
    · rw [if_neg ht, ih]
      by_cases hle : i ≤ t
      · rw [if_pos (by omega), if_pos hle, show t - i = (t - (i + 1)) + 1 by omega]; rfl
      · rw [if_neg (by omega), if_neg hle]
theorem loadVar_ok (hT : TOK P T) {G : Cx} {H : Hp} {w : World} (h : St B0 w0 G H w) {t : Nat} {a v' : AV} {va : Value} (ha : RV G a va) (hl : aload T t a H = some v') :
    ∃ ad v, va = .pointer (some ad) ∧ (loadVar t ad).run P w = .ok v w ∧ RV G v' v := by
  unfold aload at hl
  split at hl
  · rename_i i b ver off hi
    cases ha with | ptr _ _ _ B o h1 h2 =>
    split at hl
    · rename_i k hk
      obtain ⟨cs, e, fr, hh, hlen, hrv, _⟩ := h.cellsAt hk h2
      have ht := hT t i hi
      have hagg := run_isAgg ht w
      have key : ∀ n, off + n ≤ k.cells.length → RVs G ((k.cells.drop off).take n) ((cs.toList.drop (o + off)).take n) := by
        intro n hn
        have := (hrv.drop off).take n
        rw [List.drop_take, List.take_take, List.drop_drop] at this
        rwa [Nat.min_eq_left (by omega)] at this
      have aggcase : off + i.size ≤ k.cells.length → (isAgg t).run P w = .ok true w → some (AV.agg ((k.cells.drop off).take i.size)) = some v' → ∃ ad v, Value.pointer (some (⟨B, o + off, none⟩ : Addr)) = .pointer (some ad) ∧ (loadVar t ad).run P w = .ok v w ∧ RV G v' v := by
        intro hle hag hv
        cases hv
        refine ⟨_, .agg ((cs.toList.drop (o + off)).take i.size).toArray, rfl, ?_, .agg _ _ (key _ hle)⟩
        simp [loadVar, hag, run_sizeOf ht, run_loadCells_at hh (o + off) i.size (by omega)]
      have onecase : (isAgg t).run P w = .ok false w → k.cells[off]? = some v' → ∃ ad v, Value.pointer (some (⟨B, o + off, none⟩ : Addr)) = .pointer (some ad) ∧ (loadVar t ad).run P w = .ok v w ∧ RV G v' v := by
        intro hag hv
        obtain ⟨v, hv1, hv2⟩ := hrv.get hv
        have hv3 : cs.toList[o + off]? = some v := by
          simp only [List.getElem?_take, List.getElem?_drop] at hv1
          split at hv1
          · exact hv1
          · cases hv1
        refine ⟨_, v, rfl, ?_, hv2⟩
        simp only [loadVar, Sem.run_bind, Sem.run_pure, Result.andThen_ok, hag, Bool.false_eq_true, if_false, Sem.run_ite]
        exact run_cell_at hh _ hv3
      cases hd : i.d <;> simp only [hd] at hl hagg <;> first
        | (split at hl
           · exact aggcase ‹_› hagg hl
           · cases hl)
        | exact onecase hagg hl
    · cases hl
  · cases hl
def resOne (tmps : Array Value) : ResultVar → Sem Value
  | .tmp t => pure (tmps.getD t undef)
  | .cell a t => do loadVar t (← asAddr (tmps.getD a undef))
theorem xres_ok (hT : TOK P T) {nt : Nat} {G : Cx} {s : Sl} {H : Hp} {a : Act} {w : World} (hst : St B0 w0 G H w) (hrf : RF' nt G s a) : ∀ (rs : List ResultVar) (vs : List AV), xres T s H rs = some vs →
    ∃ us, (rs.mapM (resOne a.tmps)).run P w = .ok us w ∧ RVs G vs us := by
  intro rs
  induction rs with
  | nil => intro vs h; simp [xres] at h; subst h; exact ⟨[], by simp, .nil⟩
  | cons r rs ih =>
    intro vs h
    cases r with
    | tmp t =>
      simp only [xres] at h
      obtain ⟨vs', h1, rfl⟩ := Option.map_eq_some_iff.1 h
      obtain ⟨us, h2, h3⟩ := ih vs' h1
      exact ⟨a.tmps.getD t undef :: us, by simp only [List.mapM_cons, resOne, Sem.run_bind, Sem.run_pure, Result.andThen_ok, h2], .cons _ _ _ _ (hrf.1 t) h3⟩
    | cell x t =>
      simp only [xres] at h
      split at h
      · rename_i v hv
        obtain ⟨vs', h1, rfl⟩ := Option.map_eq_some_iff.1 h
        obtain ⟨us, h2, h3⟩ := ih vs' h1
        obtain ⟨ad, u, e1, e2, e3⟩ := loadVar_ok hT hst (hrf.1 x) hv
        refine ⟨u :: us, ?_, .cons _ _ _ _ e3 h3⟩
        simp only [List.mapM_cons, resOne, Sem.run_bind, Sem.run_pure, e1, asAddr, Result.andThen_ok, e2, h2]
      · cases h
def pack (vs : List Value) : Value := match vs with | [v] => v | vs => .tuple vs.toArray
theorem results_eq (fn : Func) (tmps : Array Value) (w : World) (us : List Value) (h : (fn.results.toList.mapM (resOne tmps)).run P w = .ok us w) : (results fn tmps).run P w = .ok (pack us) w := by
  have hr : results fn tmps = (do
      let vs ← fn.results.mapM (resOne tmps)
      pure (if h : vs.size = 1 then vs[0] else .tuple vs)) := by
    unfold results
    congr 1
  rw [hr, Array.mapM_eq_mapM_toList]
  simp only [map_eq_pure_bind, bind_assoc, pure_bind, Sem.run_bind, h, Result.andThen_ok, Sem.run_pure]
  match us with
  | [] => rfl
  | [_] => rfl
  | _ :: _ :: _ => simp [pack]
theorem RV.xret {G : Cx} {vs : List AV} {us : List Value} (h : RVs G vs us) : RV G (xret vs) (pack us) := by
  match vs, us, h with
  | [], [], .nil => exact .tup _ _ .nil
  | [_], [_], .cons _ _ _ _ h1 .nil => exact h1
  | _ :: _ :: _, _ :: _ :: _, h => exact .tup _ _ h
theorem Sound_body (hT : TOK P T) (hE : EOK P E) (hmix : P.follows .mixedOrders = true) {g : Nat} {fn : Func} {c : Code} {F : List AV → Hp → Option (AV × Hp)} (hf : P.funcs[g]? = some fn) (hb : fn.body = some c)
    (hn : (fn.name == "runtime.NumGoroutine") = false) {A : Ann} (hok : okCode E A c = true) (n : Nat) (hF : ∀ args H r H', F args H = some (r, H') → args.length = n ∧ ∃ k, xbody E T A fn.ntmps c fn.results.toList k args H = some (r, H')) (hnt : n ≤ fn.ntmps) : Sound P g F := by
  refine ⟨⟨fn, hf, by rw [hb]; rfl, hn⟩, ?_⟩
  intro args H r H' hx B0 w0 G w vargs hst hrv
  obtain ⟨hlen, k, hk⟩ := hF args H r H' hx
  refine calls_of_wp hf hb ?_
  have hlv : vargs.length = args.length := hrv.length.symm
  have hrf : RF' fn.ntmps G (argSl args 0) { tmps := vargs.toArray ++ Array.replicate (fn.ntmps - vargs.toArray.size) undef, defers := [] } := by
    refine ⟨fun t => ?_, by simp; omega⟩
    rw [get_argSl, if_pos (Nat.zero_le _), Nat.sub_zero]
    cases hg : args[t]? with
    | none => exact .bad _
    | some x =>
      obtain ⟨v, h1, h2⟩ := hrv.get hg
      have ht : t < vargs.length := (List.getElem?_eq_some_iff.1 h1).1
      have : (vargs.toArray ++ Array.replicate (fn.ntmps - vargs.toArray.size) undef).getD t undef = v := by
        rw [Array.getD_eq_getD_getElem?, Array.getElem?_append_left (by simpa using ht)]
        simp [h1]
      show RV G x _
      rw [this]; exact h2
  have fin : ∀ (s : Sl) (vs : List AV) (e : Exit), e = .normal ∨ e = .ret → xres T s H' fn.results.toList = some vs → r = xret vs → ∀ a' w' G', Le G G' → St B0 w0 G' H' w' → RF' fn.ntmps G' s a' → a'.defers = [] →
      bodyPost P fn (fun e w' => ∃ v G', e = .returned v ∧ Le G G' ∧ St B0 w0 G' H' w' ∧ RV G' r v) e a' w' := by
    intro s vs e he hvs hr a' w' G' h1 h2 h3 h4
    obtain ⟨us, h5, h6⟩ := xres_ok hT h2 h3 _ _ hvs
    have := results_eq fn a'.tmps w' us h5
    rcases he with rfl | rfl <;> exact ⟨h4, _, this, _, _, rfl, h1, h2, hr ▸ RV.xret h6⟩
  unfold xbody at hk
  split at hk
  · rename_i s H1 h1
    obtain ⟨vs, h2, h3⟩ := Option.map_eq_some_iff.1 hk
    cases h3
    exact xcode_ok hT hE hmix c hok h1 hst hrf fun a' w' G' e1 e2 e3 e4 => fin s vs _ (.inl rfl) h2 rfl a' w' G' e1 e2 e3 e4
  · rename_i s H1 h1
    obtain ⟨vs, h2, h3⟩ := Option.map_eq_some_iff.1 hk
    cases h3
    exact xcode_ok hT hE hmix c hok h1 hst hrf fun a' w' G' e1 e2 e3 e4 => fin s vs _ (.inr rfl) h2 rfl a' w' G' e1 e2 e3 e4
  · cases hk
end
end Go.Proofs.Ytokadkakmhfdeaa.Pq
