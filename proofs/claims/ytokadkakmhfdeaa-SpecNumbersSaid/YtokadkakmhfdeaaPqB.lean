/- What stands between the abstract and the machine's own: values, blocks, worlds. -/
import Derived.Test.YtokadkakmhfdeaaPqA
import Derived.Laws.CopyRow
import Derived.Laws.AppendOwn
import Derived.Laws.MakeOwn
set_option linter.unusedVariables false
namespace Go.Proofs.Ytokadkakmhfdeaa.Pq
open Go.RowKit

structure Cx where
  mu : Nat → Nat → Option (Nat × Nat)
  sz : Nat → Nat
  c : Nat

mutual
inductive RV (G : Cx) : AV → Value → Prop
  | bad (v) : RV G .bad v
  | int (k n) : RV G (.int k n) (.int k n)
  | bool (b) : RV G (.bool b) (.bool b)
  | str (s) : RV G (.str s) (.string s)
  | nilS : RV G .nilS (.slice none 0 0)
  | mt1 : RV G .mtS (.slice none 0 0)
  | mt2 (x) : RV G .mtS (.slice (some x) 0 0)
  | nilP : RV G .nilP (.pointer none)
  | nilF : RV G .nilF .nilFunc
  | nilI : RV G .nilI .nilIface
  | sl (b ver off n es full B o A cap) : ver < G.c → G.mu b ver = some (B, o) → n ≤ cap → (full = true → cap = n) →
      (cap ≠ 0 → A = ⟨B, o + off, none⟩ ∧ o + off + cap * es ≤ G.sz B) → RV G (.sl b ver off n es full) (.slice (some A) n cap)
  | ptr (b ver off B o) : ver < G.c → G.mu b ver = some (B, o) → RV G (.ptr b ver off) (.pointer (some ⟨B, o + off, none⟩))
  | agg (cs vs) : RVs G cs vs → RV G (.agg cs) (.agg vs.toArray)
  | tup (cs vs) : RVs G cs vs → RV G (.tup cs) (.tuple vs.toArray)
  | func (g cs vs) : RVs G cs vs → RV G (.func g cs) (.func (.func g) #[] vs.toArray)
inductive RVs (G : Cx) : List AV → List Value → Prop
  | nil : RVs G [] []
  | cons (a v as vs) : RV G a v → RVs G as vs → RVs G (a :: as) (v :: vs)
end

structure Le (G G' : Cx) : Prop where
  c : G.c ≤ G'.c
  mu : ∀ b v, v < G.c → G'.mu b v = G.mu b v
  sz : ∀ b v B o, v < G.c → G.mu b v = some (B, o) → G'.sz B = G.sz B

theorem Le.refl (G : Cx) : Le G G := ⟨Nat.le_refl _, fun _ _ _ => rfl, fun _ _ _ _ _ _ => rfl⟩
theorem Le.trans {A B C : Cx} (h : Le A B) (k : Le B C) : Le A C :=
  ⟨Nat.le_trans h.c k.c, fun b v hv => (k.mu b v (Nat.lt_of_lt_of_le hv h.c)).trans (h.mu b v hv),
   fun b v X o hv hm => (k.sz b v X o (Nat.lt_of_lt_of_le hv h.c) ((h.mu b v hv).trans hm)).trans (h.sz b v X o hv hm)⟩

mutual
theorem RV.le {G G' : Cx} (h : Le G G') : ∀ {a v}, RV G a v → RV G' a v
  | _, _, .bad v => .bad v
  | _, _, .int k n => .int k n
  | _, _, .bool b => .bool b
  | _, _, .str s => .str s
  | _, _, .nilS => .nilS
  | _, _, .mt1 => .mt1
  | _, _, .mt2 x => .mt2 x
  | _, _, .nilP => .nilP
  | _, _, .nilF => .nilF
  | _, _, .nilI => .nilI
  | _, _, .sl b ver off n es full B o A cap h1 h2 h3 h4 h5 =>
    .sl b ver off n es full B o A cap (Nat.lt_of_lt_of_le h1 h.c) ((h.mu b ver h1).trans h2) h3 h4 fun hc => ⟨(h5 hc).1, by rw [h.sz b ver B o h1 h2]; exact (h5 hc).2⟩
  | _, _, .ptr b ver off B o h1 h2 => .ptr b ver off B o (Nat.lt_of_lt_of_le h1 h.c) ((h.mu b ver h1).trans h2)
  | _, _, .agg cs vs hs => .agg cs vs (RVs.le h hs)
  | _, _, .tup cs vs hs => .tup cs vs (RVs.le h hs)
  | _, _, .func g cs vs hs => .func g cs vs (RVs.le h hs)
theorem RVs.le {G G' : Cx} (h : Le G G') : ∀ {a v}, RVs G a v → RVs G' a v
  | _, _, .nil => .nil
  | _, _, .cons a v as vs h1 h2 => .cons a v as vs (RV.le h h1) (RVs.le h h2)
end

section
variable {G : Cx}
theorem RVs.length {as : List AV} {vs : List Value} (h : RVs G as vs) : as.length = vs.length := by
  induction as generalizing vs with
  | nil => cases h; rfl
  | cons a as ih => cases h with | cons _ _ _ _ _ h2 => simp [ih h2]
theorem RVs.append {as bs : List AV} {vs us : List Value} (h : RVs G as vs) (k : RVs G bs us) : RVs G (as ++ bs) (vs ++ us) := by
  induction as generalizing vs with
  | nil => cases h; exact k
  | cons a as ih => cases h with | cons _ _ _ _ h1 h2 => exact .cons _ _ _ _ h1 (ih h2)
theorem RVs.drop {as : List AV} {vs : List Value} (h : RVs G as vs) : ∀ n, RVs G (as.drop n) (vs.drop n) := by
  induction as generalizing vs with
  | nil => intro n; cases h; simp; exact .nil
  | cons a as ih => intro n; cases h with | cons _ _ _ _ h1 h2 => cases n with
    | zero => exact .cons _ _ _ _ h1 h2
    | succ n => simpa using ih h2 n
theorem RVs.take {as : List AV} {vs : List Value} (h : RVs G as vs) : ∀ n, RVs G (as.take n) (vs.take n) := by
  induction as generalizing vs with
  | nil => intro n; cases h; simp; exact .nil
  | cons a as ih => intro n; cases h with | cons _ _ _ _ h1 h2 => cases n with
    | zero => simp; exact .nil
    | succ n => simpa using RVs.cons _ _ _ _ h1 (ih h2 n)
theorem RVs.get {as : List AV} {vs : List Value} (h : RVs G as vs) : ∀ {i : Nat} {a : AV}, as[i]? = some a → ∃ v, vs[i]? = some v ∧ RV G a v := by
  induction as generalizing vs with
  | nil => intro i a hi; simp at hi
  | cons x as ih => intro i a hi; cases h with | cons _ v _ vs h1 h2 => cases i with
    | zero => simp at hi; subst hi; exact ⟨v, rfl, h1⟩
    | succ i => simp at hi; obtain ⟨u, hu, hr⟩ := ih h2 hi; exact ⟨u, by simpa using hu, hr⟩
theorem RVs.set {as : List AV} {vs : List Value} (h : RVs G as vs) {a v} (hv : RV G a v) : ∀ i, RVs G (as.set i a) (vs.set i v) := by
  induction as generalizing vs with
  | nil => intro i; cases h; exact .nil
  | cons x as ih => intro i; cases h with | cons _ u _ us h1 h2 => cases i with
    | zero => exact .cons _ _ _ _ hv h2
    | succ i => exact .cons _ _ _ _ h1 (ih h2 i)

/-- 'setAll' on the machine's side. -/
def setAllV : List Value → Nat → List Value → List Value
  | l, _, [] => l
  | l, i, v :: vs => setAllV (l.set i v) (i + 1) vs
theorem RVs.setAll {us : List AV} : ∀ {as : List AV} {xs ys : List Value} (i : Nat), RVs G as xs → RVs G us ys → RVs G (setAll as i us) (setAllV xs i ys) := by
  induction us with
  | nil => intro as xs ys i h k; cases k; exact h
  | cons u us ih => intro as xs ys i h k; cases k with | cons _ y _ ys h1 h2 => exact ih (i + 1) (h.set h1 i) h2
theorem length_setAllV : ∀ (us : List Value) (l : List Value) (i : Nat), (setAllV l i us).length = l.length := by
  intro us
  induction us with
  | nil => intro l i; rfl
  | cons u us ih => intro l i; simp [setAllV, ih]
theorem setAllV_eq : ∀ (us : List Value) (l : List Value) (i : Nat), i + us.length ≤ l.length → setAllV l i us = l.take i ++ us ++ l.drop (i + us.length) := by
  intro us
  induction us with
  | nil => intro l i _; simp [setAllV]
  | cons u us ih =>
    intro l i h
    simp only [List.length_cons] at h
    rw [setAllV, ih _ _ (by simp; omega)]
    have e := list_seg_step l i u us (by simpa using h)
    simpa [Nat.add_assoc, Nat.add_comm 1] using e
theorem drop_setAllV : ∀ (ys : List Value) (l : List Value) (o p L : Nat), ((setAllV l (o + p) ys).drop o).take L = setAllV ((l.drop o).take L) p ys := by
  intro ys
  induction ys with
  | nil => intro l o p L; rfl
  | cons y ys ih =>
    intro l o p L
    simp only [setAllV]
    have := ih (l.set (o + p) y) o (p + 1) L
    rw [show o + (p + 1) = o + p + 1 by omega] at this
    rw [this]
    congr 1
    rw [List.drop_set, if_neg (by omega), List.take_set, show o + p - o = p by omega]
theorem length_setAll : ∀ (us : List AV) (l : List AV) (i : Nat), (setAll l i us).length = l.length := by
  intro us
  induction us with
  | nil => intro l i; rfl
  | cons u us ih => intro l i; simp [setAll, ih]

theorem all_setAll : ∀ (us : List AV) (l : List AV) (i : Nat), l.all AV.one = true → us.all AV.one = true → (setAll l i us).all AV.one = true := by
  intro us
  induction us with
  | nil => intro l i h _; exact h
  | cons u us ih =>
    intro l i h k
    simp only [List.all_cons, Bool.and_eq_true] at k
    refine ih _ _ ?_ k.2
    simp only [List.all_eq_true] at h ⊢
    intro x hx
    rcases List.mem_or_eq_of_mem_set hx with h1 | h1
    · exact h x h1
    · rw [h1]; exact k.1

theorem RV.cells {a v} (h : RV G a v) (hb : a ≠ .bad) (ht : ∀ cs, a ≠ .tup cs) : RVs G a.cells v.cells.toList := by
  cases h <;> first | (exact absurd rfl hb) | (exact absurd rfl (ht _)) | skip
  case agg hs => simpa [AV.cells, Value.cells] using hs
  all_goals (simp only [AV.cells, Value.cells]; refine .cons _ _ _ _ ?_ .nil)
  · exact .int _ _
  · exact .bool _
  · exact .str _
  · exact .nilS
  · exact .mt1
  · exact .mt2 _
  · exact .nilP
  · exact .nilF
  · exact .nilI
  · exact .sl _ _ _ _ _ _ _ _ _ _ ‹_› ‹_› ‹_› ‹_› ‹_›
  · exact .ptr _ _ _ _ _ ‹_› ‹_›
  · exact .func _ _ _ ‹_›
theorem RV.one {a v} (h : RV G a v) (ha : a.one = true) : v.oneCell' = true := by
  cases h <;> first | rfl | (simp [AV.one] at ha)
theorem RVs.one {as : List AV} {vs : List Value} (h : RVs G as vs) (ha : as.all AV.one = true) : ∀ v ∈ vs, v.oneCell' = true := by
  induction as generalizing vs with
  | nil => cases h; simp
  | cons a as ih => cases h with | cons _ v _ vs h1 h2 =>
    simp only [List.all_cons, Bool.and_eq_true] at ha
    intro x hx
    rcases List.mem_cons.1 hx with rfl | hx
    · exact h1.one ha.1
    · exact ih h2 ha.2 x hx
end

/-- The machine's block B holds, from o on, what block k says. -/
def BlkAt (G : Cx) (w : World) (B o : Nat) (k : Blk) : Prop :=
  ∃ cs e fr, w.heap[B]? = some (.cells cs e fr) ∧ o + k.cells.length ≤ cs.size ∧ RVs G k.cells ((cs.toList.drop o).take k.cells.length) ∧ (k.tail = true ∨ k.solo = true → fr = (0, 0))

structure St (B0 : Nat) (w0 : World) (G : Cx) (H : Hp) (w : World) : Prop where
  below : Below B0 w0 w
  base : B0 ≤ w.heap.size
  c : G.c = H.c
  blk : ∀ b k, H.bs[b]? = some k → k.ver < H.c ∧ ∃ B o, G.mu b k.ver = some (B, o) ∧ BlkAt G w B o k ∧ (k.tail = true ∨ k.solo = true → B0 ≤ B)
  apart : ∀ b k b' k' B o B' o', b ≠ b' → H.bs[b]? = some k → H.bs[b']? = some k' → G.mu b k.ver = some (B, o) → G.mu b' k'.ver = some (B', o') →
    (k.solo = true → B' ≠ B) ∧ (k.tail = true → B' = B → k'.tail = false ∧ o' + k'.cells.length ≤ o + k.cells.length)
  ones : ∀ (b : Nat) (k : Blk), H.bs[b]? = some k → k.cells.all AV.one = true
  maps : ∀ b v B o, v < G.c → G.mu b v = some (B, o) → ∃ cs e fr, w.heap[B]? = some (.cells cs e fr) ∧ cs.size = G.sz B

theorem Hp.at_some {H : Hp} {b ver : Nat} {k : Blk} (h : H.at b ver = some k) : H.bs[b]? = some k ∧ k.ver = ver := by
  unfold Hp.at at h
  split at h
  · rename_i k' hk
    split at h
    · rename_i hv; cases h; exact ⟨hk, hv⟩
    · cases h
  · cases h

/-- A draw turns nothing. -/
theorem St.drew {B0 w0 G H w} (h : St B0 w0 G H w) : St B0 w0 G H w.drew :=
  ⟨h.below.drew, h.base, h.c, h.blk, h.apart, h.ones, h.maps⟩

def Cx.ext (G : Cx) (b B o n : Nat) : Cx := ⟨fun x v => if v = G.c then (if x = b then some (B, o) else none) else G.mu x v, fun X => if X = B then n else G.sz X, G.c + 1⟩

theorem Cx.ext_mu_new (G : Cx) (b B o n : Nat) : (G.ext b B o n).mu b G.c = some (B, o) := by simp [Cx.ext]
theorem Cx.ext_mu_old (G : Cx) (b B o n x v : Nat) (h : v < G.c) : (G.ext b B o n).mu x v = G.mu x v := by
  simp only [Cx.ext]; rw [if_neg (by omega)]

/-- A new block of the machine, seen by the abstract memory. -/
theorem Le.ext_new {B0 w0 G H w} (h : St B0 w0 G H w) (b o n : Nat) : Le G (G.ext b w.heap.size o n) := by
  refine ⟨Nat.le_succ _, fun x v hv => Cx.ext_mu_old G b _ o n x v hv, fun x v B o' hv hm => ?_⟩
  obtain ⟨cs, e, fr, hh, _⟩ := h.maps x v B o' hv hm
  have hlt := (Array.getElem?_eq_some_iff.1 hh).1
  simp only [Cx.ext]; rw [if_neg (by omega)]

theorem heap_alloc_lt (w : World) (o : Obj) {B : Nat} {x : Obj} (h : w.heap[B]? = some x) : (w.alloc o).heap[B]? = some x := by
  rw [Below.heap_alloc w o B (Array.getElem?_eq_some_iff.1 h).1, h]

theorem BlkAt.mono {G G' : Cx} {w w' : World} {B o : Nat} {k : Blk} (hl : Le G G') (h : BlkAt G w B o k) (hh : w'.heap[B]? = w.heap[B]?) : BlkAt G' w' B o k := by
  obtain ⟨cs, e, fr, h1, h2, h3, h4⟩ := h
  exact ⟨cs, e, fr, hh.trans h1, h2, h3.le hl, h4⟩
theorem BlkAt.lt {G : Cx} {w : World} {B o : Nat} {k : Blk} (h : BlkAt G w B o k) : B < w.heap.size := by
  obtain ⟨cs, e, fr, h1, _⟩ := h
  exact (Array.getElem?_eq_some_iff.1 h1).1

theorem St.alloc {B0 w0 G H w} (h : St B0 w0 G H w) (cells : List AV) (vs : List Value) (e : TypeId) (hr : RVs G cells vs) (h1c : cells.all AV.one = true) :
    ∃ G', Le G G' ∧ St B0 w0 G' (H.new cells) (w.alloc (.cells vs.toArray e)) ∧ G'.mu H.bs.length H.c = some (w.heap.size, 0) ∧ G'.sz w.heap.size = vs.length := by
  have hl := Le.ext_new h H.bs.length 0 vs.length
  have hnew : (G.ext H.bs.length w.heap.size 0 vs.length).mu H.bs.length H.c = some (w.heap.size, 0) := by rw [← h.c]; exact Cx.ext_mu_new ..
  have hold : ∀ b k, H.bs[b]? = some k → (G.ext H.bs.length w.heap.size 0 vs.length).mu b k.ver = G.mu b k.ver := fun b k hk => Cx.ext_mu_old _ _ _ _ _ _ _ (by rw [h.c]; exact (h.blk b k hk).1)
  refine ⟨G.ext H.bs.length w.heap.size 0 vs.length, hl, ⟨h.below.alloc h.base _, by simp; have := h.base; omega, by simp [Cx.ext, Hp.new, h.c], ?_, ?_, ?_, ?_⟩, hnew, by simp [Cx.ext]⟩
  · intro b k hk
    simp only [Hp.new, List.getElem?_append] at hk ⊢
    split at hk
    · obtain ⟨h1, B, o, h2, h3, h4⟩ := h.blk b k hk
      exact ⟨by omega, B, o, (hold b k hk).trans h2, h3.mono hl (Below.heap_alloc _ _ _ h3.lt), h4⟩
    · rename_i hb
      obtain ⟨h1, h2⟩ : b - H.bs.length = 0 ∧ k = ⟨H.c, cells, true, true⟩ := by
        cases hq : b - H.bs.length with
        | zero => simp [hq] at hk; exact ⟨rfl, hk.symm⟩
        | succ n => simp [hq] at hk
      have hb' : b = H.bs.length := by omega
      subst hb'; subst h2
      refine ⟨by simp, w.heap.size, 0, hnew, ⟨vs.toArray, e, (0, 0), heap_alloc_new w _, by simp [hr.length], ?_, fun _ => rfl⟩, fun _ => h.base⟩
      simp only [List.drop_zero]
      rw [List.take_of_length_le (by simp [hr.length])]
      exact hr.le hl
  · have key : ∀ b k, (H.new cells).bs[b]? = some k → ∀ B o, (G.ext H.bs.length w.heap.size 0 vs.length).mu b k.ver = some (B, o) →
        (b < H.bs.length ∧ H.bs[b]? = some k ∧ G.mu b k.ver = some (B, o) ∧ B < w.heap.size) ∨ (b = H.bs.length ∧ B = w.heap.size) := by
      intro b k hk B o hm
      simp only [Hp.new, List.getElem?_append] at hk
      split at hk
      · rename_i hb
        rw [hold b k hk] at hm
        obtain ⟨cs, e', fr, hh, _⟩ := h.maps b k.ver B o (by rw [h.c]; exact (h.blk b k hk).1) hm
        exact .inl ⟨hb, hk, hm, (Array.getElem?_eq_some_iff.1 hh).1⟩
      · rename_i hb
        obtain ⟨h1, h2⟩ : b - H.bs.length = 0 ∧ k = ⟨H.c, cells, true, true⟩ := by
          cases hq : b - H.bs.length with
          | zero => simp [hq] at hk; exact ⟨rfl, hk.symm⟩
          | succ n => simp [hq] at hk
        have hb' : b = H.bs.length := by omega
        subst hb'; subst h2
        rw [hnew] at hm
        simp at hm
        exact .inr ⟨rfl, hm.1.symm⟩
    intro b k b' k' B o B' o' hne hk hk' hm hm'
    rcases key b k hk B o hm with ⟨h1, h2, h3, h4⟩ | ⟨h1, h2⟩ <;> rcases key b' k' hk' B' o' hm' with ⟨i1, i2, i3, i4⟩ | ⟨i1, i2⟩
    · exact h.apart b k b' k' B o B' o' hne h2 i2 h3 i3
    · exact ⟨fun _ => by omega, fun _ hB => by omega⟩
    · exact ⟨fun _ => by omega, fun _ hB => by omega⟩
    · omega
  · intro b k hk
    simp only [Hp.new, List.getElem?_append] at hk
    split at hk
    · exact h.ones b k hk
    · cases hq : b - H.bs.length with
      | zero => simp [hq] at hk; subst hk; exact h1c
      | succ n => simp [hq] at hk
  · intro b v B o hv hm
    simp only [Cx.ext] at hv hm
    split at hm
    · split at hm
      · simp at hm
        obtain ⟨rfl, rfl⟩ := hm
        exact ⟨vs.toArray, e, (0, 0), heap_alloc_new w _, by simp [Cx.ext]⟩
      · simp at hm
    · have hv' : v < G.c := by omega
      obtain ⟨cs, e', fr, hh, hs⟩ := h.maps b v B o hv' hm
      have hlt := (Array.getElem?_eq_some_iff.1 hh).1
      exact ⟨cs, e', fr, heap_alloc_lt w _ hh, by rw [hs]; simp only [Cx.ext]; rw [if_neg (by omega)]⟩

theorem setRow_same (w : World) (g : Nat) (new cur : Array Value) (t : TypeId) (fr : Nat × Nat) (hg : w.heap[g]? = some (.cells cur t fr)) :
    (w.setRow g new).heap[g]? = some (.cells new t fr) := by
  simp [World.setRow, Array.getElem?_modify, hg]
theorem setRow_ne (w : World) (g x : Nat) (new : Array Value) (h : x ≠ g) : (w.setRow g new).heap[x]? = w.heap[x]? := by
  simp only [World.setRow, Array.getElem?_modify]
  rw [if_neg (fun e => h e.symm)]
theorem setRow_size (w : World) (g : Nat) (new : Array Value) : (w.setRow g new).heap.size = w.heap.size := by simp [World.setRow]
theorem Below.setRow {B : Nat} {a w : World} (h : Below B a w) {g : Nat} (hg : B ≤ g) (new : Array Value) : Below B a (w.setRow g new) :=
  h.trans ⟨rfl, rfl, rfl, by simp [World.setRow], fun k hk => setRow_ne w g k new (by omega)⟩

/-- One block is new, or stands in the place of an elder one. -/
theorem St.update {B0 w0 G H w} (h : St B0 w0 G H w) (b : Nat) (bs' : List Blk) (nk : Blk) (Bn on : Nat) (w' : World) (cs' : Array Value) (e' : TypeId) (fr' : Nat × Nat)
    (hv : nk.ver = H.c) (h1c : nk.cells.all AV.one = true) (hbs : ∀ x, x ≠ b → bs'[x]? = H.bs[x]?) (hb : bs'[b]? = some nk) (hbelow : Below B0 w0 w') (hbase : B0 ≤ w'.heap.size)
    (hcells : w'.heap[Bn]? = some (.cells cs' e' fr')) (hother : ∀ X x, X ≠ Bn → w.heap[X]? = some x → w'.heap[X]? = some x)
    (hBn : w.heap.size ≤ Bn ∨ ∃ cs e fr, w.heap[Bn]? = some (.cells cs e fr) ∧ cs.size = cs'.size)
    (hlen : on + nk.cells.length ≤ cs'.size) (hrv : RVs G nk.cells ((cs'.toList.drop on).take nk.cells.length))
    (hfl : nk.tail = true ∨ nk.solo = true → fr' = (0, 0) ∧ B0 ≤ Bn)
    (hsame : ∀ x k o, x ≠ b → H.bs[x]? = some k → G.mu x k.ver = some (Bn, o) → BlkAt G w' Bn o k)
    (hap : ∀ x k B o, x ≠ b → H.bs[x]? = some k → G.mu x k.ver = some (B, o) → B < w.heap.size →
      (nk.solo = true → B ≠ Bn) ∧ (nk.tail = true → B = Bn → k.tail = false ∧ o + k.cells.length ≤ on + nk.cells.length) ∧ (k.solo = true → Bn ≠ B) ∧ (k.tail = true → Bn = B → nk.tail = false ∧ on + nk.cells.length ≤ o + k.cells.length)) :
    ∃ G', Le G G' ∧ St B0 w0 G' ⟨bs', H.c + 1⟩ w' ∧ G'.mu b H.c = some (Bn, on) ∧ G'.sz Bn = cs'.size := by
  have hsz : ∀ x v B o, v < G.c → G.mu x v = some (B, o) → (G.ext b Bn on cs'.size).sz B = G.sz B := by
    intro x v B o hv' hm
    obtain ⟨cs, e, fr, hh, hs⟩ := h.maps x v B o hv' hm
    simp only [Cx.ext]
    split
    · rename_i hB
      subst hB
      rcases hBn with hge | ⟨c2, e2, f2, h2, h3⟩
      · have := (Array.getElem?_eq_some_iff.1 hh).1; omega
      · rw [hh] at h2; cases h2; rw [← hs, h3]
    · rfl
  have hl : Le G (G.ext b Bn on cs'.size) := ⟨Nat.le_succ _, fun x v hv' => Cx.ext_mu_old _ _ _ _ _ _ _ hv', hsz⟩
  have hnew : (G.ext b Bn on cs'.size).mu b H.c = some (Bn, on) := by rw [← h.c]; exact Cx.ext_mu_new ..
  have hold : ∀ x k, H.bs[x]? = some k → (G.ext b Bn on cs'.size).mu x k.ver = G.mu x k.ver := fun x k hk => Cx.ext_mu_old _ _ _ _ _ _ _ (by rw [h.c]; exact (h.blk x k hk).1)
  refine ⟨_, hl, ⟨hbelow, hbase, by simp [Cx.ext, h.c], ?_, ?_, ?_, ?_⟩, hnew, by simp [Cx.ext]⟩
  · intro x k hk
    by_cases hx : x = b
    · subst hx
      rw [hb] at hk; cases hk
      exact ⟨by simp only; omega, Bn, on, by rw [hv]; exact hnew, ⟨cs', e', fr', hcells, hlen, hrv.le hl, fun hf => (hfl hf).1⟩, fun hf => (hfl hf).2⟩
    · rw [hbs x hx] at hk
      obtain ⟨h1, B, o, h2, h3, h4⟩ := h.blk x k hk
      refine ⟨by simp only; omega, B, o, (hold x k hk).trans h2, ?_, h4⟩
      by_cases hB : B = Bn
      · subst hB
        exact (hsame x k o hx hk h2).mono hl rfl
      · obtain ⟨cs, e, fr, i1, i2, i3, i4⟩ := h3
        exact ⟨cs, e, fr, hother B _ hB i1, i2, i3.le hl, i4⟩
  · intro x k x' k' B o B' o' hne hk hk' hm hm'
    simp only at hk hk'
    by_cases hx : x = b
    · subst hx
      rw [hb] at hk; cases hk
      rw [hv, hnew] at hm; cases hm
      rw [hbs x' (fun e => hne e.symm)] at hk'
      rw [hold x' k' hk'] at hm'
      obtain ⟨cs, e, fr, hh, _⟩ := h.maps x' k'.ver B' o' (by rw [h.c]; exact (h.blk x' k' hk').1) hm'
      have := hap x' k' B' o' (fun e => hne e.symm) hk' hm' (Array.getElem?_eq_some_iff.1 hh).1
      exact ⟨this.1, this.2.1⟩
    · rw [hbs x hx] at hk
      rw [hold x k hk] at hm
      by_cases hx' : x' = b
      · subst hx'
        rw [hb] at hk'; cases hk'
        rw [hv, hnew] at hm'; cases hm'
        obtain ⟨cs, e, fr, hh, _⟩ := h.maps x k.ver B o (by rw [h.c]; exact (h.blk x k hk).1) hm
        have := hap x k B o hx hk hm (Array.getElem?_eq_some_iff.1 hh).1
        exact ⟨fun hs => this.2.2.1 hs, fun ht e => this.2.2.2 ht e⟩
      · rw [hbs x' hx'] at hk'
        rw [hold x' k' hk'] at hm'
        exact h.apart x k x' k' B o B' o' hne hk hk' hm hm'
  · intro x k hk
    by_cases hx : x = b
    · subst hx
      rw [hb] at hk; cases hk; exact h1c
    · rw [hbs x hx] at hk
      exact h.ones x k hk
  · intro x v B o hv' hm
    simp only [Cx.ext] at hv' hm
    split at hm
    · split at hm
      · simp at hm
        obtain ⟨rfl, rfl⟩ := hm
        exact ⟨cs', e', fr', hcells, by simp [Cx.ext]⟩
      · simp at hm
    · have hv2 : v < G.c := by omega
      obtain ⟨cs, e, fr, hh, hs⟩ := h.maps x v B o hv2 hm
      by_cases hB : B = Bn
      · subst hB
        exact ⟨cs', e', fr', hcells, by simp [Cx.ext]⟩
      · exact ⟨cs, e, fr, hother B _ hB hh, by rw [hsz x v B o hv2 hm]; exact hs⟩

/-- A store into a block that nobody else has. -/
theorem St.write {B0 w0 G H w} (h : St B0 w0 G H w) {b k B o cs e fr} (hk : H.bs[b]? = some k) (hs : k.solo = true) (hm : G.mu b k.ver = some (B, o))
    (hh : w.heap[B]? = some (.cells cs e fr)) (us : List AV) (ys : List Value) (hr : RVs G us ys) (h1c : us.all AV.one = true) (p : Nat) (hp : p + us.length ≤ k.cells.length) :
    fr = (0, 0) ∧ St B0 w0 G (H.put b { k with cells := setAll k.cells p us }) (w.setRow B (setAllV cs.toList (o + p) ys).toArray) := by
  obtain ⟨hv, B1, o1, hm1, hat, hB⟩ := h.blk b k hk
  rw [hm] at hm1; cases hm1
  obtain ⟨cs1, e1, fr1, hh1, hlen, hrv, hfr⟩ := hat
  rw [hh] at hh1; cases hh1
  have hfr0 := hfr (.inr hs)
  subst hfr0
  have hyl := hr.length
  have hbl : b < H.bs.length := (List.getElem?_eq_some_iff.1 hk).1
  have hput : ∀ x, (H.bs.set b { k with cells := setAll k.cells p us })[x]? = if x = b then some { k with cells := setAll k.cells p us } else H.bs[x]? := by
    intro x
    rw [List.getElem?_set]
    by_cases hx : b = x
    · subst hx; simp [hbl]
    · rw [if_neg hx, if_neg (fun e => hx e.symm)]
  have hne : ∀ x k', x ≠ b → H.bs[x]? = some k' → ∀ B' o', G.mu x k'.ver = some (B', o') → B' ≠ B := fun x k' hx hk' B' o' hm' => (h.apart b k x k' B o B' o' (fun e => hx e.symm) hk hk' hm hm').1 hs
  refine ⟨rfl, ⟨Below.setRow h.below (hB (.inr hs)) _, by rw [setRow_size]; exact h.base, h.c, ?_, ?_, ?_, ?_⟩⟩
  · intro x k' hk'
    simp only [Hp.put, hput] at hk' ⊢
    by_cases hx : x = b
    · subst hx
      simp only [if_true] at hk'
      cases hk'
      refine ⟨hv, B, o, hm, ⟨_, e, (0, 0), setRow_same w B _ cs e (0, 0) hh, ?_, ?_, fun _ => rfl⟩, hB⟩
      · simp only [length_setAll, List.size_toArray, length_setAllV, Array.length_toList]; exact hlen
      · have key : ((setAllV cs.toList (o + p) ys).drop o).take k.cells.length = setAllV ((cs.toList.drop o).take k.cells.length) p ys := by
          exact drop_setAllV _ _ _ _ _
        simp only [length_setAll, key]
        exact RVs.setAll p hrv hr
    · rw [if_neg hx] at hk'
      obtain ⟨i1, B', o', i2, i3, i4⟩ := h.blk x k' hk'
      exact ⟨i1, B', o', i2, i3.mono (Le.refl G) (setRow_ne w B B' _ (hne x k' hx hk' B' o' i2)), i4⟩
  · intro x k1 x' k2 X o1 X' o2 hxx hk1 hk2 hm1 hm2
    simp only [Hp.put, hput] at hk1 hk2
    have conv : ∀ (y : Nat) (q : Blk), (if y = b then some { k with cells := setAll k.cells p us } else H.bs[y]?) = some q → ∃ q0 : Blk, H.bs[y]? = some q0 ∧ q0.ver = q.ver ∧ q0.solo = q.solo ∧ q0.tail = q.tail ∧ q0.cells.length = q.cells.length := by
      intro y q hq
      split at hq
      · rename_i hy; subst hy; cases hq; exact ⟨k, hk, rfl, rfl, rfl, by simp [length_setAll]⟩
      · exact ⟨q, hq, rfl, rfl, rfl, rfl⟩
    obtain ⟨q1, a1, a2, a3, a4, a5⟩ := conv x k1 hk1
    obtain ⟨q2, b1, b2, b3, b4, b5⟩ := conv x' k2 hk2
    rw [← a2] at hm1
    rw [← b2] at hm2
    have := h.apart x q1 x' q2 X o1 X' o2 hxx a1 b1 hm1 hm2
    rw [← a3, ← a4, ← a5, ← b5, ← b4]
    exact this
  · intro x k' hk'
    simp only [Hp.put, hput] at hk'
    split at hk'
    · cases hk'
      exact all_setAll _ _ _ (h.ones b k hk) h1c
    · exact h.ones x k' hk'
  · intro x v X o' hv' hm'
    obtain ⟨c2, e2, f2, hh2, hs2⟩ := h.maps x v X o' hv' hm'
    by_cases hX : X = B
    · subst hX
      rw [hh] at hh2; cases hh2
      exact ⟨_, e, (0, 0), setRow_same w X _ cs e (0, 0) hh, by simp only [List.size_toArray, length_setAllV, Array.length_toList]; exact hs2⟩
    · exact ⟨c2, e2, f2, (setRow_ne w B X _ hX).trans hh2, hs2⟩

/-- Rights are let go. -/
theorem St.lower {B0 w0 G H w} (h : St B0 w0 G H w) {b k} (hk : H.bs[b]? = some k) : St B0 w0 G (H.put b { k with tail := false, solo := false }) w := by
  have hbl : b < H.bs.length := (List.getElem?_eq_some_iff.1 hk).1
  have conv : ∀ (y : Nat) (q : Blk), (H.bs.set b { k with tail := false, solo := false })[y]? = some q → ∃ q0 : Blk, H.bs[y]? = some q0 ∧ q0.ver = q.ver ∧ (q.solo = true → q0.solo = true) ∧ (q.tail = true → q0.tail = true) ∧ q0.cells = q.cells := by
    intro y q hq
    rw [List.getElem?_set] at hq
    split at hq
    · rename_i hy; subst hy
      cases hq; exact ⟨k, hk, rfl, fun e => by simp at e, fun e => by simp at e, rfl⟩
    · exact ⟨q, hq, rfl, id, id, rfl⟩
  refine ⟨h.below, h.base, h.c, ?_, ?_, fun x q hq => (by obtain ⟨q0, a1, _, _, _, a5⟩ := conv x q hq; rw [← a5]; exact h.ones x q0 a1), h.maps⟩
  · intro x q hq
    obtain ⟨q0, a1, a2, a3, a4, a5⟩ := conv x q hq
    obtain ⟨i1, B, o, i2, ⟨cs, e, fr, j1, j2, j3, j4⟩, i4⟩ := h.blk x q0 a1
    rw [a2] at i1 i2
    rw [a5] at j2 j3
    exact ⟨i1, B, o, i2, ⟨cs, e, fr, j1, j2, j3, fun hf => j4 (hf.imp a4 a3)⟩, fun hf => i4 (hf.imp a4 a3)⟩
  · intro x k1 x' k2 X o1 X' o2 hxx hk1 hk2 hm1 hm2
    obtain ⟨q1, a1, a2, a3, a4, a5⟩ := conv x k1 hk1
    obtain ⟨q2, b1, b2, b3, b4, b5⟩ := conv x' k2 hk2
    rw [← a2] at hm1
    rw [← b2] at hm2
    have := h.apart x q1 x' q2 X o1 X' o2 hxx a1 b1 hm1 hm2
    rw [← a5, ← b5]
    refine ⟨fun hf => this.1 (a3 hf), fun hf hB => ⟨?_, (this.2 (a4 hf) hB).2⟩⟩
    cases hq : k2.tail with
    | false => rfl
    | true => have := (this.2 (a4 hf) hB).1; rw [b4 hq] at this; cases this

end Go.Proofs.Ytokadkakmhfdeaa.Pq
