/- Each operation of the executor does what the machine's does. -/
import Derived.Test.YtokadkakmhfdeaaPqB
import Derived.Laws.Build
set_option linter.unusedVariables false
set_option linter.unusedSimpArgs false
namespace Go.Proofs.Ytokadkakmhfdeaa.Pq
open Go.RowKit

/-- What the program's table of types says of a type. -/
structure TyOK (P : Program) (t : Nat) (i : TI) : Prop where
  info : ∃ q z, P.info? t = some q ∧ q.size = i.size ∧ q.bytes = i.bytes ∧ q.zero = some z ∧ (∀ G, RVs G i.zero z.cells.toList) ∧ i.zero.length = i.size ∧ i.zero.all AV.one = true
  desc : match i.d with
    | .bool => P.underlying t = some .bool
    | .int k => P.underlying t = some (.int k)
    | .str => P.underlying t = some .string
    | .slice e => P.underlying t = some (.slice e)
    | .array n e => P.underlying t = some (.array n e)
    | .struct fs => ∃ fields : Array Field, P.underlying t = some (.struct fields) ∧ fields.toList.map (fun f => (f.offset, f.type)) = fs ∧ fields.toList.all (fun f => (P.info? f.type).isSome) = true
    | .ptr e => P.underlying t = some (.pointer e)
    | .func => ∃ a b v, P.underlying t = some (.func a b v)
    | .other => ∃ d, P.underlying t = some d ∧ (match d with | .struct _ | .array _ _ => False | _ => True)
def TOK (P : Program) (T : Tab) : Prop := ∀ t i, T t = some i → TyOK P t i

section
variable {P : Program} {T : Tab} {B0 : Nat} {w0 w : World} {G : Cx} {H : Hp}

theorem Tab.d_eq {T : Tab} {t : Nat} {d : TD} (h : Tab.d T t = d) (hd : d ≠ .other) : ∃ i, T t = some i ∧ i.d = d := by
  unfold Tab.d at h
  cases hi : T t with
  | none => rw [hi] at h; exact absurd h.symm hd
  | some i => rw [hi] at h; exact ⟨i, rfl, h⟩

theorem run_isAgg {t : Nat} {i : TI} (h : TyOK P t i) (w : World) : (isAgg t).run P w = .ok (match i.d with | .struct _ | .array _ _ => true | _ => false) w := by
  have hd := h.desc
  unfold isAgg
  cases hi : i.d <;> simp only [hi] at hd <;> first
    | (obtain ⟨f, h1, _⟩ := hd; simp [underlying, h1]; done)
    | (obtain ⟨a, b, v, h1⟩ := hd; simp [underlying, h1]; done)
    | (simp [underlying, hd]; done)
    | (obtain ⟨d, h1, h2⟩ := hd; simp only [underlying, Sem.run_bind, run_program, Result.andThen_ok, h1, Sem.run_pure]; cases d <;> first | rfl | exact h2.elim)
theorem run_sizeOf {t : Nat} {i : TI} (h : TyOK P t i) (w : World) : (sizeOf t).run P w = .ok i.size w := by
  obtain ⟨q, z, h1, h2, _⟩ := h.info
  simp [sizeOf, typeInfo, h1, h2]
theorem run_zero {t : Nat} {i : TI} (h : TyOK P t i) (w : World) : ∃ z, (zeroValue t).run P w = .ok z w ∧ (∀ G, RVs G i.zero z.cells.toList) ∧ i.zero.all AV.one = true := by
  obtain ⟨q, z, h1, h2, h3, h4, h5, _, h6⟩ := h.info
  exact ⟨z, by simp [zeroValue, typeInfo, h1, h4], h5, h6⟩

def OkV (P : Program) (B0 : Nat) (w0 : World) (G : Cx) (w : World) (m : Sem Value) (v' : AV) (H' : Hp) : Prop :=
  ∃ v w' G', m.run P w = .ok v w' ∧ Le G G' ∧ St B0 w0 G' H' w' ∧ RV G' v' v

/-- The cells of an abstract block, seen by the machine. -/
theorem St.cellsAt (h : St B0 w0 G H w) {b ver B o : Nat} {k : Blk} (hk : H.at b ver = some k) (hm : G.mu b ver = some (B, o)) :
    ∃ cs e fr, w.heap[B]? = some (.cells cs e fr) ∧ o + k.cells.length ≤ cs.size ∧ RVs G k.cells ((cs.toList.drop o).take k.cells.length) ∧ (k.tail = true ∨ k.solo = true → fr = (0, 0)) ∧ cs.size = G.sz B := by
  obtain ⟨hk1, hv⟩ := Hp.at_some hk
  subst hv
  obtain ⟨h1, B', o', h2, ⟨cs, e, fr, h3, h4, h5, h6⟩, _⟩ := h.blk b k hk1
  rw [hm] at h2; cases h2
  obtain ⟨cs', e', fr', h7, h8⟩ := h.maps b k.ver B o (by rw [h.c]; exact h1) hm
  rw [h3] at h7; cases h7
  exact ⟨cs, e, fr, h3, h4, h5, h6, h8⟩

theorem add_plain' (B p j : Nat) : (⟨B, p, none⟩ : Addr).add j = ⟨B, p + j, none⟩ := by unfold Addr.add; split <;> simp_all

theorem run_loadCells_at {B : Nat} {cs : Array Value} {e fr} (hh : w.heap[B]? = some (.cells cs e fr)) (p n : Nat) (hp : p + n ≤ cs.size) :
    (loadCells ⟨B, p, none⟩ n).run P w = .ok ((cs.toList.drop p).take n).toArray w := by
  have := run_loadCells_list (P := P) w ⟨B, p, none⟩ ((cs.toList.drop p).take n) (fun j v hj => by
    rw [add_plain']
    simp only [List.getElem?_take, List.getElem?_drop] at hj
    split at hj
    · simp only [World.cell?, hh, Option.isSome_none, Bool.false_eq_true, if_false]; simpa using hj
    · cases hj)
  rwa [List.length_take, List.length_drop, Array.length_toList, Nat.min_eq_left (by omega)] at this

theorem run_cell_at {B : Nat} {cs : Array Value} {e fr} (hh : w.heap[B]? = some (.cells cs e fr)) (p : Nat) {v : Value} (hv : cs.toList[p]? = some v) :
    (load ⟨B, p, none⟩).run P w = .ok v w := by
  have : w.cell? ⟨B, p, none⟩ = some v := by simp only [World.cell?, hh, Option.isSome_none, Bool.false_eq_true, if_false]; simpa using hv
  simp [this]

theorem load_ok (hT : TOK P T) (h : St B0 w0 G H w) {t : Nat} {a v' : AV} {va : Value} (ha : RV G a va) (hl : aload T t a H = some v') : OkV P B0 w0 G w (Instr.loadAt t va) v' H := by
  unfold aload at hl
  split at hl
  · rename_i i b ver off hi
    cases ha with | ptr _ _ _ B o h1 h2 =>
    split at hl
    · rename_i k hk
      obtain ⟨cs, e, fr, hh, hlen, hrv, _⟩ := h.cellsAt hk h2
      have ht := hT t i hi
      have hagg := run_isAgg ht w
      have key : ∀ n, off + n ≤ k.cells.length → RVs G ((k.cells.drop off).take n) ((cs.toList.drop (o + off)).take n) := by
        intro n hn
        have := (hrv.drop off).take n
        rw [List.drop_take, List.take_take, List.drop_drop] at this
        rwa [Nat.min_eq_left (by omega)] at this
      have aggcase : off + i.size ≤ k.cells.length → (isAgg t).run P w = .ok true w → some (AV.agg ((k.cells.drop off).take i.size)) = some v' → OkV P B0 w0 G w (Instr.loadAt t (.pointer (some ⟨B, o + off, none⟩))) v' H := by
        intro hle hag hv
        cases hv
        refine ⟨.agg ((cs.toList.drop (o + off)).take i.size).toArray, w, G, ?_, Le.refl G, h, .agg _ _ (key _ hle)⟩
        simp [Instr.loadAt, Instr.sureAddr, loadVar, hag, run_sizeOf ht, run_loadCells_at hh (o + off) i.size (by omega)]
      have onecase : (isAgg t).run P w = .ok false w → k.cells[off]? = some v' → OkV P B0 w0 G w (Instr.loadAt t (.pointer (some ⟨B, o + off, none⟩))) v' H := by
        intro hag hv
        obtain ⟨v, hv1, hv2⟩ := hrv.get hv
        have hv3 : cs.toList[o + off]? = some v := by
          simp only [List.getElem?_take, List.getElem?_drop] at hv1
          split at hv1
          · exact hv1
          · cases hv1
        refine ⟨v, w, G, ?_, Le.refl G, h, hv2⟩
        simp only [Instr.loadAt, Instr.sureAddr, loadVar, Sem.run_bind, Sem.run_pure, Result.andThen_ok, hag, Bool.false_eq_true, if_false, Sem.run_ite]
        exact run_cell_at hh _ hv3
      cases hd : i.d <;> simp only [hd] at hl hagg <;> first
        | (split at hl
           · exact aggcase ‹_› hagg hl
           · cases hl)
        | exact onecase hagg hl
    · cases hl
  · cases hl

theorem run_storeVar {t : Nat} {i : TI} (ht : TyOK P t i) {B p : Nat} {cs : Array Value} {e} (hh : w.heap[B]? = some (.cells cs e (0, 0))) (v : Value) (hs : v.cells.size = i.size) (hp : p + i.size ≤ cs.size) (h1 : ∀ x ∈ v.cells.toList, x.oneCell' = true) :
    (storeVar t ⟨B, p, none⟩ v).run P w = .ok () (w.setRow B (setAllV cs.toList p v.cells.toList).toArray) := by
  have hst := run_storeCells_at P B p e v.cells.toList 0 cs w hh (by simpa [hs] using hp) h1
  rw [setAllV_eq _ _ _ (by simpa [hs] using hp)]
  simp only [Nat.add_zero] at hst
  simp only [storeVar, Sem.run_bind, run_sizeOf ht, Result.andThen_ok, hs, ne_eq, not_true, if_false, Sem.run_ite, Sem.run_pure]
  exact hst

theorem store_ok (hT : TOK P T) (h : St B0 w0 G H w) {t : Nat} {a x : AV} {va vx : Value} {H' : Hp} (ha : RV G a va) (hx : RV G x vx) (hl : astore T t a x H = some H') :
    ∃ w', (Instr.storeAt t va vx).run P w = .ok () w' ∧ St B0 w0 G H' w' := by
  unfold astore at hl
  split at hl
  · rename_i i b ver off hi
    cases ha with | ptr _ _ _ B o h1 h2 =>
    split at hl
    · rename_i k hk
      split at hl
      · rename_i hc
        obtain ⟨c1, c2, c3, c4⟩ := hc
        cases hl
        obtain ⟨cs, e, fr, hh, hlen, hrv, hfr, _⟩ := h.cellsAt hk h2
        obtain ⟨hk1, hv⟩ := Hp.at_some hk
        subst hv
        have hbad : x ≠ .bad := by rintro rfl; simp [AV.cells, AV.one] at c4
        have htup : ∀ cs, x ≠ .tup cs := by rintro cs rfl; simp [AV.cells, AV.one] at c4
        have hcells := hx.cells hbad htup
        obtain ⟨hf0, hst⟩ := h.write hk1 c1 h2 hh _ _ hcells c4 off (by omega)
        subst hf0
        have hsz : vx.cells.size = i.size := by have := hcells.length; simp at this; omega
        refine ⟨_, ?_, hst⟩
        simp only [Instr.storeAt, Instr.sureAddr, Sem.run_bind, Sem.run_pure, Result.andThen_ok]
        exact run_storeVar (hT t i hi) hh vx hsz (by omega) (hcells.one c4)
      · cases hl
    · cases hl
  · cases hl

theorem alloc_ok (hT : TOK P T) (h : St B0 w0 G H w) {t : Nat} {i : TI} (hi : T t = some i) :
    OkV P B0 w0 G w (Instr.alloc t true (.tuple #[])) (.ptr H.bs.length H.c 0) (H.new i.zero) := by
  obtain ⟨z, hz, hr, h1⟩ := run_zero (hT t i hi) w
  obtain ⟨G', hl, hst, hmu, _⟩ := h.alloc i.zero z.cells.toList t (hr G) h1
  refine ⟨.pointer (some ⟨w.heap.size, 0, none⟩), _, G', ?_, hl, hst, ?_⟩
  · simp [Instr.alloc, hz, newVar, newRow]
  · have := RV.ptr (G := G') H.bs.length H.c 0 w.heap.size 0 (by have := hst.c; simp [Hp.new] at this; omega) hmu
    simpa using this

theorem box_ok (h : St B0 w0 G H w) {t : Nat} {x : AV} {vx : Value} (hx : RV G x vx) (h1 : x.cells.all AV.one = true) :
    OkV P B0 w0 G w (Instr.box t vx) (.ptr H.bs.length H.c 0) (H.new x.cells) := by
  have hbad : x ≠ .bad := by rintro rfl; simp [AV.cells, AV.one] at h1
  have htup : ∀ cs, x ≠ .tup cs := by rintro cs rfl; simp [AV.cells, AV.one] at h1
  obtain ⟨G', hl, hst, hmu, _⟩ := h.alloc x.cells vx.cells.toList t (hx.cells hbad htup) h1
  refine ⟨.pointer (some ⟨w.heap.size, 0, none⟩), _, G', ?_, hl, hst, ?_⟩
  · simp [Instr.box, newVar, newRow]
  · have := RV.ptr (G := G') H.bs.length H.c 0 w.heap.size 0 (by have := hst.c; simp [Hp.new] at this; omega) hmu
    simpa using this

end
end Go.Proofs.Ytokadkakmhfdeaa.Pq
