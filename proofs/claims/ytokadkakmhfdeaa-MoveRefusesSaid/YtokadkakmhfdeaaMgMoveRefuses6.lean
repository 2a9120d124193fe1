/- What the proof of a statement of this seat rests on, part 6: PqRow, PqRow2. -/
import Derived.WalkKit
import Derived.ProofKit
import Derived.OpenShut
import Derived.ShutString
import Derived.ChangeOld
import Derived.Below
import Derived.SizedLaws
import Derived.ChangeSlices
import Derived.Test.YtokadkakmhfdeaaMgMoveRefuses5
set_option linter.unusedVariables false
set_option linter.unusedSimpArgs false
set_option linter.unusedSectionVars false
namespace Go.Proofs.Ytokadkakmhfdeaa.Pq
open Go.RowKit
/- Rows: arguments as abstract values; the memory that a call finds. -/
open Go.ChangeShapes Go.WideShapes Go.ChangeAt Go.RowKit
/-- A slice argument as it came in: nothing, or cells of numbers. -/
def IsRow (w : World) (a : Option Addr) (len cap : Nat) (zs : List Int) : Prop :=
  (a = none ∧ len = 0 ∧ cap = 0 ∧ zs = []) ∨
  ∃ x, a = some x ∧ len ≤ cap ∧ zs.length = cap ∧ (∀ i, i < zs.length → w.cell? (x.add i) = some (.int .i64 (zs.getD i 0))) ∧ ∀ n ∈ zs, -9223372036854775808 ≤ n ∧ n < 9223372036854775808
/-- Every block came in: it is seen, not owned. -/
structure Seen (w : World) (G : Cx) (H : Hp) : Prop where
  st : St w.heap.size w G H w
  ns : ∀ (b : Nat) (k : Blk), H.bs[b]? = some k → k.solo = false ∧ k.tail = false
theorem Seen.wf {w : World} {G : Cx} {H : Hp} (h : Seen w G H) : Wf H := fun b k hk => (h.st.blk b k hk).1
theorem Seen.empty (w : World) : Seen w ⟨fun _ _ => none, fun _ => 0, 0⟩ ⟨[], 0⟩ := by
  refine ⟨⟨Below.refl _ w, Nat.le_refl _, rfl, ?_, ?_, ?_, ?_⟩, ?_⟩
  · intro b k h; simp at h
  · intro b k b' k' B o B' o' _ h; simp at h
  · intro b k h; simp at h
  · intro b v B o h; simp at h
  · intro b k h; simp at h
theorem Seen.share {w : World} {G : Cx} {H : Hp} (h : Seen w G H) (B o : Nat) (cs : Array Value) (e : TypeId) (fr : Nat × Nat) (hh : w.heap[B]? = some (.cells cs e fr)) (cells : List AV) (hlen : o + cells.length ≤ cs.size) (hr : RVs G cells ((cs.toList.drop o).take cells.length)) (h1 : cells.all AV.one = true) :
    ∃ G', Le G G' ∧ Seen w G' ⟨H.bs ++ [⟨H.c, cells, false, false⟩], H.c + 1⟩ ∧ G'.mu H.bs.length H.c = some (B, o) ∧ G'.sz B = cs.size ∧ G'.c = H.c + 1 := by
  have hc := h.st.c
  have hl : Le G (G.ext H.bs.length B o cs.size) := by
    refine ⟨Nat.le_succ _, fun x v hv => Cx.ext_mu_old G _ _ o _ x v hv, fun x v B' o' hv hm => ?_⟩
    obtain ⟨cs', e', fr', hh', hs⟩ := h.st.maps x v B' o' hv hm
    simp only [Cx.ext]
    split
    · rename_i hB
      subst hB
      rw [hh] at hh'
      cases hh'
      exact hs
    · rfl
  have hnew : (G.ext H.bs.length B o cs.size).mu H.bs.length H.c = some (B, o) := by rw [← hc]; exact Cx.ext_mu_new ..
  have hold : ∀ b k, H.bs[b]? = some k → (G.ext H.bs.length B o cs.size).mu b k.ver = G.mu b k.ver := fun b k hk => Cx.ext_mu_old _ _ _ _ _ _ _ (by rw [hc]; exact (h.st.blk b k hk).1)
  have hns : ∀ (b : Nat) (k : Blk), (H.bs ++ [⟨H.c, cells, false, false⟩])[b]? = some k → k.solo = false ∧ k.tail = false := by
    intro b k hk
    rcases Nat.lt_or_ge b H.bs.length with hb | hb
    · rw [List.getElem?_append_left hb] at hk; exact h.ns b k hk
    · rw [List.getElem?_append_right hb] at hk
      obtain ⟨_, rfl⟩ := List.getElem?_eq_some_iff.1 hk
      simp
  refine ⟨G.ext H.bs.length B o cs.size, hl, ⟨⟨h.st.below, h.st.base, by simp [Cx.ext, hc], ?_, ?_, ?_, ?_⟩, hns⟩, hnew, by simp [Cx.ext], by simp [Cx.ext, hc]⟩
  · intro b k hk
    rcases Nat.lt_or_ge b H.bs.length with hb | hb
    · rw [List.getElem?_append_left hb] at hk
      obtain ⟨g1, B', o', g2, g3, g4⟩ := h.st.blk b k hk
      exact ⟨Nat.lt_succ_of_lt g1, B', o', (hold b k hk).trans g2, g3.mono hl rfl, g4⟩
    · rw [List.getElem?_append_right hb] at hk
      have hlt := (List.getElem?_eq_some_iff.1 hk).1
      simp at hlt
      have hb' : b = H.bs.length := by omega
      subst hb'
      simp at hk
      subst hk
      exact ⟨Nat.lt_succ_self _, B, o, hnew, ⟨cs, e, fr, hh, hlen, hr.le hl, by simp⟩, by simp⟩
  · intro b k b' k' B1 o1 B2 o2 _ hk _ _ _
    have := hns b k hk
    simp [this.1, this.2]
  · intro b k hk
    rcases Nat.lt_or_ge b H.bs.length with hb | hb
    · rw [List.getElem?_append_left hb] at hk; exact h.st.ones b k hk
    · rw [List.getElem?_append_right hb] at hk
      obtain ⟨_, rfl⟩ := List.getElem?_eq_some_iff.1 hk
      simpa using h1
  · intro b v B' o' hv hm
    by_cases hvc : v = G.c
    · subst hvc
      simp only [Cx.ext, if_true] at hm
      split at hm
      · cases hm; exact ⟨cs, e, fr, hh, by simp [Cx.ext]⟩
      · cases hm
    · have hv' : v < G.c := by simp only [Cx.ext] at hv; omega
      rw [Cx.ext_mu_old _ _ _ _ _ _ _ hv'] at hm
      obtain ⟨cs', e', fr', hh', hs⟩ := h.st.maps b v B' o' hv' hm
      exact ⟨cs', e', fr', hh', by rw [hs, hl.sz b v B' o' hv' hm]⟩
theorem rvs_ints (G : Cx) : ∀ (zs : List Int) (vs : List Value), vs.length = zs.length → (∀ i : Nat, i < zs.length → vs[i]? = some (.int .i64 (zs.getD i 0))) → RVs G (zs.map (.int .i64)) vs := by
  intro zs
  induction zs with
  | nil => intro vs hl _; cases vs with | nil => exact .nil | cons _ _ => simp at hl
  | cons z zs ih =>
    intro vs hl h
    cases vs with
    | nil => simp at hl
    | cons v vs =>
      have h0 := h 0 (by simp)
      simp at h0
      subst h0
      refine .cons _ _ _ _ (.int _ _) (ih vs (by simpa using hl) fun i hi => ?_)
      simpa using h (i + 1) (by simpa using hi)
/-- One more slice of numbers comes in. -/
theorem Seen.ints {w : World} {G : Cx} {H : Hp} (h : Seen w G H) {a : Option Addr} {len cap : Nat} {zs : List Int} (hz : IsRow w a len cap zs) (hy : len * 8 ≤ 140737488351232) :
    ∃ av G' H', Le G G' ∧ Seen w G' H' ∧ Pre H H' ∧ RV G' av (.slice a len cap) ∧ Pq.ints H' av = some (zs.take len) ∧ ∀ j : Nat, j < (zs.take len).length → -9223372036854775808 ≤ nth (zs.take len) j ∧ nth (zs.take len) j < 9223372036854775808 := by
  rcases hz with ⟨rfl, rfl, rfl, rfl⟩ | ⟨x, rfl, hlc, hzl, hc, hr⟩
  · exact ⟨.nilS, G, H, Le.refl G, h, Pre.refl H, .nilS, rfl, by simp⟩
  · by_cases hz0 : cap = 0
    · subst hz0
      obtain rfl : len = 0 := by omega
      exact ⟨.mtS, G, H, Le.refl G, h, Pre.refl H, .mt2 x, by simp [Pq.ints], by simp⟩
    · have hcell : ∀ i, i < zs.length → ∃ cs e fr, w.heap[x.block]? = some (.cells cs e fr) ∧ (i = 0 → x.spot = none) ∧ cs[x.off + i]? = some (.int .i64 (zs.getD i 0)) := by
        intro i hi
        have hb : (x.add i).block = x.block := by unfold Addr.add; split <;> rfl
        have ho : (x.add i).off = x.off + i := by unfold Addr.add; split <;> simp_all
        have := hc i hi
        unfold World.cell? at this
        rw [hb, ho] at this
        split at this
        · rename_i cs e fr hh
          split at this
          · cases this
          · rename_i hs
            refine ⟨cs, e, fr, hh, ?_, this⟩
            rintro rfl
            simpa [Addr.add] using hs
        · cases this
      obtain ⟨cs, e, fr, hh, hs, _⟩ := hcell 0 (by omega)
      replace hs := hs rfl
      have hat : ∀ i, i < zs.length → cs[x.off + i]? = some (.int .i64 (zs.getD i 0)) := by
        intro i hi
        obtain ⟨cs', e', fr', hh', _, h2⟩ := hcell i hi
        rw [hh] at hh'
        cases hh'
        exact h2
      have hend : x.off + zs.length ≤ cs.size := by
        have := (Array.getElem?_eq_some_iff.1 (hat (zs.length - 1) (by omega))).1
        omega
      have hrv : RVs G (zs.map (AV.int .i64)) ((cs.toList.drop x.off).take (zs.map (AV.int .i64)).length) := by
        refine rvs_ints G zs _ (by simp; omega) fun i hi => ?_
        rw [List.length_map, List.getElem?_take, if_pos hi, List.getElem?_drop]
        have := hat i hi
        simpa using this
      obtain ⟨G', hl, hS, hm, hsz, hc'⟩ := h.share x.block x.off cs e fr hh (zs.map (AV.int .i64)) (by simpa using hend) hrv (by simp [AV.one])
      have hend' : x.off + cap * 1 ≤ G'.sz x.block := by rw [hsz, ← hzl]; omega
      refine ⟨.sl H.bs.length H.c 0 len 1 false, G', _, hl, hS, ?_, ?_, ?_, ?_⟩
      · intro b k hk
        rw [List.getElem?_append_left (List.getElem?_eq_some_iff.1 hk).1]; exact hk
      · refine .sl _ _ _ _ _ _ x.block x.off x cap (by omega) hm hlc (by simp) fun _ => ⟨?_, hend'⟩
        cases x
        simp at hs ⊢
        exact hs
      · have hb : (⟨H.bs ++ [⟨H.c, zs.map (AV.int .i64), false, false⟩], H.c + 1⟩ : Hp).at H.bs.length H.c = some ⟨H.c, zs.map (AV.int .i64), false, false⟩ := by
          simp [Hp.at]
        simp only [Pq.ints, hb]
        rw [if_pos ⟨trivial, by omega⟩, if_pos (by simp; omega), List.drop_zero, ← List.map_take, toInts_map]
      · intro j hj
        refine hr _ ?_
        have : nth (zs.take len) j = (zs.take len)[j] := by simp only [nth, Int.toNat_natCast, List.getD_eq_getElem?_getD, List.getElem?_eq_getElem hj, Option.getD_some]
        rw [this]
        exact List.mem_of_mem_take (List.getElem_mem hj)
/-- What a row's slice of numbers is, out of its reading. -/
theorem row_ints {H : Type} {enc : TypeId × Value → H} {P : Program} {W : World} {base : Nat} {held : Bool} {t e : TypeId} {a : Option Addr} {len cap : Nat} {d : DataW H} {ps : List MemPlace}
    (hu : P.underlying t = some (.slice e)) (he : P.underlying e = some (.int .i64)) (hc : P.cellsOf e = 1) (h : DataW.Trod enc P W base (fun _ => true) held t (.slice a len cap) d ps) : ∃ zs, IsRow W a len cap zs := by
  obtain ⟨fuel, hf⟩ := h
  rcases open_ints hu he hc hf with ⟨hcs, _⟩ | ⟨x, l, c, zs, hcs, _, hl, hm, hz, _, hcell, hwz⟩
  · simp [Value.cells] at hcs
    obtain ⟨rfl, rfl, rfl⟩ := hcs
    exact ⟨[], .inl ⟨rfl, rfl, rfl, rfl⟩⟩
  · simp [Value.cells] at hcs
    obtain ⟨rfl, rfl, rfl⟩ := hcs
    refine ⟨zs, .inr ⟨_, rfl, hl, by simpa using hz, hcell, fun n hn => ?_⟩⟩
    have := hwz n hn
    simp only [Lit.wf, IntKind.min, IntKind.max, IntKind.bits, IntKind.signed, Bool.and_eq_true, decide_eq_true_eq] at this
    simp at this
    omega
/-- How long it may be. -/
theorem row_size {H : Type} {enc : TypeId × Value → H} {P : Program} {W : World} {base : Nat} {held : Bool} {t e : TypeId} {a : Option Addr} {len cap : Nat} {d : DataW H} {ps : List MemPlace} {ts : List TypeId} {ds : List (DataW H)} {j : Nat}
    (hsz : (DataW.weightsEach P ts ds).all (· ≤ reachBytes) = true) (ht : ts[j]? = some t) (hd : ds[j]? = some d) (hu : P.underlying t = some (.slice e)) (he : P.underlying e = some (.int .i64)) (hc : P.cellsOf e = 1) (hB : P.bytesOf e = 8)
    (h : DataW.Trod enc P W base (fun _ => true) held t (.slice a len cap) d ps) : len * 8 ≤ 140737488351232 := by
  obtain ⟨fuel, hf⟩ := h
  rcases open_ints hu he hc hf with ⟨hcs, _⟩ | ⟨x, l, c, zs, hcs, _, hl, _, hz, hx, _, _⟩
  · simp [Value.cells] at hcs
    omega
  · simp [Value.cells] at hcs
    obtain ⟨rfl, rfl, rfl⟩ := hcs
    cases hx
    have z := sized_slice hsz ht hd hu
    rw [hB] at z
    simp only [lits, List.length_map, List.length_take, List.length_drop] at z
    have hz' : zs.length = cap := by simpa using hz
    have hrb : reachBytes = 140737488351232 := rfl
    omega
/- Rows: tensors, and lists of tensors, as they come in. -/
open Go.ChangeShapes Go.WideShapes Go.ChangeAt Go.RowKit
/-- A value that is a slice of numbers as it came in. -/
def RowI (w : World) (v : Value) : Prop := ∃ a len cap zs, v = .slice a len cap ∧ IsRow w a len cap zs ∧ len * 8 ≤ 140737488351232
theorem Seen.row {w : World} {G : Cx} {H : Hp} (h : Seen w G H) {v : Value} (hv : RowI w v) :
    ∃ av G' H', Le G G' ∧ Seen w G' H' ∧ Pre H H' ∧ RV G' av v ∧ ∃ l, Pq.ints H' av = some l ∧ ∀ j : Nat, j < l.length → -9223372036854775808 ≤ nth l j ∧ nth l j < 9223372036854775808 := by
  obtain ⟨a, len, cap, zs, rfl, hz, hy⟩ := hv
  obtain ⟨av, G', H', h1, h2, h3, h4, h5, h6⟩ := h.ints hz hy
  exact ⟨av, G', H', h1, h2, h3, h4, _, h5, h6⟩
theorem Seen.many {w : World} : ∀ (vs : List Value) {G : Cx} {H : Hp}, Seen w G H → (∀ v ∈ vs, RowI w v) →
    ∃ (avs : List AV) (G' : Cx) (H' : Hp), Le G G' ∧ Seen w G' H' ∧ Pre H H' ∧ RVs G' avs vs ∧ ∀ av ∈ avs, ∃ l, Pq.ints H' av = some l := by
  intro vs
  induction vs with
  | nil => intro G H h _; exact ⟨[], G, H, Le.refl G, h, Pre.refl H, .nil, by simp⟩
  | cons v vs ih =>
    intro G H h hv
    obtain ⟨av, G1, H1, e1, e2, e3, e4, l, e5, _⟩ := h.row (hv v (by simp))
    obtain ⟨avs, G2, H2, f1, f2, f3, f4, f5⟩ := ih e2 (fun x hx => hv x (by simp [hx]))
    refine ⟨av :: avs, G2, H2, e1.trans f1, f2, e3.trans f3, .cons _ _ _ _ (e4.le f1) f4, fun x hx => ?_⟩
    rcases List.mem_cons.1 hx with rfl | hx
    · exact ⟨l, ints_ext f3 e5⟩
    · exact f5 x hx
theorem ints_oneV {H : Hp} {v : AV} {l : List Int} (h : Pq.ints H v = some l) : v.one = true := by
  unfold Pq.ints at h
  split at h <;> first | rfl | (cases h; done)
/-- One more list of cells comes in: n elements of es cells. -/
theorem Seen.cells {w : World} {G : Cx} {H : Hp} (h : Seen w G H) {x : Addr} {n cap es : Nat} {vs : List Value} {avs : List AV} (he : es ≠ 0) (hc : ∀ i, i < vs.length → w.cell? (x.add i) = vs[i]?) (hv : vs.length = cap * es) (hn : n ≤ cap) (hr : RVs G avs (vs.take (n * es))) (h1 : avs.all AV.one = true) (hcap : cap ≠ 0) :
    ∃ G' H', Le G G' ∧ Seen w G' H' ∧ Pre H H' ∧ RV G' (.sl H.bs.length H.c 0 n es false) (.slice (some x) n cap) ∧ H'.at H.bs.length H.c = some ⟨H.c, avs, false, false⟩ := by
  have hpos : 0 < vs.length := by rw [hv]; exact Nat.mul_pos (by omega) (by omega)
  have hnl : n * es ≤ vs.length := by rw [hv]; exact Nat.mul_le_mul_right _ hn
  have hcell : ∀ i, i < vs.length → ∃ cs e fr, w.heap[x.block]? = some (.cells cs e fr) ∧ (i = 0 → x.spot = none) ∧ cs[x.off + i]? = vs[i]? := by
    intro i hi
    have hb : (x.add i).block = x.block := by unfold Addr.add; split <;> rfl
    have ho : (x.add i).off = x.off + i := by unfold Addr.add; split <;> simp_all
    have := hc i hi
    rw [List.getElem?_eq_getElem hi] at this ⊢
    unfold World.cell? at this
    rw [hb, ho] at this
    split at this
    · rename_i cs e fr hh
      split at this
      · cases this
      · rename_i hs
        refine ⟨cs, e, fr, hh, ?_, this⟩
        rintro rfl
        simpa [Addr.add] using hs
    · cases this
  obtain ⟨cs, e, fr, hh, hs, _⟩ := hcell 0 hpos
  replace hs := hs rfl
  have hat : ∀ i, i < vs.length → cs[x.off + i]? = vs[i]? := by
    intro i hi
    obtain ⟨cs', e', fr', hh', _, h2⟩ := hcell i hi
    rw [hh] at hh'
    cases hh'
    exact h2
  have hend : x.off + vs.length ≤ cs.size := by
    have := hat (vs.length - 1) (by omega)
    rw [List.getElem?_eq_getElem (by omega)] at this
    have := (Array.getElem?_eq_some_iff.1 this).1
    omega
  have hl := hr.length
  rw [List.length_take, Nat.min_eq_left hnl] at hl
  have hrv : RVs G avs ((cs.toList.drop x.off).take avs.length) := by
    have : (cs.toList.drop x.off).take avs.length = vs.take (n * es) := by
      refine List.ext_getElem? fun i => ?_
      rw [List.getElem?_take, List.getElem?_take, hl]
      split
      · rename_i hi
        rw [List.getElem?_drop]
        have := hat i (by omega)
        simpa using this
      · rfl
    rw [this]
    exact hr
  obtain ⟨G', hle, hS, hm, hsz, hc'⟩ := h.share x.block x.off cs e fr hh avs (by omega) hrv h1
  refine ⟨G', _, hle, hS, fun b k hk => ?_, ?_, by simp [Hp.at]⟩
  · rw [List.getElem?_append_left (List.getElem?_eq_some_iff.1 hk).1]; exact hk
  · refine .sl _ _ _ _ _ _ x.block x.off x cap (by omega) hm hn (by simp) fun _ => ⟨?_, by rw [hsz]; omega⟩
    cases x
    simp at hs ⊢
    exact hs
/-- A tensor as it came in. -/
def RowT (w : World) (cs : List Value) : Prop := ∃ v0 v1, cs = [v0, v1] ∧ RowI w v0 ∧ RowI w v1
/-- A list of tensors as it came in. -/
def RowL (w : World) (v : Value) : Prop := v = .slice none 0 0 ∨ ∃ (x : Addr) (len cap : Nat) (vs : List Value), v = .slice (some x) len cap ∧ len ≤ cap ∧ vs.length = cap * 2 ∧ (∀ i, i < vs.length → w.cell? (x.add i) = vs[i]?) ∧ (∀ u ∈ vs, RowI w u) ∧ len ≤ 2932031007402
theorem tensG_of {H : Hp} : ∀ (n : Nat) (avs : List AV), avs.length = n * 2 → (∀ av ∈ avs, ∃ l, Pq.ints H av = some l) → ∃ L, tensG H avs = some L := by
  intro n
  induction n with
  | zero => intro avs h _; have : avs = [] := List.eq_nil_of_length_eq_zero (by omega); subst this; exact ⟨[], rfl⟩
  | succ n ih =>
    intro avs h hi
    match avs, h with
    | [], h => simp at h
    | [_], h => simp at h; omega
    | x :: y :: avs, h =>
      obtain ⟨l, hl⟩ := hi x (by simp)
      obtain ⟨m, hm⟩ := hi y (by simp)
      obtain ⟨L, hL⟩ := ih avs (by simp at h; omega) (fun av hav => hi av (by simp [hav]))
      exact ⟨_, by simp only [tensG]; rw [tens_of hl hm, Option.bind_some, hL]; rfl⟩
theorem Seen.tens {w : World} {G : Cx} {H : Hp} (h : Seen w G H) {cs : Array Value} (hv : RowT w cs.toList) :
    ∃ av G' H', Le G G' ∧ Seen w G' H' ∧ Pre H H' ∧ RV G' av (.agg cs) ∧ ∃ p, Pq.tens H' av = some p := by
  obtain ⟨v0, v1, hcs, h0, h1⟩ := hv
  obtain ⟨a0, G1, H1, e1, e2, e3, e4, l0, e5, _⟩ := h.row h0
  obtain ⟨a1, G2, H2, f1, f2, f3, f4, l1, f5, _⟩ := e2.row h1
  refine ⟨.agg [a0, a1], G2, H2, e1.trans f1, f2, e3.trans f3, ?_, _, tens_of (ints_ext f3 e5) f5⟩
  have : cs = [v0, v1].toArray := by rw [← hcs]
  rw [this]
  exact .agg _ _ (.cons _ _ _ _ (e4.le f1) (.cons _ _ _ _ f4 .nil))
theorem Seen.tensL {w : World} {G : Cx} {H : Hp} (h : Seen w G H) {v : Value} (hv : RowL w v) :
    ∃ av G' H', Le G G' ∧ Seen w G' H' ∧ Pre H H' ∧ RV G' av v ∧ ∃ L, Pq.tensL H' av = some L := by
  rcases hv with rfl | ⟨x, len, cap, vs, rfl, hlc, hvl, hc, hr, hlen⟩
  · exact ⟨.nilS, G, H, Le.refl G, h, Pre.refl H, .nilS, [], rfl⟩
  · by_cases h0 : cap = 0
    · subst h0
      obtain rfl : len = 0 := by omega
      exact ⟨.mtS, G, H, Le.refl G, h, Pre.refl H, .mt2 x, [], rfl⟩
    · obtain ⟨avs, G1, H1, e1, e2, e3, e4, e5⟩ := Seen.many (vs.take (len * 2)) h (fun u hu => hr u (List.mem_of_mem_take hu))
      have h1 : avs.all AV.one = true := List.all_eq_true.2 fun av hav => by
        obtain ⟨l, hl⟩ := e5 av hav
        exact ints_oneV hl
      obtain ⟨G2, H2, f1, f2, f3, f4, f5⟩ := e2.cells (n := len) (by decide) hc hvl hlc e4 h1 h0
      have hal : avs.length = len * 2 := by
        have := e4.length
        rw [List.length_take] at this
        omega
      obtain ⟨L, hL⟩ := tensG_of (H := H2) len avs hal (fun av hav => by
        obtain ⟨l, hl⟩ := e5 av hav
        exact ⟨l, ints_ext f3 hl⟩)
      refine ⟨_, G2, H2, e1.trans f1, f2, e3.trans f3, f4, L, ?_⟩
      simp only [Pq.tensL, f5, Option.bind_some]
      rw [if_pos ⟨trivial, hlen⟩, if_pos (by omega), List.drop_zero, List.take_of_length_le (by omega)]
      exact hL
/-! ### out of a row's reading -/
section
variable {Hh : Type} {enc : TypeId × Value → Hh} {P : Program} {W : World} {base : Nat} {held : Bool} {fuel : Nat} {t e : TypeId} {cs : List Value} {x : DataW Hh × List MemPlace}
theorem row_ints1 (hu : P.underlying t = some (.slice e)) (he : P.underlying e = some (.int .i64)) (hc : P.cellsOf e = 1) (hB : P.bytesOf e = 8) (h : DataW.trod enc P W base (fun _ => true) held fuel t cs = some x) (hw : ∀ n ∈ x.1.weights P t, n ≤ reachBytes) : ∃ v, cs = [v] ∧ RowI W v := by
  rcases open_ints hu he hc h with ⟨rfl, _⟩ | ⟨a, len, cap, zs, rfl, _, hl, hm, hz, rfl, hcell, hwz⟩
  · exact ⟨_, rfl, none, 0, 0, [], rfl, .inl ⟨rfl, rfl, rfl, rfl⟩, by omega⟩
  · have hz' : zs.length = cap := by simpa using hz
    refine ⟨_, rfl, some a, len, cap, zs, rfl, .inr ⟨a, rfl, hl, hz', hcell, fun n hn => ?_⟩, ?_⟩
    · have := hwz n hn
      simp only [Lit.wf, IntKind.min, IntKind.max, IntKind.bits, IntKind.signed, Bool.and_eq_true, decide_eq_true_eq] at this
      simp at this
      omega
    · have := hw (((lits (H := Hh) .i64 (zs.take len)).length + (lits (H := Hh) .i64 (zs.drop len)).length) * P.bytesOf e) (by simp [DataW.weights, hu])
      rw [hB] at this
      simp only [lits, List.length_map, List.length_take, List.length_drop] at this
      have hrb : reachBytes = 140737488351232 := rfl
      omega
theorem row_tens1 {fs : Array Field} {f0 f1 : Field} {e0 e1 : TypeId} (ht : P.underlying t = some (.struct fs)) (hf : fs = #[f0, f1]) (h00 : f0.offset = 0) (h01 : f1.offset = 1) (hct : P.cellsOf t = 2) (hc0 : P.cellsOf f0.type = 1) (hc1 : P.cellsOf f1.type = 1)
    (hu0 : P.underlying f0.type = some (.slice e0)) (he0 : P.underlying e0 = some (.int .i64)) (hd0 : P.cellsOf e0 = 1) (hB0 : P.bytesOf e0 = 8)
    (hu1 : P.underlying f1.type = some (.slice e1)) (he1 : P.underlying e1 = some (.int .i64)) (hd1 : P.cellsOf e1 = 1) (hB1 : P.bytesOf e1 = 8)
    (h : DataW.trod enc P W base (fun _ => true) held fuel t cs = some x) (hw : ∀ n ∈ x.1.weights P t, n ≤ reachBytes) : RowT W cs := by
  subst hf
  obtain ⟨xs, n, _, rfl, hl, hxl, hx⟩ := DataW.trod_struct ht h
  rw [hct] at hl
  match cs, hl with
  | [u, v], _ =>
    have x0 := hx 0 f0 rfl
    have x1 := hx 1 f1 rfl
    simp only [h00, h01, hc0, hc1, List.drop_zero, List.take_succ_cons, List.take_zero, List.drop_succ_cons] at x0 x1
    match xs, hxl with
    | [y0, y1], _ =>
      simp only [List.getElem?_cons_zero, List.getElem?_cons_succ] at x0 x1
      have w0 : ∀ n ∈ y0.1.weights P f0.type, n ≤ reachBytes := fun n hn => hw n (by simp [DataW.weights, ht, DataW.weightsEach, hn])
      have w1 : ∀ n ∈ y1.1.weights P f1.type, n ≤ reachBytes := fun n hn => hw n (by simp [DataW.weights, ht, DataW.weightsEach, hn])
      obtain ⟨a, ea, ra⟩ := row_ints1 hu0 he0 hd0 hB0 x0 w0
      obtain ⟨b, eb, rb⟩ := row_ints1 hu1 he1 hd1 hB1 x1 w1
      cases ea
      cases eb
      exact ⟨_, _, rfl, ra, rb⟩
theorem weights_all {d : DataW Hh} : ∀ {l : List (DataW Hh)}, d ∈ l → ∀ n ∈ d.weights P e, n ∈ DataW.weightsAll P e l := by
  intro l
  induction l with
  | nil => intro h; simp at h
  | cons a l ih =>
    intro h n hn
    simp only [DataW.weightsAll, List.mem_append]
    rcases List.mem_cons.1 h with rfl | h
    · exact .inl hn
    · exact .inr (ih h n hn)
theorem row_tensL1 (hu : P.underlying t = some (.slice e)) (hc : P.cellsOf e = 2) (hB : P.bytesOf e = 48) (hT : ∀ (fuel : Nat) (cs : List Value) (x : DataW Hh × List MemPlace), DataW.trod enc P W base (fun _ => true) held fuel e cs = some x → (∀ n ∈ x.1.weights P e, n ≤ reachBytes) → RowT W cs)
    (h : DataW.trod enc P W base (fun _ => true) held fuel t cs = some x) (hw : ∀ n ∈ x.1.weights P t, n ≤ reachBytes) : ∃ v, cs = [v] ∧ RowL W v := by
  rcases DataW.trod_slice hu h with ⟨rfl, _⟩ | ⟨a, len, cap, elems, rest, n, _, rfl, rfl, hb, hl, hm, hlen, hel, hsp, hns⟩
  · exact ⟨_, rfl, .inl rfl⟩
  · obtain ⟨hrl, hr⟩ := hsp rfl
    have each : ∀ q, q < cap → ∃ u v, W.cell? (a.add (q * 2)) = some u ∧ W.cell? (a.add (q * 2 + 1)) = some v ∧ RowI W u ∧ RowI W v := by
      intro q hq
      have hex : ∃ y, (W.cells? base (a.add (q * P.cellsOf e)) (P.cellsOf e)).bind (DataW.trod enc P W base (fun _ => true) held n e) = some y ∧ (∀ m ∈ y.1.weights P e, m ≤ reachBytes) := by
        by_cases hi : q < len
        · have h1 := hel q hi
          rw [List.getElem?_eq_getElem (by omega)] at h1
          refine ⟨_, h1, fun m hm => hw m ?_⟩
          simp only [DataW.weights, hu, List.mem_cons, List.mem_append]
          exact .inr (.inl (weights_all (List.mem_map_of_mem (List.getElem_mem _)) m hm))
        · have h1 := hr (q - len) (by omega)
          rw [show len + (q - len) = q by omega, List.getElem?_eq_getElem (by omega)] at h1
          refine ⟨_, h1, fun m hm => hw m ?_⟩
          simp only [DataW.weights, hu, List.mem_cons, List.mem_append]
          exact .inr (.inr (weights_all (List.mem_map_of_mem (List.getElem_mem _)) m hm))
      obtain ⟨y, hy, hwy⟩ := hex
      obtain ⟨cs', hcs, hy'⟩ := Option.bind_eq_some_iff.1 hy
      rw [hc] at hcs
      obtain ⟨_, h2, h3⟩ := World.cells?_some hcs
      obtain ⟨u, v, rfl, ru, rv⟩ := hT n cs' y hy' hwy
      have g0 := h3 0 (by omega)
      have g1 := h3 1 (by omega)
      rw [Addr.add_add] at g0 g1
      exact ⟨u, v, by simpa using g0, by simpa using g1, ru, rv⟩
    refine ⟨_, rfl, .inr ⟨a, len, cap, (List.range (cap * 2)).map fun j => (W.cell? (a.add j)).getD undef, rfl, hl, by simp, fun i hi => ?_, fun u hu2 => ?_, ?_⟩⟩
    · simp only [List.length_map, List.length_range] at hi
      obtain ⟨u, v, c1, c2, _, _⟩ := each (i / 2) (by omega)
      have : W.cell? (a.add i) = some u ∨ W.cell? (a.add i) = some v := by
        rcases Nat.mod_two_eq_zero_or_one i with h | h
        · left; rw [← c1]; congr 2; omega
        · right; rw [← c2]; congr 2; omega
      simp only [List.getElem?_map, List.getElem?_range hi, Option.map_some]
      rcases this with h | h <;> simp [h]
    · simp only [List.mem_map, List.mem_range] at hu2
      obtain ⟨i, hi, rfl⟩ := hu2
      obtain ⟨u, v, c1, c2, r1, r2⟩ := each (i / 2) (by omega)
      rcases Nat.mod_two_eq_zero_or_one i with h | h
      · have : W.cell? (a.add i) = some u := by rw [← c1]; congr 2; omega
        rw [this]; exact r1
      · have : W.cell? (a.add i) = some v := by rw [← c2]; congr 2; omega
        rw [this]; exact r2
    · have := hw (((elems.map (·.1)).length + (rest.map (·.1)).length) * P.bytesOf e) (by simp [DataW.weights, hu])
      rw [hB] at this
      simp only [List.length_map] at this
      have hrb : reachBytes = 140737488351232 := rfl
      omega
end
end Go.Proofs.Ytokadkakmhfdeaa.Pq
