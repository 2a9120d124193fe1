/- What the proof of a statement of this seat rests on, part 9: PqRow. -/
import Derived.WalkKit
import Derived.ProofKit
import Derived.OpenShut
import Derived.ShutString
import Derived.ChangeOld
import Derived.Below
import Derived.SizedLaws
import Derived.ChangeSlices
import Derived.Test.YtokadkakmhfdeaaMgSplitNumbers8
set_option linter.unusedVariables false
set_option linter.unusedSimpArgs false
set_option linter.unusedSectionVars false
namespace Go.Proofs.Ytokadkakmhfdeaa.Pq
open Go.RowKit
/- Rows: arguments as abstract values; the memory that a call finds. -/
open Go.ChangeShapes Go.WideShapes Go.ChangeAt Go.RowKit
/-- A slice argument as it came in: nothing, or cells of numbers. -/
def IsRow (w : World) (a : Option Addr) (len cap : Nat) (zs : List Int) : Prop :=
  (a = none ∧ len = 0 ∧ cap = 0 ∧ zs = []) ∨
  ∃ x, a = some x ∧ len ≤ cap ∧ zs.length = cap ∧ (∀ i, i < zs.length → w.cell? (x.add i) = some (.int .i64 (zs.getD i 0))) ∧ ∀ n ∈ zs, -9223372036854775808 ≤ n ∧ n < 9223372036854775808
/-- Every block came in: it is seen, not owned. -/
structure Seen (w : World) (G : Cx) (H : Hp) : Prop where
  st : St w.heap.size w G H w
  ns : ∀ (b : Nat) (k : Blk), H.bs[b]? = some k → k.solo = false ∧ k.tail = false
theorem Seen.wf {w : World} {G : Cx} {H : Hp} (h : Seen w G H) : Wf H := fun b k hk => (h.st.blk b k hk).1
theorem Seen.empty (w : World) : Seen w ⟨fun _ _ => none, fun _ => 0, 0⟩ ⟨[], 0⟩ := by
  refine ⟨⟨Below.refl _ w, Nat.le_refl _, rfl, ?_, ?_, ?_, ?_⟩, ?_⟩
  · intro b k h; simp at h
  · intro b k b' k' B o B' o' _ h; simp at h
  · intro b k h; simp at h
  · intro b v B o h; simp at h
  · intro b k h; simp at h
theorem Seen.share {w : World} {G : Cx} {H : Hp} (h : Seen w G H) (B o : Nat) (cs : Array Value) (e : TypeId) (fr : Nat × Nat) (hh : w.heap[B]? = some (.cells cs e fr)) (cells : List AV) (hlen : o + cells.length ≤ cs.size) (hr : RVs G cells ((cs.toList.drop o).take cells.length)) (h1 : cells.all AV.one = true) :
    ∃ G', Le G G' ∧ Seen w G' ⟨H.bs ++ [⟨H.c, cells, false, false⟩], H.c + 1⟩ ∧ G'.mu H.bs.length H.c = some (B, o) ∧ G'.sz B = cs.size ∧ G'.c = H.c + 1 := by
  have hc := h.st.c
  have hl : Le G (G.ext H.bs.length B o cs.size) := by
    refine ⟨Nat.le_succ _, fun x v hv => Cx.ext_mu_old G _ _ o _ x v hv, fun x v B' o' hv hm => ?_⟩
    obtain ⟨cs', e', fr', hh', hs⟩ := h.st.maps x v B' o' hv hm
    simp only [Cx.ext]
    split
    · rename_i hB
      subst hB
      rw [hh] at hh'
      cases hh'
      exact hs
    · rfl
  have hnew : (G.ext H.bs.length B o cs.size).mu H.bs.length H.c = some (B, o) := by rw [← hc]; exact Cx.ext_mu_new ..
  have hold : ∀ b k, H.bs[b]? = some k → (G.ext H.bs.length B o cs.size).mu b k.ver = G.mu b k.ver := fun b k hk => Cx.ext_mu_old _ _ _ _ _ _ _ (by rw [hc]; exact (h.st.blk b k hk).1)
  have hns : ∀ (b : Nat) (k : Blk), (H.bs ++ [⟨H.c, cells, false, false⟩])[b]? = some k → k.solo = false ∧ k.tail = false := by
    intro b k hk
    rcases Nat.lt_or_ge b H.bs.length with hb | hb
    · rw [List.getElem?_append_left hb] at hk; exact h.ns b k hk
    · rw [List.getElem?_append_right hb] at hk
      obtain ⟨_, rfl⟩ := List.getElem?_eq_some_iff.1 hk
      simp
  refine ⟨G.ext H.bs.length B o cs.size, hl, ⟨⟨h.st.below, h.st.base, by simp [Cx.ext, hc], ?_, ?_, ?_, ?_⟩, hns⟩, hnew, by simp [Cx.ext], by simp [Cx.ext, hc]⟩
  · intro b k hk
    rcases Nat.lt_or_ge b H.bs.length with hb | hb
    · rw [List.getElem?_append_left hb] at hk
      obtain ⟨g1, B', o', g2, g3, g4⟩ := h.st.blk b k hk
      exact ⟨Nat.lt_succ_of_lt g1, B', o', (hold b k hk).trans g2, g3.mono hl rfl, g4⟩
    · rw [List.getElem?_append_right hb] at hk
      have hlt := (List.getElem?_eq_some_iff.1 hk).1
      simp at hlt
      have hb' : b = H.bs.length := by omega
      subst hb'
      simp at hk
      subst hk
      exact ⟨Nat.lt_succ_self _, B, o, hnew, ⟨cs, e, fr, hh, hlen, hr.le hl, by simp⟩, by simp⟩
  · intro b k b' k' B1 o1 B2 o2 _ hk _ _ _
    have := hns b k hk
    simp [this.1, this.2]
  · intro b k hk
    rcases Nat.lt_or_ge b H.bs.length with hb | hb
    · rw [List.getElem?_append_left hb] at hk; exact h.st.ones b k hk
    · rw [List.getElem?_append_right hb] at hk
      obtain ⟨_, rfl⟩ := List.getElem?_eq_some_iff.1 hk
      simpa using h1
  · intro b v B' o' hv hm
    by_cases hvc : v = G.c
    · subst hvc
      simp only [Cx.ext, if_true] at hm
      split at hm
      · cases hm; exact ⟨cs, e, fr, hh, by simp [Cx.ext]⟩
      · cases hm
    · have hv' : v < G.c := by simp only [Cx.ext] at hv; omega
      rw [Cx.ext_mu_old _ _ _ _ _ _ _ hv'] at hm
      obtain ⟨cs', e', fr', hh', hs⟩ := h.st.maps b v B' o' hv' hm
      exact ⟨cs', e', fr', hh', by rw [hs, hl.sz b v B' o' hv' hm]⟩
theorem rvs_ints (G : Cx) : ∀ (zs : List Int) (vs : List Value), vs.length = zs.length → (∀ i : Nat, i < zs.length → vs[i]? = some (.int .i64 (zs.getD i 0))) → RVs G (zs.map (.int .i64)) vs := by
  intro zs
  induction zs with
  | nil => intro vs hl _; cases vs with | nil => exact .nil | cons _ _ => simp at hl
  | cons z zs ih =>
    intro vs hl h
    cases vs with
    | nil => simp at hl
    | cons v vs =>
      have h0 := h 0 (by simp)
      simp at h0
      subst h0
      refine .cons _ _ _ _ (.int _ _) (ih vs (by simpa using hl) fun i hi => ?_)
      simpa using h (i + 1) (by simpa using hi)
/-- One more slice of numbers comes in. -/
theorem Seen.ints {w : World} {G : Cx} {H : Hp} (h : Seen w G H) {a : Option Addr} {len cap : Nat} {zs : List Int} (hz : IsRow w a len cap zs) (hy : len * 8 ≤ 140737488351232) :
    ∃ av G' H', Le G G' ∧ Seen w G' H' ∧ Pre H H' ∧ RV G' av (.slice a len cap) ∧ Pq.ints H' av = some (zs.take len) ∧ ∀ j : Nat, j < (zs.take len).length → -9223372036854775808 ≤ nth (zs.take len) j ∧ nth (zs.take len) j < 9223372036854775808 := by
  rcases hz with ⟨rfl, rfl, rfl, rfl⟩ | ⟨x, rfl, hlc, hzl, hc, hr⟩
  · exact ⟨.nilS, G, H, Le.refl G, h, Pre.refl H, .nilS, rfl, by simp⟩
  · by_cases hz0 : cap = 0
    · subst hz0
      obtain rfl : len = 0 := by omega
      exact ⟨.mtS, G, H, Le.refl G, h, Pre.refl H, .mt2 x, by simp [Pq.ints], by simp⟩
    · have hcell : ∀ i, i < zs.length → ∃ cs e fr, w.heap[x.block]? = some (.cells cs e fr) ∧ (i = 0 → x.spot = none) ∧ cs[x.off + i]? = some (.int .i64 (zs.getD i 0)) := by
        intro i hi
        have hb : (x.add i).block = x.block := by unfold Addr.add; split <;> rfl
        have ho : (x.add i).off = x.off + i := by unfold Addr.add; split <;> simp_all
        have := hc i hi
        unfold World.cell? at this
        rw [hb, ho] at this
        split at this
        · rename_i cs e fr hh
          split at this
          · cases this
          · rename_i hs
            refine ⟨cs, e, fr, hh, ?_, this⟩
            rintro rfl
            simpa [Addr.add] using hs
        · cases this
      obtain ⟨cs, e, fr, hh, hs, _⟩ := hcell 0 (by omega)
      replace hs := hs rfl
      have hat : ∀ i, i < zs.length → cs[x.off + i]? = some (.int .i64 (zs.getD i 0)) := by
        intro i hi
        obtain ⟨cs', e', fr', hh', _, h2⟩ := hcell i hi
        rw [hh] at hh'
        cases hh'
        exact h2
      have hend : x.off + zs.length ≤ cs.size := by
        have := (Array.getElem?_eq_some_iff.1 (hat (zs.length - 1) (by omega))).1
        omega
      have hrv : RVs G (zs.map (AV.int .i64)) ((cs.toList.drop x.off).take (zs.map (AV.int .i64)).length) := by
        refine rvs_ints G zs _ (by simp; omega) fun i hi => ?_
        rw [List.length_map, List.getElem?_take, if_pos hi, List.getElem?_drop]
        have := hat i hi
        simpa using this
      obtain ⟨G', hl, hS, hm, hsz, hc'⟩ := h.share x.block x.off cs e fr hh (zs.map (AV.int .i64)) (by simpa using hend) hrv (by simp [AV.one])
      have hend' : x.off + cap * 1 ≤ G'.sz x.block := by rw [hsz, ← hzl]; omega
      refine ⟨.sl H.bs.length H.c 0 len 1 false, G', _, hl, hS, ?_, ?_, ?_, ?_⟩
      · intro b k hk
        rw [List.getElem?_append_left (List.getElem?_eq_some_iff.1 hk).1]; exact hk
      · refine .sl _ _ _ _ _ _ x.block x.off x cap (by omega) hm hlc (by simp) fun _ => ⟨?_, hend'⟩
        cases x
        simp at hs ⊢
        exact hs
      · have hb : (⟨H.bs ++ [⟨H.c, zs.map (AV.int .i64), false, false⟩], H.c + 1⟩ : Hp).at H.bs.length H.c = some ⟨H.c, zs.map (AV.int .i64), false, false⟩ := by
          simp [Hp.at]
        simp only [Pq.ints, hb]
        rw [if_pos ⟨trivial, by omega⟩, if_pos (by simp; omega), List.drop_zero, ← List.map_take, toInts_map]
      · intro j hj
        refine hr _ ?_
        have : nth (zs.take len) j = (zs.take len)[j] := by simp only [nth, Int.toNat_natCast, List.getD_eq_getElem?_getD, List.getElem?_eq_getElem hj, Option.getD_some]
        rw [this]
        exact List.mem_of_mem_take (List.getElem_mem hj)
/-- What a row's slice of numbers is, out of its reading. -/
theorem row_ints {H : Type} {enc : TypeId × Value → H} {P : Program} {W : World} {base : Nat} {held : Bool} {t e : TypeId} {a : Option Addr} {len cap : Nat} {d : DataW H} {ps : List MemPlace}
    (hu : P.underlying t = some (.slice e)) (he : P.underlying e = some (.int .i64)) (hc : P.cellsOf e = 1) (h : DataW.Trod enc P W base (fun _ => true) held t (.slice a len cap) d ps) : ∃ zs, IsRow W a len cap zs := by
  obtain ⟨fuel, hf⟩ := h
  rcases open_ints hu he hc hf with ⟨hcs, _⟩ | ⟨x, l, c, zs, hcs, _, hl, hm, hz, _, hcell, hwz⟩
  · simp [Value.cells] at hcs
    obtain ⟨rfl, rfl, rfl⟩ := hcs
    exact ⟨[], .inl ⟨rfl, rfl, rfl, rfl⟩⟩
  · simp [Value.cells] at hcs
    obtain ⟨rfl, rfl, rfl⟩ := hcs
    refine ⟨zs, .inr ⟨_, rfl, hl, by simpa using hz, hcell, fun n hn => ?_⟩⟩
    have := hwz n hn
    simp only [Lit.wf, IntKind.min, IntKind.max, IntKind.bits, IntKind.signed, Bool.and_eq_true, decide_eq_true_eq] at this
    simp at this
    omega
/-- How long it may be. -/
theorem row_size {H : Type} {enc : TypeId × Value → H} {P : Program} {W : World} {base : Nat} {held : Bool} {t e : TypeId} {a : Option Addr} {len cap : Nat} {d : DataW H} {ps : List MemPlace} {ts : List TypeId} {ds : List (DataW H)} {j : Nat}
    (hsz : (DataW.weightsEach P ts ds).all (· ≤ reachBytes) = true) (ht : ts[j]? = some t) (hd : ds[j]? = some d) (hu : P.underlying t = some (.slice e)) (he : P.underlying e = some (.int .i64)) (hc : P.cellsOf e = 1) (hB : P.bytesOf e = 8)
    (h : DataW.Trod enc P W base (fun _ => true) held t (.slice a len cap) d ps) : len * 8 ≤ 140737488351232 := by
  obtain ⟨fuel, hf⟩ := h
  rcases open_ints hu he hc hf with ⟨hcs, _⟩ | ⟨x, l, c, zs, hcs, _, hl, _, hz, hx, _, _⟩
  · simp [Value.cells] at hcs
    omega
  · simp [Value.cells] at hcs
    obtain ⟨rfl, rfl, rfl⟩ := hcs
    cases hx
    have z := sized_slice hsz ht hd hu
    rw [hB] at z
    simp only [lits, List.length_map, List.length_take, List.length_drop] at z
    have hz' : zs.length = cap := by simpa using hz
    have hrb : reachBytes = 140737488351232 := rfl
    omega
end Go.Proofs.Ytokadkakmhfdeaa.Pq
