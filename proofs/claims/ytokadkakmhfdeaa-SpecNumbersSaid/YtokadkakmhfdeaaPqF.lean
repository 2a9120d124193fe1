/- Slices, places, append, copy. -/
import Derived.Test.YtokadkakmhfdeaaPqE
set_option linter.unusedVariables false
set_option linter.unusedSimpArgs false
namespace Go.Proofs.Ytokadkakmhfdeaa.Pq
open Go.RowKit

section
variable {P : Program} {T : Tab} {B0 : Nat} {w0 w : World} {G : Cx} {H : Hp}

theorem desc_slice (hT : TOK P T) {t e : Nat} (hd : Tab.d T t = .slice e) : P.underlying t = some (.slice e) := by
  obtain ⟨i, h1, h2⟩ := Tab.d_eq hd (by simp)
  have hu := (hT t i h1).desc
  simpa only [h2] using hu
theorem desc_str (hT : TOK P T) {t : Nat} (hd : Tab.d T t = .str) : P.underlying t = some .string := by
  obtain ⟨i, h1, h2⟩ := Tab.d_eq hd (by simp)
  have hu := (hT t i h1).desc
  simpa only [h2] using hu
theorem desc_int (hT : TOK P T) {t : Nat} {k : IntKind} (hd : Tab.d T t = .int k) : P.underlying t = some (.int k) := by
  obtain ⟨i, h1, h2⟩ := Tab.d_eq hd (by simp)
  have hu := (hT t i h1).desc
  simpa only [h2] using hu
theorem desc_array (hT : TOK P T) {t n e : Nat} (hd : Tab.d T t = .array n e) : P.underlying t = some (.array n e) := by
  obtain ⟨i, h1, h2⟩ := Tab.d_eq hd (by simp)
  have hu := (hT t i h1).desc
  simpa only [h2] using hu
theorem desc_struct (hT : TOK P T) {t : Nat} {fs : List (Nat × Nat)} (hd : Tab.d T t = .struct fs) : ∃ fields : Array Field, P.underlying t = some (.struct fields) ∧ ∀ (j : Nat) (p : Nat × Nat), fs[j]? = some p → ∃ f : Field, fields[j]? = some f ∧ f.offset = p.1 ∧ f.type = p.2 := by
  obtain ⟨i, h1, h2⟩ := Tab.d_eq hd (by simp)
  have hu := (hT t i h1).desc
  simp only [h2] at hu
  obtain ⟨fields, h3, h4, _⟩ := hu
  refine ⟨fields, h3, fun j p hp => ?_⟩
  rw [← h4] at hp
  simp only [List.getElem?_map, Option.map_eq_some_iff, Array.getElem?_toList] at hp
  obtain ⟨f, hf, rfl⟩ := hp
  exact ⟨f, hf, rfl, rfl⟩

theorem fieldAddr_ok (hT : TOK P T) {t f o b ver : Nat} {fs : List (Nat × Nat)} {p : Nat × Nat} {i : TI} (hd : Tab.d T t = .struct fs) (hp : fs[f]? = some p) (hi : T p.2 = some i) (h0 : i.size ≠ 0)
    {vx : Value} (hx : RV G (.ptr b ver o) vx) : ∃ v, (Instr.fieldAt t vx f).run P w = .ok v w ∧ RV G (.ptr b ver (o + p.1)) v := by
  obtain ⟨fields, h1, h2⟩ := desc_struct hT hd
  obtain ⟨fd, h3, h4, h5⟩ := h2 f p hp
  cases hx with | ptr _ _ _ B o' a1 a2 =>
  refine ⟨.pointer (some ⟨B, o' + (o + p.1), none⟩), ?_, .ptr _ _ _ _ _ a1 a2⟩
  have hsz := run_sizeOf (hT p.2 i hi) w
  simp only [Instr.fieldAt, Sem.run_bind, run_underlying h1, Result.andThen_ok, h3, Instr.sureAddr, Sem.run_pure, fieldPlace, h5, hsz, h0, if_false, Sem.run_ite, add_plain', h4]
  rw [Nat.add_assoc]

theorem part_ok (hT : TOK P T) {t off : Nat} {cs : List AV} {vs : List Value} {v' : AV} (hr : RVs G cs vs) (h : part T t cs off = some v') : ∃ v, (Go.part t vs.toArray off).run P w = .ok v w ∧ RV G v' v := by
  unfold part at h
  cases hi : T t with
  | none => simp [hi] at h
  | some i =>
    simp only [hi] at h
    have ht := hT t i hi
    have hagg := run_isAgg ht w
    have hsz := run_sizeOf ht w
    have hl := hr.length
    have aggc : off + i.size ≤ cs.length → (isAgg t).run P w = .ok true w → some (AV.agg ((cs.drop off).take i.size)) = some v' → ∃ v, (Go.part t vs.toArray off).run P w = .ok v w ∧ RV G v' v := by
      intro hle hag hv
      cases hv
      refine ⟨.agg ((vs.drop off).take i.size).toArray, ?_, .agg _ _ ((hr.drop off).take _)⟩
      simp only [Go.part, Sem.run_bind, hag, Result.andThen_ok, if_true, hsz, Sem.run_ite, Sem.run_pure]
      congr 2
      apply Array.ext'
      simp [List.extract_eq_take_drop]
    have onec : (isAgg t).run P w = .ok false w → cs[off]? = some v' → ∃ v, (Go.part t vs.toArray off).run P w = .ok v w ∧ RV G v' v := by
      intro hag hv
      obtain ⟨v, h1, h2⟩ := hr.get hv
      refine ⟨v, ?_, h2⟩
      simp only [Go.part, Sem.run_bind, hag, Result.andThen_ok, Bool.false_eq_true, if_false, Sem.run_ite]
      simp [h1]
    cases hd : i.d <;> simp only [hd] at h hagg <;> first
      | (split at h
         · exact aggc ‹_› hagg h
         · cases h)
      | exact onec hagg h

theorem field_ok (hT : TOK P T) {t f : Nat} {fs : List (Nat × Nat)} {p : Nat × Nat} {cs : List AV} {v' : AV} (hd : Tab.d T t = .struct fs) (hp : fs[f]? = some p) (hpart : part T p.2 cs p.1 = some v')
    {vx : Value} (hx : RV G (.agg cs) vx) : ∃ v, (Instr.field t vx f).run P w = .ok v w ∧ RV G v' v := by
  obtain ⟨fields, h1, h2⟩ := desc_struct hT hd
  obtain ⟨fd, h3, h4, h5⟩ := h2 f p hp
  cases hx with | agg _ vs hr =>
  obtain ⟨v, h6, h7⟩ := part_ok (w := w) hT hr hpart
  refine ⟨v, ?_, h7⟩
  simp only [Instr.field, Sem.run_bind, run_underlying h1, Result.andThen_ok, h3, asAgg, Sem.run_pure, h4, h5, h6]

theorem index_arr_ok (hT : TOK P T) {t n e : Nat} {ie : TI} {cs : List AV} {j : Int} {v' : AV} {k : IntKind} (hd : Tab.d T t = .array n e) (hi : T e = some ie) (h0 : 0 ≤ j) (h1 : j < n) (hpart : part T e cs (j.toNat * ie.size) = some v')
    {vx : Value} (hx : RV G (.agg cs) vx) : ∃ v, (Instr.index t vx (.int k j)).run P w = .ok v w ∧ RV G v' v := by
  cases hx with | agg _ vs hr =>
  obtain ⟨v, h6, h7⟩ := part_ok (w := w) hT hr hpart
  refine ⟨v, ?_, h7⟩
  simp only [Instr.index, Sem.run_bind, run_underlying (desc_array hT hd), Result.andThen_ok, asIntOf, Sem.run_pure, h0, h1, and_self, if_true, Sem.run_ite, run_sizeOf (hT e ie hi) w, h6]

theorem indexAddr_sl_ok (hT : TOK P T) {t e b ver o n es : Nat} {full : Bool} {ie : TI} {j : Int} {k : IntKind} (hd : Tab.d T t = .slice e) (hi : T e = some ie) (he : ie.size = es) (h0 : 0 ≤ j) (h1 : j < n)
    {vx : Value} (hx : RV G (.sl b ver o n es full) vx) : ∃ v, (Instr.indexAt t vx (.int k j)).run P w = .ok v w ∧ RV G (.ptr b ver (o + j.toNat * es)) v := by
  cases hx with | sl _ _ _ _ _ _ B o' A cap a1 a2 a3 a4 a5 =>
  obtain ⟨rfl, _⟩ := a5 (by omega)
  refine ⟨.pointer (some ⟨B, o' + (o + j.toNat * es), none⟩), ?_, .ptr _ _ _ _ _ a1 a2⟩
  simp only [Instr.indexAt, Sem.run_bind, run_underlying (desc_slice hT hd), Result.andThen_ok, asIntOf, Sem.run_pure, h0, h1, and_self, if_true, Sem.run_ite, run_sizeOf (hT e ie hi) w, add_plain', he]
  rw [Nat.add_assoc]

theorem indexAddr_arr_ok (hT : TOK P T) {t e b ver o n : Nat} {ie : TI} {j : Int} {k : IntKind} (hd : Tab.d T t = .array n e) (hi : T e = some ie) (h0 : 0 ≤ j) (h1 : j < n)
    {vx : Value} (hx : RV G (.ptr b ver o) vx) : ∃ v, (Instr.indexAt t vx (.int k j)).run P w = .ok v w ∧ RV G (.ptr b ver (o + j.toNat * ie.size)) v := by
  cases hx with | ptr _ _ _ B o' a1 a2 =>
  refine ⟨.pointer (some ⟨B, o' + (o + j.toNat * ie.size), none⟩), ?_, .ptr _ _ _ _ _ a1 a2⟩
  simp only [Instr.indexAt, Sem.run_bind, run_underlying (desc_array hT hd), Result.andThen_ok, asIntOf, Sem.run_pure, Instr.sureAddr, h0, h1, and_self, if_true, Sem.run_ite, run_sizeOf (hT e ie hi) w, add_plain']
  rw [Nat.add_assoc]

theorem sliceBound_ok {k : IntKind} {i : Int} {y : Nat} {c : BoundsCode} (h0 : 0 ≤ i) (h1 : i ≤ y) : (Instr.sliceBound (.int k i) y c).run P w = .ok i.toNat w := by
  simp [Instr.sliceBound, asIntOf, h0, h1]

inductive ROV (G : Cx) : Option AV → Option Value → Prop
  | none : ROV G none none
  | some (a v) : RV G a v → ROV G (some a) (some v)

theorem bnd_ok {d : Int} {lo : Option AV} {vl : Option Value} {l : Int} (hl : ROV G lo vl) (h : bnd d lo = some l) : (vl = none ∧ l = d) ∨ ∃ k, vl = some (.int k l) := by
  cases hl with
  | none => simp [bnd] at h; exact .inl ⟨rfl, h.symm⟩
  | some a v hv => cases hv <;> simp [bnd] at h <;> exact .inr ⟨_, by rw [h]⟩

theorem slice_ok (hT : TOK P T) {t e es : Nat} {ie : TI} {x v' : AV} {lo hi mx : Option AV} {vx : Value} {vl vh vm : Option Value} (hd : Tab.d T t = .slice e) (hie : T e = some ie) (hes : ie.size = es) (hx : RV G x vx)
    (hl : ROV G lo vl) (hh : ROV G hi vh) (hm : ROV G mx vm) (h : aslice es x lo hi mx = some v') : ∃ v, (Instr.sliceAt t vx vl vh vm).run P w = .ok v w ∧ RV G v' v := by
  have hu := desc_slice hT hd
  have hsz := run_sizeOf (hT e ie hie) w
  rw [hes] at hsz
  have tail : ∀ (b ver off n cap l m : Nat) (h' : Nat) (full' : Bool) (B o : Nat) (A : Addr), ver < G.c → G.mu b ver = some (B, o) → l ≤ h' → h' ≤ m → m ≤ cap → (full' = true → m = h') →
      (cap ≠ 0 → A = ⟨B, o + off, none⟩ ∧ o + off + cap * es ≤ G.sz B) → RV G (.sl b ver (off + l * es) (h' - l) es full') (.slice ((if m = l then some A else (some A).map (·.add (l * es)))) (h' - l) (m - l)) := by
    intro b ver off n cap l m h' full' B o A a1 a2 c1 c2 c3 c4 a5
    by_cases hml : m = l
    · rw [if_pos hml]
      exact .sl _ _ _ _ _ _ B o A _ a1 a2 (by omega) (fun hf => by have := c4 hf; omega) (fun hc => absurd hc (by omega))
    · rw [if_neg hml]
      obtain ⟨rfl, hs⟩ := a5 (by omega)
      refine .sl _ _ _ _ _ _ B o _ _ a1 a2 (by omega) (fun hf => by have := c4 hf; omega) (fun hc => ⟨by simp only [add_plain', Nat.add_assoc], ?_⟩)
      have : l * es + (m - l) * es ≤ cap * es := by rw [← Nat.add_mul]; exact Nat.mul_le_mul_right _ (by omega)
      omega
  unfold aslice at h
  cases hx
  case nilS =>
    simp only at h
    split at h
    · rename_i l h' hl1 hh1
      split at h
      · rename_i hc
        obtain ⟨rfl, rfl⟩ := hc
        cases h
        cases hm
        refine ⟨.slice none 0 0, ?_, .nilS⟩
        rcases bnd_ok hl hl1 with ⟨rfl, _⟩ | ⟨k1, rfl⟩ <;> rcases bnd_ok hh hh1 with ⟨rfl, _⟩ | ⟨k2, rfl⟩ <;>
          simp [Instr.sliceAt, run_underlying hu, Instr.slice, Instr.sliceBounds, sliceBound_ok, hsz]
      · cases h
    · cases h
  case mt1 =>
    simp only at h
    split at h
    · rename_i l h' hl1 hh1
      split at h
      · rename_i hc
        obtain ⟨rfl, rfl⟩ := hc
        cases h
        cases hm
        refine ⟨.slice none 0 0, ?_, .mt1⟩
        rcases bnd_ok hl hl1 with ⟨rfl, _⟩ | ⟨k1, rfl⟩ <;> rcases bnd_ok hh hh1 with ⟨rfl, _⟩ | ⟨k2, rfl⟩ <;>
          simp [Instr.sliceAt, run_underlying hu, Instr.slice, Instr.sliceBounds, sliceBound_ok, hsz]
      · cases h
    · cases h
  case mt2 x =>
    simp only at h
    split at h
    · rename_i l h' hl1 hh1
      split at h
      · rename_i hc
        obtain ⟨rfl, rfl⟩ := hc
        cases h
        cases hm
        refine ⟨.slice (some x) 0 0, ?_, .mt2 _⟩
        rcases bnd_ok hl hl1 with ⟨rfl, _⟩ | ⟨k1, rfl⟩ <;> rcases bnd_ok hh hh1 with ⟨rfl, _⟩ | ⟨k2, rfl⟩ <;>
          simp [Instr.sliceAt, run_underlying hu, Instr.slice, Instr.sliceBounds, sliceBound_ok, hsz]
      · cases h
    · cases h
  case sl b ver off n es' full B o A cap a1 a2 a3 a4 a5 =>
    simp only at h
    split at h
    · rename_i l h' hl1 hh1
      split at h
      · rename_i hc
        obtain ⟨rfl, c1, c2, c3⟩ := hc
        cases h
        cases hm
        have key := tail b ver off n cap l.toNat cap h'.toNat (full && decide (h' = n)) B o A a1 a2 (by omega) (by omega) (Nat.le_refl _) (fun hf => by
          simp only [Bool.and_eq_true, decide_eq_true_eq] at hf
          have := a4 hf.1; omega) a5
        refine ⟨_, ?_, key⟩
        have b1 : ∀ (c : BoundsCode) (k : IntKind), (Instr.sliceBound (.int k l) h'.toNat c).run P w = .ok l.toNat w := fun c k => sliceBound_ok c1 (by omega)
        have b2 : ∀ (c : BoundsCode) (k : IntKind), (Instr.sliceBound (.int k h') cap c).run P w = .ok h'.toNat w := fun c k => sliceBound_ok (by omega) (by omega)
        rcases bnd_ok hl hl1 with ⟨rfl, rfl⟩ | ⟨k1, rfl⟩ <;> rcases bnd_ok hh hh1 with ⟨rfl, rfl⟩ | ⟨k2, rfl⟩ <;>
          simp [Instr.sliceAt, run_underlying hu, Instr.slice, Instr.sliceBounds, b1, b2, hsz] <;> (try (simp at b1; simp [b1, hsz]))
      · cases h
    · rename_i l h' km m av hl1 hh1
      split at h
      · rename_i hc
        obtain ⟨rfl, c1, c2, c3, c4⟩ := hc
        subst c3
        cases h
        cases hm with | some _ vm hvm =>
        cases hvm
        have key := tail b ver off n cap l.toNat h'.toNat h'.toNat true B o A a1 a2 (by omega) (Nat.le_refl _) (by omega) (fun _ => rfl) a5
        refine ⟨_, ?_, key⟩
        have b1 : ∀ (c : BoundsCode) (k : IntKind), (Instr.sliceBound (.int k l) h'.toNat c).run P w = .ok l.toNat w := fun c k => sliceBound_ok c1 (by omega)
        have b2 : ∀ (c : BoundsCode) (k : IntKind), (Instr.sliceBound (.int k h') cap c).run P w = .ok h'.toNat w := fun c k => sliceBound_ok (by omega) (by omega)
        have b3 : ∀ (c : BoundsCode) (k : IntKind), (Instr.sliceBound (.int k h') h'.toNat c).run P w = .ok h'.toNat w := fun c k => sliceBound_ok (by omega) (by omega)
        cases hh with | some _ vh hvh =>
        rcases bnd_ok hl hl1 with ⟨rfl, rfl⟩ | ⟨k1, rfl⟩ <;> rcases bnd_ok (ROV.some _ _ hvh) hh1 with ⟨e1, _⟩ | ⟨k2, e2⟩ <;> first
          | cases e1; done
          | (cases e2; simp [Instr.sliceAt, run_underlying hu, Instr.slice, Instr.sliceBounds, b1, b2, b3, hsz])
      · cases h
    · cases h
  all_goals cases h

end
end Go.Proofs.Ytokadkakmhfdeaa.Pq
