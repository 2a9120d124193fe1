/- Regions that draw their order; code; functions. -/
import Derived.Test.YtokadkakmhfdeaaPqM
set_option linter.unusedVariables false
set_option linter.unusedSimpArgs false
namespace Go.Proofs.Ytokadkakmhfdeaa.Pq
open Go.RowKit

section
variable {P : Program} {T : Tab} {B0 : Nat} {w0 : World}
variable {E : Env} {share : Bool} {nt : Nat} {ops : Array Oper} {S : Nat → Sl} {Hh : Nat → Hp} {V : Nat → AV}

def Lst (ops : Array Oper) (listed : Array Bool) : Nat → Prop := fun i => i < ops.size ∧ listed.getD i false = true

theorem getD_set' (listed : Array Bool) (i k : Nat) (d : Bool) (h : i < listed.size) : (listed.setIfInBounds i true).getD k d = if k = i then true else listed.getD k d := by
  simp only [Array.getD_eq_getD_getElem?, Array.getElem?_setIfInBounds]
  by_cases hk : i = k
  · subst hk; simp [h]
  · rw [if_neg hk, if_neg (fun e => hk e.symm)]

theorem draws_any (hT : TOK P T) (hE : EOK P E) (tr : Trace E T share nt ops S Hh V) {Q : Exit → Act → World → Prop} : ∀ (fuel : Nat) (listed : Array Bool) (a : Act) (w : World) (G : Cx) (s : Sl) (H : Hp), listed.size = ops.size →
    Closed ops (Lst ops listed) → SlotX nt ops S V (Lst ops listed) s → MemX E ops Hh (Lst ops listed) H → St B0 w0 G H w → RF' nt G s a → ((List.range ops.size).filter fun i => !listed.getD i false).length ≤ fuel →
    (∀ a' w' G', Le G G' → St B0 w0 G' (Hh ops.size) w' → RF' nt G' (S ops.size) a' → a'.defers = a.defers → Q .normal a' w') → wpAny P .any ops Q fuel listed a w := by
  have hdone : ∀ (listed : Array Bool) (a : Act) (w : World) (G : Cx) (s : Sl) (H : Hp), SlotX nt ops S V (Lst ops listed) s → MemX E ops Hh (Lst ops listed) H → St B0 w0 G H w → RF' nt G s a →
      (∀ i, i < ops.size → listed.getD i false = true) → (∀ a' w' G', Le G G' → St B0 w0 G' (Hh ops.size) w' → RF' nt G' (S ops.size) a' → a'.defers = a.defers → Q .normal a' w') → Q .normal a w := by
    intro listed a w G s H hs hm hst hrf hall hk
    have hH : H = Hh ops.size := by
      obtain ⟨m, h1, rfl, h3⟩ := hm
      have := tr.mem_const (ops.size - m) m (by omega) (fun e he hh => by
        have := (h3 e he).1 ⟨by omega, hall e (by omega)⟩; omega)
      rw [show m + (ops.size - m) = ops.size by omega] at this
      exact this.symm
    have hS : ∀ t, get s t = get (S ops.size) t := by
      intro t
      rcases hs t with ⟨p, p1, p2, p3, p4⟩ | ⟨p1, p2⟩ <;> rcases tr.slot t ops.size (Nat.le_refl _) with ⟨q, q1, q2, q3, q4⟩ | ⟨q1, q2⟩
      · have h1 := p3 q ⟨q1, hall q q1⟩ q2
        have h2 := q3 p p1.1 p2
        rw [p4, q4, show p = q by omega]
      · exact absurd p2 (q1 p p1.1)
      · exact absurd q2 (p1 q ⟨q1, hall q q1⟩)
      · rw [p2, q2]
    subst hH
    exact hk a w G (Le.refl G) hst ⟨fun t => by rw [← hS t]; exact hrf.1 t, hrf.2⟩ rfl
  have hready0 : ∀ listed : Array Bool, listed.size = ops.size → Region.ready .any ops listed = [] → ∀ i, i < ops.size → listed.getD i false = true := by
    intro listed hsz h0 i
    induction i using Nat.strongRecOn with
    | _ i ih =>
      intro hi
      cases hl : listed.getD i false with
      | true => rfl
      | false =>
        exfalso
        obtain ⟨o, ho⟩ : ∃ o, ops[i]? = some o := ⟨_, Array.getElem?_eq_getElem hi⟩
        have : i ∈ Region.ready .any ops listed := by
          refine mem_ready.2 ⟨?_, o, ho, fun e he hb => ?_⟩
          · simp only [Array.getD_eq_getD_getElem?] at hl ⊢
            rw [Array.getElem?_eq_getElem (by omega)] at hl ⊢
            exact hl
          · have := (lexA_spec tr.lex).1 i o ho e he hb
            exact ih e.on this (by omega)
        rw [h0] at this
        cases this
  intro fuel
  induction fuel with
  | zero =>
    intro listed a w G s H hsz hcl hs hm hst hrf hcount hk
    have hall : ∀ i, i < ops.size → listed.getD i false = true := by
      intro i hi
      have h0 : (List.range ops.size).filter (fun i => !listed.getD i false) = [] := List.eq_nil_of_length_eq_zero (by omega)
      rw [List.filter_eq_nil_iff] at h0
      have := h0 i (List.mem_range.2 hi)
      simpa using this
    refine ⟨?_, hdone listed a w G s H hs hm hst hrf hall hk⟩
    apply List.eq_nil_iff_forall_not_mem.2
    intro i hi
    obtain ⟨h1, o, ho, _⟩ := mem_ready.1 hi
    have hil := (Array.getElem?_eq_some_iff.1 ho).1
    have := hall i hil
    simp only [Array.getD_eq_getD_getElem?] at h1 this
    rw [Array.getElem?_eq_getElem (by omega)] at h1 this
    simp at h1 this
    rw [this] at h1; cases h1
  | succ fuel ih =>
    intro listed a w G s H hsz hcl hs hm hst hrf hcount hk
    refine ⟨fun h0 => hdone listed a w G s H hs hm hst hrf (hready0 listed hsz h0) hk, fun i hi => ?_⟩
    obtain ⟨h1, o, ho, hpre⟩ := mem_ready.1 hi
    have hil := (Array.getElem?_eq_some_iff.1 ho).1
    have hli : listed.getD i false = false := by
      simp only [Array.getD_eq_getD_getElem?] at h1 ⊢
      rw [Array.getElem?_eq_getElem (by omega)] at h1 ⊢
      exact h1
    have hni : ¬ Lst ops listed i := fun h => by rw [h.2] at hli; cases hli
    have hready : ∀ e ∈ o.after, Region.binds .any e = true → Lst ops listed e.on := by
      intro e he hb
      refine ⟨?_, hpre e he hb⟩
      have := (lexA_spec tr.lex).1 i o ho e he hb
      omega
    obtain ⟨H', hv, hs', hm'⟩ := tr.now ho hcl (fun k hk => hk.1) hni hready hs hm
    have hX : ∀ k, Lst ops (listed.setIfInBounds i true) k ↔ (Lst ops listed k ∨ k = i) := by
      intro k
      unfold Lst
      rw [getD_set' listed i k false (by omega)]
      by_cases hk : k = i
      · subst hk; simp [hil]
      · simp [hk]
    have hXe : (fun k => Lst ops listed k ∨ k = i) = Lst ops (listed.setIfInBounds i true) := by
      funext k; exact propext (hX k).symm
    rw [hXe] at hs' hm'
    unfold wpOp
    rw [ho]
    simp only
    refine xop_ok hT hE (s' := aput nt o.dst (V i) s) (H' := H') hst hrf (by rw [xop_val, hv]; rfl) fun a' w' G' g1 g2 g3 g4 => ?_
    refine ih (listed.setIfInBounds i true) a' w' G' _ H' (by simp [hsz]) ?_ hs' hm' g2 g3 ?_ fun a2 w2 G2 e1 e2 e3 e4 => hk a2 w2 G2 (g1.trans e1) e2 e3 (e4.trans g4)
    · intro k ok hk hok e he hb
      rw [hX] at hk ⊢
      rcases hk with hk | hk
      · exact .inl (hcl k ok hk hok e he hb)
      · subst hk
        rw [ho] at hok; cases hok
        exact .inl (hready e he hb)
    · have hlt : ((List.range ops.size).filter fun k => !(listed.setIfInBounds i true).getD k false).length < ((List.range ops.size).filter fun k => !listed.getD k false).length := by
        have hsub : ∀ l : List Nat, (l.filter fun k => !(listed.setIfInBounds i true).getD k false) = (l.filter fun k => !listed.getD k false).filter fun k => k != i := by
          intro l
          rw [List.filter_filter]
          congr 1
          funext k
          rw [getD_set' listed i k false (by omega)]
          by_cases hk : k = i <;> simp [hk]
        rw [hsub]
        refine List.length_filter_lt_length_iff_exists.2 ⟨i, List.mem_filter.2 ⟨List.mem_range.2 hil, by simp [hli]⟩, by simp⟩
      omega

/-- The trace's list. -/
theorem xtr_spec : ∀ (l : List Oper) (s : Sl) (H : Hp) (tr : List (Sl × Hp)), xtr E T share nt ops l s H = some tr →
    tr.length = l.length + 1 ∧ (tr[0]?) = some (s, H) ∧ ∀ i o, l[i]? = some o → ∃ s1 H1 v H2, tr[i]? = some (s1, H1) ∧ xval E T share ops o s1 H1 = some (v, H2) ∧ tr[i + 1]? = some (aput nt o.dst v s1, H2) := by
  intro l
  induction l with
  | nil =>
    intro s H tr h
    simp [xtr] at h; subst h
    exact ⟨rfl, rfl, fun i o h => by simp at h⟩
  | cons o l ih =>
    intro s H tr h
    simp only [xtr] at h
    split at h
    · rename_i s' H' h1
      obtain ⟨tr', h2, rfl⟩ := Option.map_eq_some_iff.1 h
      obtain ⟨i1, i2, i3⟩ := ih s' H' tr' h2
      rw [xop_val] at h1
      obtain ⟨r, hr, he⟩ := Option.map_eq_some_iff.1 h1
      cases he
      refine ⟨by simp [i1], rfl, fun i o' ho => ?_⟩
      cases i with
      | zero =>
        simp at ho; subst ho
        exact ⟨s, H, r.1, r.2, rfl, hr, by simpa using i2⟩
      | succ i => simpa using i3 i o' (by simpa using ho)
    · cases h

/-- What has to be seen again. -/
def Restab (E : Env) (T : Tab) (share : Bool) (ops : Array Oper) (tr : List (Sl × Hp)) : List (Nat × Nat) → Prop
  | [] => True
  | (q, k) :: l =>
    (match ops[q]?, tr[q]?, tr[k]? with
      | some o, some (sq, Hq), some (_, Hk) => (xval E T share ops o sq Hk).map (·.1) = (xval E T share ops o sq Hq).map (·.1)
      | _, _, _ => False) ∧ Restab E T share ops tr l

theorem Restab.mem {tr : List (Sl × Hp)} : ∀ {l : List (Nat × Nat)}, Restab E T share ops tr l → ∀ q k, (q, k) ∈ l →
    ∃ o sq Hq sk Hk, ops[q]? = some o ∧ tr[q]? = some (sq, Hq) ∧ tr[k]? = some (sk, Hk) ∧ (xval E T share ops o sq Hk).map (·.1) = (xval E T share ops o sq Hq).map (·.1) := by
  intro l
  induction l with
  | nil => intro _ q k h; cases h
  | cons p l ih =>
    intro h q k hm
    obtain ⟨q', k'⟩ := p
    simp only [Restab] at h
    rcases List.mem_cons.1 hm with e | hm
    · cases e
      have h1 := h.1
      split at h1
      · rename_i o sq Hq sk Hk a1 a2 a3
        exact ⟨o, sq, Hq, sk, Hk, a1, a2, a3, h1⟩
      · exact h1.elim
    · exact ih h.2 q k hm

theorem draw_ok (hT : TOK P T) (hE : EOK P E) (hmix : P.follows .mixedOrders = true) {id : Nat} {s : Sl} {H : Hp} {a : Act} {w : World} {G : Cx} {Q : Exit → Act → World → Prop} {tr : List (Sl × Hp)}
    (htr : xtr E T share nt ops ops.toList s H = some tr) (hlex : lexA ops = true) (hchain : chainA E ops = true) (hstab : Restab E T share ops tr (recs E ops)) (hst : St B0 w0 G H w) (hrf : RF' nt G s a)
    {s' : Sl} {H' : Hp} (hfin : tr[ops.size]? = some (s', H')) (hk : ∀ a' w' G', Le G G' → St B0 w0 G' H' w' → RF' nt G' s' a' → a'.defers = a.defers → Q .normal a' w') : (Code.region id ops true).wp P Q a w := by
  obtain ⟨h1, h2, h3⟩ := xtr_spec ops.toList s H tr htr
  let S : Nat → Sl := fun i => ((tr[i]?).getD default).1
  let Hh : Nat → Hp := fun i => ((tr[i]?).getD default).2
  let V : Nat → AV := fun i => match ops[i]? with
    | some o => ((xval E T share ops o (S i) (Hh i)).getD default).1
    | none => .bad
  have hstep : ∀ i o, ops[i]? = some o → xval E T share ops o (S i) (Hh i) = some (V i, Hh (i + 1)) ∧ S (i + 1) = aput nt o.dst (V i) (S i) := by
    intro i o ho
    obtain ⟨s1, H1, v, H2, a1, a2, a3⟩ := h3 i o (by simpa using ho)
    have hS : S i = s1 := by simp only [S, a1, Option.getD_some]
    have hH : Hh i = H1 := by simp only [Hh, a1, Option.getD_some]
    have hS' : S (i + 1) = aput nt o.dst v s1 := by simp only [S, a3, Option.getD_some]
    have hH' : Hh (i + 1) = H2 := by simp only [Hh, a3, Option.getD_some]
    have hV : V i = v := by simp only [V, ho, hS, hH, a2, Option.getD_some]
    rw [hS, hH, hS', hH', hV]
    exact ⟨a2, rfl⟩
  have trc : Trace E T share nt ops S Hh V := by
    refine ⟨hstep, hlex, hchain, fun q k o hm ho => ?_⟩
    obtain ⟨o', sq, Hq, sk, Hk, a1, a2, a3, a4⟩ := hstab.mem q k hm
    rw [ho] at a1; cases a1
    have hS : S q = sq := by simp only [S, a2, Option.getD_some]
    have hHq : Hh q = Hq := by simp only [Hh, a2, Option.getD_some]
    have hHk : Hh k = Hk := by simp only [Hh, a3, Option.getD_some]
    have hv := (hstep q o ho).1
    rw [hS, hHq] at hv
    rw [hv] at a4
    simp only [Option.map_some] at a4
    obtain ⟨r, hr1, hr2⟩ := Option.map_eq_some_iff.1 a4
    have hq : quietOp E o = true := by
      unfold recs at hm
      obtain ⟨q', hq', hm2⟩ := List.mem_flatMap.1 hm
      obtain ⟨e, he, hm3⟩ := List.mem_flatMap.1 hm2
      have : q' = q := by
        split at hm3
        · simp at hm3; exact hm3.1.symm
        · split at hm3
          · simp at hm3; exact hm3.1.symm
          · simp at hm3
      subst this
      obtain ⟨o', h1, h2⟩ := mem_quiets.1 hq'
      rw [ho] at h1; cases h1
      exact h2
    obtain ⟨r1, r2⟩ := r
    simp only at hr2
    have := quietOp_same hq hr1
    rw [hS, hHk, hr1, this, hr2]
  have hS0 : S 0 = s := by simp only [S, h2, Option.getD_some]
  have hH0 : Hh 0 = H := by simp only [Hh, h2, Option.getD_some]
  have hSn : S ops.size = s' := by simp only [S, hfin, Option.getD_some]
  have hHn : Hh ops.size = H' := by simp only [Hh, hfin, Option.getD_some]
  refine wp_region_any hmix ?_
  have hno : ∀ i, (Array.replicate ops.size false).getD i false = false := by
    intro i
    simp only [Array.getD_eq_getD_getElem?, Array.getElem?_replicate]
    split <;> rfl
  refine draws_any hT hE trc ops.size _ a w.drew G s H (by simp) ?_ ?_ ?_ hst.drew hrf (Nat.le_trans (List.length_filter_le _ _) (by simp)) ?_
  · rintro i o ⟨_, hi⟩
    rw [hno] at hi; cases hi
  · intro t
    refine .inr ⟨?_, by rw [hS0]⟩
    rintro k ⟨_, hk⟩
    rw [hno] at hk; cases hk
  · refine ⟨0, by omega, hH0.symm, fun e he => ⟨?_, fun h => by omega⟩⟩
    rintro ⟨_, hk⟩
    rw [hno] at hk; cases hk
  · intro a' w' G' g1 g2 g3 g4
    rw [hHn] at g2
    rw [hSn] at g3
    exact hk a' w' G' g1 g2 g3 g4

end
end Go.Proofs.Ytokadkakmhfdeaa.Pq
