/- What a function hands back: its new blocks are named anew, the rest that it made is let go; functions are sound. -/
import Derived.Test.YtokadkakmhfdeaaPqP
set_option linter.unusedVariables false
set_option linter.unusedSimpArgs false
namespace Go.Proofs.Ytokadkakmhfdeaa.Pq
open Go.RowKit

def pos : List (Nat × Nat) → Nat → Nat → Nat → Option Nat
  | [], _, _, _ => none
  | p :: l, i, b, ver => if b = p.1 ∧ ver = p.2 then some i else pos l (i + 1) b ver
/-- Where a block is in the end. -/
def relR (L c : Nat) (js : List (Nat × Nat)) (b ver : Nat) : Option (Nat × Nat) :=
  if ver < c then some (b, ver) else (pos js 0 b ver).map fun i => (L + i, c + i)

mutual
def AV.rel (L c : Nat) (js : List (Nat × Nat)) : AV → AV
  | .sl b ver off n es full => (match relR L c js b ver with | some p => .sl p.1 p.2 off n es full | none => .bad)
  | .ptr b ver off => (match relR L c js b ver with | some p => .ptr p.1 p.2 off | none => .bad)
  | .agg cs => .agg (rels L c js cs)
  | .tup vs => .tup (rels L c js vs)
  | .func g caps => .func g (rels L c js caps)
  | .int k n => .int k n
  | .bool b => .bool b
  | .str s => .str s
  | .nilS => .nilS
  | .mtS => .mtS
  | .nilP => .nilP
  | .nilF => .nilF
  | .nilI => .nilI
  | .bad => .bad
def rels (L c : Nat) (js : List (Nat × Nat)) : List AV → List AV
  | [] => []
  | a :: l => a.rel L c js :: rels L c js l
end

theorem pos_some {b ver : Nat} : ∀ (js : List (Nat × Nat)) (i k : Nat), pos js i b ver = some k → i ≤ k ∧ js[k - i]? = some (b, ver) := by
  intro js
  induction js with
  | nil => intro i k h; cases h
  | cons p l ih =>
    intro i k h
    simp only [pos] at h
    split at h
    · rename_i hp
      cases h
      exact ⟨Nat.le_refl _, by simp [hp.1, hp.2]⟩
    · obtain ⟨h1, h2⟩ := ih _ _ h
      refine ⟨by omega, ?_⟩
      rw [show k - i = (k - (i + 1)) + 1 by omega]
      simpa using h2

theorem rels_eq (L c : Nat) (js : List (Nat × Nat)) (l : List AV) : rels L c js l = l.map (AV.rel L c js) := by
  induction l with
  | nil => rfl
  | cons a l ih => simp [rels, ih]

section
variable {L c : Nat} {js : List (Nat × Nat)} {G G2 G' : Cx}

mutual
theorem RV.rel (hm : ∀ b ver p, relR L c js b ver = some p → ver < G2.c → G'.mu p.1 p.2 = G2.mu b ver ∧ p.2 < G'.c) (hs : G'.sz = G2.sz) : ∀ {a v}, RV G2 a v → RV G' (a.rel L c js) v
  | _, _, .bad v => .bad v
  | _, _, .int k n => .int k n
  | _, _, .bool b => .bool b
  | _, _, .str s => .str s
  | _, _, .nilS => .nilS
  | _, _, .mt1 => .mt1
  | _, _, .mt2 x => .mt2 x
  | _, _, .nilP => .nilP
  | _, _, .nilF => .nilF
  | _, _, .nilI => .nilI
  | _, _, .sl b ver off n es full B o A cap h1 h2 h3 h4 h5 => by
    simp only [AV.rel]
    cases hr : relR L c js b ver with
    | none => exact .bad _
    | some p =>
      obtain ⟨e1, e2⟩ := hm b ver p hr h1
      exact .sl p.1 p.2 off n es full B o A cap e2 (e1.trans h2) h3 h4 (by rw [hs]; exact h5)
  | _, _, .ptr b ver off B o h1 h2 => by
    simp only [AV.rel]
    cases hr : relR L c js b ver with
    | none => exact .bad _
    | some p =>
      obtain ⟨e1, e2⟩ := hm b ver p hr h1
      exact .ptr p.1 p.2 off B o e2 (e1.trans h2)
  | _, _, .agg cs vs h => .agg _ vs (RVs.rel hm hs h)
  | _, _, .tup cs vs h => .tup _ vs (RVs.rel hm hs h)
  | _, _, .func g cs vs h => .func g _ vs (RVs.rel hm hs h)
theorem RVs.rel (hm : ∀ b ver p, relR L c js b ver = some p → ver < G2.c → G'.mu p.1 p.2 = G2.mu b ver ∧ p.2 < G'.c) (hs : G'.sz = G2.sz) : ∀ {a v}, RVs G2 a v → RVs G' (rels L c js a) v
  | _, _, .nil => .nil
  | _, _, .cons a v as vs h1 h2 => .cons _ _ _ _ (RV.rel hm hs h1) (RVs.rel hm hs h2)
end

mutual
theorem RV.rel_old (hc : G.c ≤ c) : ∀ {a v}, RV G a v → a.rel L c js = a
  | _, _, .bad v => rfl
  | _, _, .int k n => rfl
  | _, _, .bool b => rfl
  | _, _, .str s => rfl
  | _, _, .nilS => rfl
  | _, _, .mt1 => rfl
  | _, _, .mt2 x => rfl
  | _, _, .nilP => rfl
  | _, _, .nilF => rfl
  | _, _, .nilI => rfl
  | _, _, .sl b ver off n es full B o A cap h1 h2 h3 h4 h5 => by
    simp only [AV.rel, relR]; rw [if_pos (Nat.lt_of_lt_of_le h1 hc)]
  | _, _, .ptr b ver off B o h1 h2 => by
    simp only [AV.rel, relR]; rw [if_pos (Nat.lt_of_lt_of_le h1 hc)]
  | _, _, .agg cs vs h => by simp only [AV.rel]; rw [RVs.rel_old hc h]
  | _, _, .tup cs vs h => by simp only [AV.rel]; rw [RVs.rel_old hc h]
  | _, _, .func g cs vs h => by simp only [AV.rel]; rw [RVs.rel_old hc h]
theorem RVs.rel_old (hc : G.c ≤ c) : ∀ {a v}, RVs G a v → rels L c js a = a
  | _, _, .nil => rfl
  | _, _, .cons a v as vs h1 h2 => by simp only [rels]; rw [RV.rel_old hc h1, RVs.rel_old hc h2]
end
end

theorem rel_one {L c : Nat} {js : List (Nat × Nat)} (a : AV) (h : a.one = true) (hb : a.rel L c js ≠ .bad) : (a.rel L c js).one = true := by
  cases a <;> simp only [AV.rel] at hb ⊢ <;> first
    | exact h
    | (split at hb <;> first | rfl | exact absurd rfl hb)
    | rfl

/-- Each block is of a version that was. -/
def Wf (H : Hp) : Prop := ∀ (b : Nat) (k : Blk), H.bs[b]? = some k → k.ver < H.c
/-- What was there is there. -/
def Pre (H H2 : Hp) : Prop := ∀ (b : Nat) (k : Blk), H.bs[b]? = some k → H2.bs[b]? = some k
/-- The blocks js are what is new; what was there stands as it is told. -/
structure Can (H H2 H' : Hp) (r2 r : AV) (js : List (Nat × Nat)) : Prop where
  c : H'.c = H.c + js.length
  len : H'.bs.length = H.bs.length + js.length
  old : ∀ b, b < H.bs.length → ∃ k, H2.bs[b]? = some k ∧ k.ver < H.c ∧ H'.bs[b]? = some k ∧ (H.bs[b]? = some k ∨ rels H.bs.length H.c js k.cells = k.cells)
  new : ∀ i j ver, js[i]? = some (j, ver) → H.c ≤ ver ∧ ∃ k, H2.bs[j]? = some k ∧ k.ver = ver ∧ H'.bs[H.bs.length + i]? = some ⟨H.c + i, rels H.bs.length H.c js k.cells, k.tail, k.solo⟩
  nodup : js.Nodup
  good : ∀ i k, H'.bs[H.bs.length + i]? = some k → .bad ∉ k.cells
  r : r2.rel H.bs.length H.c js = r

theorem Can.st {H H2 H' : Hp} {r2 r : AV} {js : List (Nat × Nat)} (h : Can H H2 H' r2 r js) {B0 : Nat} {w0 : World} {G G2 : Cx} {w w' : World} (h0 : St B0 w0 G H w) (h2 : St B0 w0 G2 H2 w') (hl : Le G G2) {v : Value} (hr : RV G2 r2 v) :
    ∃ G', Le G G' ∧ St B0 w0 G' H' w' ∧ RV G' r v := by
  let mu' : Nat → Nat → Option (Nat × Nat) := fun b v => if v < H.c then G.mu b v else match js[v - H.c]? with
    | some p => if b = H.bs.length + (v - H.c) then G2.mu p.1 p.2 else none
    | none => none
  let G' : Cx := ⟨mu', G2.sz, H.c + js.length⟩
  have hGc : G.c = H.c := h0.c
  have hle : Le G G' := by
    refine ⟨by show G.c ≤ H.c + js.length; omega, fun b v hv => ?_, fun b v B o hv hm => hl.sz b v B o hv hm⟩
    show mu' b v = _
    simp only [mu']; rw [if_pos (by omega)]
  have hnew : ∀ i j ver, js[i]? = some (j, ver) → G'.mu (H.bs.length + i) (H.c + i) = G2.mu j ver := by
    intro i j ver hi
    show mu' _ _ = _
    simp only [mu']
    rw [if_neg (by omega), show H.c + i - H.c = i by omega, hi]
    simp
  have hm : ∀ b ver p, relR H.bs.length H.c js b ver = some p → ver < G2.c → G'.mu p.1 p.2 = G2.mu b ver ∧ p.2 < G'.c := by
    intro b ver p hp _
    unfold relR at hp
    split at hp
    · rename_i hv
      cases hp
      refine ⟨?_, by show ver < H.c + js.length; omega⟩
      rw [hle.mu b ver (by omega), hl.mu b ver (by omega)]
    · obtain ⟨i, hi, rfl⟩ := Option.map_eq_some_iff.1 hp
      obtain ⟨_, h3⟩ := pos_some js 0 i hi
      rw [Nat.sub_zero] at h3
      refine ⟨hnew i b ver h3, ?_⟩
      have := (List.getElem?_eq_some_iff.1 h3).1
      show H.c + i < H.c + js.length
      omega
  have hsz : G'.sz = G2.sz := rfl
  -- what a block of the end is
  have hcase : ∀ b k, H'.bs[b]? = some k → (b < H.bs.length ∧ k.ver < H.c ∧ H2.bs[b]? = some k ∧ (H.bs[b]? = some k ∨ rels H.bs.length H.c js k.cells = k.cells) ∧ G'.mu b k.ver = G2.mu b k.ver) ∨
      (∃ i j ver k2, b = H.bs.length + i ∧ js[i]? = some (j, ver) ∧ H.c ≤ ver ∧ H2.bs[j]? = some k2 ∧ k2.ver = ver ∧ k = ⟨H.c + i, rels H.bs.length H.c js k2.cells, k2.tail, k2.solo⟩ ∧ G'.mu b k.ver = G2.mu j k2.ver) := by
    intro b k hk
    by_cases hb : b < H.bs.length
    · obtain ⟨k', e1, e2, e3, e4⟩ := h.old b hb
      rw [e3] at hk; cases hk
      refine .inl ⟨hb, e2, e1, e4, ?_⟩
      rw [hle.mu b _ (by omega), hl.mu b _ (by omega)]
    · have hlt := (List.getElem?_eq_some_iff.1 hk).1
      rw [h.len] at hlt
      obtain ⟨i, rfl⟩ : ∃ i, b = H.bs.length + i := ⟨b - H.bs.length, by omega⟩
      have hi : i < js.length := by omega
      obtain ⟨⟨j, ver⟩, hj⟩ : ∃ p, js[i]? = some p := ⟨_, List.getElem?_eq_getElem hi⟩
      obtain ⟨e1, k2, e2, e3, e4⟩ := h.new i j ver hj
      rw [e4] at hk; cases hk
      exact .inr ⟨i, j, ver, k2, rfl, hj, e1, e2, e3, rfl, by rw [e3]; exact hnew i j ver hj⟩
  -- its place among what was made
  have hsrc : ∀ b k, H'.bs[b]? = some k → ∃ j k2, H2.bs[j]? = some k2 ∧ G'.mu b k.ver = G2.mu j k2.ver ∧ k.tail = k2.tail ∧ k.solo = k2.solo ∧ k.cells.length = k2.cells.length ∧ (j = b ∧ k2.ver < H.c ∨ ∃ i, b = H.bs.length + i ∧ js[i]? = some (j, k2.ver) ∧ H.c ≤ k2.ver) := by
    intro b k hk
    rcases hcase b k hk with ⟨e1, e2, e3, _, e5⟩ | ⟨i, j, ver, k2, e1, e2, e3, e4, e5, e6, e7⟩
    · exact ⟨b, k, e3, e5, rfl, rfl, rfl, .inl ⟨rfl, e2⟩⟩
    · refine ⟨j, k2, e4, e7, by rw [e6], by rw [e6], by rw [e6, rels_eq]; simp, .inr ⟨i, e1, by rw [e5]; exact e2, by omega⟩⟩
  refine ⟨G', hle, ?_, h.r ▸ RV.rel hm hsz hr⟩
  refine ⟨h2.below, h2.base, by show H.c + js.length = H'.c; rw [h.c], ?_, ?_, ?_, ?_⟩
  · intro b k hk
    rcases hcase b k hk with ⟨e1, e2, e3, e4, e5⟩ | ⟨i, j, ver, k2, e1, e2, e3, e4, e5, e6, e7⟩
    · obtain ⟨g1, B, o, g2, ⟨cs, e, fr, g3, g4, g5, g6⟩, g7⟩ := h2.blk b k e3
      refine ⟨by rw [h.c]; omega, B, o, by rw [e5]; exact g2, ⟨cs, e, fr, g3, g4, ?_, g6⟩, g7⟩
      have hh := RVs.rel (L := H.bs.length) (c := H.c) (js := js) hm hsz g5
      rcases e4 with e4 | e4
      · obtain ⟨_, B', o', _, ⟨cs', _, _, _, _, g8, _⟩, _⟩ := h0.blk b k e4
        rwa [RVs.rel_old (by omega) g8] at hh
      · rwa [e4] at hh
    · obtain ⟨g1, B, o, g2, ⟨cs, e, fr, g3, g4, g5, g6⟩, g7⟩ := h2.blk j k2 e4
      have hi := (List.getElem?_eq_some_iff.1 e2).1
      refine ⟨by rw [h.c, e6]; show H.c + i < _; omega, B, o, by rw [e7]; exact g2, ⟨cs, e, fr, g3, ?_, ?_, ?_⟩, ?_⟩
      · rw [e6, rels_eq]; simpa using g4
      · rw [e6]
        have hh := RVs.rel (L := H.bs.length) (c := H.c) (js := js) hm hsz g5
        rw [show (rels H.bs.length H.c js k2.cells).length = k2.cells.length by rw [rels_eq]; simp]
        exact hh
      · rw [e6]; exact g6
      · rw [e6]; exact g7
  · intro b k b' k' B o B' o' hne hk hk' hmu hmu'
    obtain ⟨j, k2, a1, a2, a3, a4, a5, a6⟩ := hsrc b k hk
    obtain ⟨j', k2', c1, c2, c3, c4, c5, c6⟩ := hsrc b' k' hk'
    have hjj : j ≠ j' := by
      intro e
      subst e
      rw [a1] at c1; cases c1
      rcases a6 with ⟨rfl, a6⟩ | ⟨i, rfl, a6, a7⟩ <;> rcases c6 with ⟨rfl, c6⟩ | ⟨i', rfl, c6, c7⟩
      · exact hne rfl
      · omega
      · omega
      · have : i = i' := by
          have hi := (List.getElem?_eq_some_iff.1 a6).1
          exact (List.getElem?_inj hi h.nodup).1 (a6.trans c6.symm)
        exact hne (by rw [this])
    have := h2.apart j k2 j' k2' B o B' o' hjj a1 c1 (a2 ▸ hmu) (c2 ▸ hmu')
    rw [a3, a4, a5, c3, c5]
    exact this
  · intro b k hk
    rcases hcase b k hk with ⟨e1, e2, e3, _, e5⟩ | ⟨i, j, ver, k2, e1, e2, e3, e4, e5, e6, e7⟩
    · exact h2.ones b k e3
    · have hg := h.good i k (e1 ▸ hk)
      have ho := h2.ones j k2 e4
      rw [e6] at hg ⊢
      simp only [rels_eq] at hg ⊢
      rw [List.all_eq_true] at ho ⊢
      intro x hx
      obtain ⟨y, hy, rfl⟩ := List.mem_map.1 hx
      exact rel_one y (ho y hy) fun e => hg (e ▸ hx)
  · intro b v B o hv hmu
    by_cases hvc : v < H.c
    · have e1 : G'.mu b v = G2.mu b v := by rw [hle.mu b v (by omega), hl.mu b v (by omega)]
      exact h2.maps b v B o (Nat.lt_of_lt_of_le (by omega) hl.c) (e1 ▸ hmu)
    · have : mu' b v = some (B, o) := hmu
      simp only [mu'] at this
      rw [if_neg hvc] at this
      split at this
      · rename_i p hp
        split at this
        · obtain ⟨j, ver⟩ := p
          obtain ⟨g1, k2, g2, g3, _⟩ := h.new _ j ver hp
          have hvl := (h2.blk j k2 g2).1
          exact h2.maps j ver B o (by rw [h2.c, ← g3]; exact hvl) this
        · cases this
      · cases this

theorem Pre.refl (H : Hp) : Pre H H := fun _ _ h => h
theorem Pre.trans {A B C : Hp} (h : Pre A B) (k : Pre B C) : Pre A C := fun b x hx => k b x (h b x hx)
theorem Pre.new {H H2 : Hp} (h : Pre H H2) (cells : List AV) : Pre H (H2.new cells) := by
  intro b k hk
  have := h b k hk
  have hb := (List.getElem?_eq_some_iff.1 this).1
  show (H2.bs ++ _)[b]? = some k
  rw [List.getElem?_append_left hb, this]
theorem Pre.at {H H2 : Hp} (h : Pre H H2) {b ver : Nat} {k : Blk} (hk : H.at b ver = some k) : H2.at b ver = some k := by
  obtain ⟨h1, h2⟩ := Hp.at_some hk
  unfold Hp.at
  rw [h b k h1]
  simp [h2]
theorem Can.old_pre {H H2 : Hp} (hw : Wf H) (hp : Pre H H2) (rest : List Blk) : ∀ b, b < H.bs.length → ∃ k, H2.bs[b]? = some k ∧ k.ver < H.c ∧ (H.bs ++ rest)[b]? = some k ∧ (H.bs[b]? = some k ∨ rels H.bs.length H.c [] k.cells = k.cells) := by
  intro b hb
  have h1 : H.bs[b]? = some H.bs[b] := List.getElem?_eq_getElem hb
  exact ⟨H.bs[b], hp b _ h1, hw b _ h1, by rw [List.getElem?_append_left hb, h1], .inl h1⟩
/-- Nothing new is handed back. -/
theorem Can.pure {H H2 : Hp} {r2 r : AV} (hw : Wf H) (hp : Pre H H2) (hr : r2.rel H.bs.length H.c [] = r) : Can H H2 H r2 r [] := by
  refine ⟨rfl, by simp, fun b hb => ?_, fun i j ver h => by simp at h, List.nodup_nil, fun i k hk => ?_, hr⟩
  · obtain ⟨k, h1, h2, h3, h4⟩ := Can.old_pre hw hp [] b hb
    exact ⟨k, h1, h2, by simpa using h3, h4⟩
  · rw [List.getElem?_eq_none (by omega)] at hk; cases hk
/-- A value without an address. -/
def flat : AV → Bool
  | .sl .. | .ptr .. | .agg _ | .tup _ | .func .. | .bad => false
  | _ => true
theorem flat_rel {L c js} {a : AV} (h : flat a = true) : a.rel L c js = a := by cases a <;> first | rfl | cases h
theorem flats_rel {L c js} {l : List AV} (h : l.all flat = true) : rels L c js l = l := by
  rw [rels_eq]
  induction l with
  | nil => rfl
  | cons a l ih => simp only [List.all_cons, Bool.and_eq_true] at h; simp [flat_rel h.1, ih h.2]
theorem flats_bad {l : List AV} (h : l.all flat = true) : AV.bad ∉ l := by
  intro hm
  have := List.all_eq_true.1 h _ hm
  cases this
/-- One new block, without addresses, is handed back. -/
theorem Can.one {H H2 : Hp} {r2 r : AV} {j ver : Nat} {k : Blk} (hw : Wf H) (hp : Pre H H2) (hk : H2.at j ver = some k) (hv : H.c ≤ ver) (hf : k.cells.all flat = true) (hr : r2.rel H.bs.length H.c [(j, ver)] = r) :
    Can H H2 ⟨H.bs ++ [⟨H.c, k.cells, k.tail, k.solo⟩], H.c + 1⟩ r2 r [(j, ver)] := by
  obtain ⟨h1, h2⟩ := Hp.at_some hk
  refine ⟨rfl, by simp, fun b hb => ?_, fun i j' ver' h => ?_, by simp, fun i k' hk' => ?_, hr⟩
  · obtain ⟨k, g1, g2, g3, g4⟩ := Can.old_pre hw hp [⟨H.c, k.cells, k.tail, k.solo⟩] b hb
    refine ⟨k, g1, g2, g3, .inl ?_⟩
    rcases g4 with g4 | _
    · exact g4
    · rwa [List.getElem?_append_left hb] at g3
  · have hi : i = 0 := by
      have := (List.getElem?_eq_some_iff.1 h).1; simp at this; exact this
    subst hi
    simp at h
    obtain ⟨rfl, rfl⟩ := h
    exact ⟨hv, k, h1, h2, by simp [flats_rel hf]⟩
  · have hi : i = 0 := by
      have := (List.getElem?_eq_some_iff.1 hk').1; simp at this; omega
    subst hi
    simp at hk'
    subst hk'
    exact flats_bad hf
open Classical in
/-- A function is sound if its code comes to what is told, named anew. -/
theorem sound_of {P : Program} {T : Tab} {E : Env} (hT : TOK P T) (hE : EOK P E) (hmix : P.follows .mixedOrders = true) {g : Nat} {fn : Func} {c : Code} (A : Ann) {cc : Cc} (hf : P.funcs[g]? = some fn) (hb : fn.body = some c)
    (hn : (fn.name == "runtime.NumGoroutine") = false) (hok : okCode E A c = true) (hsl : okSlots fn.ntmps c = true) (hrec : okRecs A c = true) (hsh : shortC A c = cc) (n : Nat) (hnt : (decide (n ≤ fn.ntmps) && decide (fn.ntmps ≤ 1000000)) = true) (rs : List ResultVar) (hrs : fn.results.toList = rs)
    {F : List AV → Hp → Option (AV × Hp)}
    (hF : ∀ args H r H', Wf H → F args H = some (r, H') → args.length = n ∧ X E T cc (argSl args 0) H fun x s' H2 => (x = .norm ∨ x = .ret) ∧ ∃ vs js, xres T s' H2 rs = some vs ∧ Can H H2 H' (xret vs) r js) : Sound P g F := by
  simp only [Bool.and_eq_true, decide_eq_true_eq] at hnt
  refine ⟨⟨fn, hf, by rw [hb]; rfl, hn⟩, ?_⟩
  intro args H r H' hx B0 w0 G w vargs hst hrv
  obtain ⟨hlen, hX⟩ := hF args H r H' (fun b k hk => (hst.blk b k hk).1) hx
  have hbad : get (argSl args 0) 1000000 = .bad := by
    rw [get_argSl, if_pos (Nat.zero_le _), List.getElem?_eq_none (by omega)]; rfl
  obtain ⟨k, x, s', H2, hk, ⟨hxe, vs, js, hvs, hcan⟩, _⟩ := X_sound hnt.2 c hsl hrec (argSl args 0) H _ hbad (hsh ▸ hX)
  have hs := Sound_body hT hE hmix (F := fun a h => if a = args ∧ h = H then some (xret vs, H2) else none) hf hb hn hok n (by
    intro a h r' h' he
    split at he
    · rename_i hh
      obtain ⟨rfl, rfl⟩ := hh
      cases he
      refine ⟨hlen, k, ?_⟩
      unfold xbody
      rw [hk, hrs]
      rcases hxe with rfl | rfl <;> simp [hvs]
    · cases he) hnt.1
  have := hs.2 args H (xret vs) H2 (by simp) B0 w0 G w vargs hst hrv
  refine this.mono ?_
  rintro e w' ⟨v, G2, rfl, hl, hst2, hrv2⟩
  obtain ⟨G', e1, e2, e3⟩ := hcan.st hst hst2 hl hrv2
  exact ⟨v, G', rfl, e1, e2, e3⟩

end Go.Proofs.Ytokadkakmhfdeaa.Pq
