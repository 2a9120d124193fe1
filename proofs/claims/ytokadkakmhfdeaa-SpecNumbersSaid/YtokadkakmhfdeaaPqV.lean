/- Lists that a function makes: by append, by make; handing them back. -/
import Derived.Test.YtokadkakmhfdeaaPqU
import Derived.Test.YtokadkakmhfdeaaPqT
set_option linter.unusedVariables false
set_option linter.unusedSimpArgs false
namespace Go.Proofs.Ytokadkakmhfdeaa.Pq
open Go.RowKit

theorem Wf.new {H : Hp} (h : Wf H) (cells : List AV) : Wf (H.new cells) := by
  intro b k hk
  simp only [Hp.new] at hk ⊢
  rcases Nat.lt_or_ge b H.bs.length with hb | hb
  · rw [List.getElem?_append_left hb] at hk
    exact Nat.lt_succ_of_lt (h b k hk)
  · rw [List.getElem?_append_right hb] at hk
    have := (List.getElem?_eq_some_iff.1 hk).1
    simp at this
    have hb' : b = H.bs.length := by omega
    subst hb'
    simp at hk
    subst hk
    exact Nat.lt_succ_self _

theorem at_lt {H : Hp} (h : Wf H) {b ver : Nat} {k : Blk} (hk : H.at b ver = some k) : ver < H.c := by
  obtain ⟨h1, h2⟩ := Hp.at_some hk
  rw [← h2]; exact h b k h1
theorem new_at (H : Hp) (cells : List AV) : (H.new cells).at H.bs.length H.c = some ⟨H.c, cells, true, true⟩ := by
  simp [Hp.new, Hp.at]
theorem at_new {H : Hp} {b ver : Nat} {k : Blk} (hk : H.at b ver = some k) (cells : List AV) : (H.new cells).at b ver = some k := Pre.at (Pre.new (Pre.refl H) cells) hk

/-- A list of numbers that is this function's own: made since H0, it may be appended to, and written. -/
def Own (H0 H : Hp) (v : AV) (l : List Int) : Prop :=
  (l = [] ∧ v = .nilS) ∨ ∃ b ver, v = .sl b ver 0 l.length 1 false ∧ H0.c ≤ ver ∧ l ≠ [] ∧ H.at b ver = some ⟨ver, l.map (.int .i64), true, true⟩

theorem ints_of_own {H0 H : Hp} {v : AV} {l : List Int} (h : Own H0 H v l) (hl : l.length ≤ 1152921504606846976) : ints H v = some l := by
  rcases h with ⟨rfl, rfl⟩ | ⟨b, ver, rfl, _, _, hk⟩
  · rfl
  · simp only [ints, hl, and_self, if_true, hk, List.drop_zero]
    rw [if_pos (by simp), List.take_of_length_le (by simp), toInts_map]

/-- What was there is as it was; versions are in order; time goes on. -/
structure Ext (H0 H : Hp) : Prop where
  pre : Pre H0 H
  wf : Wf H
  c : H0.c ≤ H.c
theorem Ext.refl {H : Hp} (h : Wf H) : Ext H H := ⟨Pre.refl H, h, Nat.le_refl _⟩
theorem Ext.trans {A B C : Hp} (h : Ext A B) (k : Ext B C) : Ext A C := ⟨h.pre.trans k.pre, k.wf, Nat.le_trans h.c k.c⟩
theorem Ext.new {A B : Hp} (h : Ext A B) (cells : List AV) : Ext A (B.new cells) := ⟨h.pre.new cells, h.wf.new cells, Nat.le_succ_of_le h.c⟩

theorem ints_ext {H H' : Hp} (h : Pre H H') {v : AV} {l : List Int} (hv : ints H v = some l) : ints H' v = some l := by
  unfold ints at hv ⊢
  split at hv
  · exact hv
  · exact hv
  · split at hv
    · rename_i he
      split at hv
      · rename_i k hk
        simp only [he, and_self, if_true, h.at hk]
        exact hv
      · cases hv
    · cases hv
  · cases hv

def abs1 (v : AV) (H : Hp) : Option (AV × Hp) := (afill (fun j => some (j * 1, 1)) [.int .i64 0] [(0, v)]).map fun cs => (.sl H.bs.length H.c 0 1 1 true, H.new cs)
@[simp] theorem abs1_int (n : Int) (H : Hp) : abs1 (.int .i64 n) H = some (.sl H.bs.length H.c 0 1 1 true, H.new [.int .i64 n]) := rfl
@[simp] theorem xdo_bs1 {E : Env} {sh : Bool} {s : Sl} {H : Hp} (x : Operand) : xdo E T sh (.buildSlice 22 1 #[(0, x)]) s H = abs1 (ev s x) H := by
  simp [xdo, aop, D22, T3, rep, abs1]

/-- A number is appended. -/
theorem app_own {H0 H : Hp} {v : AV} {l : List Int} (hw0 : Wf H0) (he : Ext H0 H) (h : Own H0 H v l) (hl : l.length < 1099511627776) (n : Int) :
    ∃ v' H', aapp T false 22 22 v (.sl H.bs.length H.c 0 1 1 true) (H.new [.int .i64 n]) = some (v', H') ∧ Own H0 H' v' (l ++ [n]) ∧ Ext H0 H' := by
  have hx : slCells (H.new [.int .i64 n]) (.sl H.bs.length H.c 0 1 1 true) = some (1, [.int .i64 n]) := by
    simp [slCells, new_at]
  have he1 : Ext H0 (H.new [.int .i64 n]) := he.new _
  rcases h with ⟨rfl, rfl⟩ | ⟨b, ver, rfl, hv, hne, hk⟩
  · refine ⟨.sl (H.new [.int .i64 n]).bs.length (H.new [.int .i64 n]).c 0 1 1 false, (H.new [.int .i64 n]).new [.int .i64 n], ?_, ?_, he1.new _⟩
    · simp only [aapp, D22, T3, Option.bind_some, aappend, hx]
      simp [maxBytes]
    · exact .inr ⟨_, _, rfl, he1.c, by simp, new_at _ _⟩
  · have hk' := at_new hk [.int .i64 n]
    obtain ⟨g1, g2⟩ := Hp.at_some hk'
    have hb := (List.getElem?_eq_some_iff.1 g1).1
    refine ⟨.sl b (H.new [.int .i64 n]).c 0 (l.length + 1) 1 false, ⟨(H.new [.int .i64 n]).bs.set b ⟨(H.new [.int .i64 n]).c, l.map (.int .i64) ++ [.int .i64 n], true, true⟩, (H.new [.int .i64 n]).c + 1⟩, ?_, ?_, ?_⟩
    · simp only [aapp, D22, T3, Option.bind_some, aappend, hx, hk']
      simp [maxBytes]
      omega
    · refine .inr ⟨b, _, by simp, he1.c, by simp, ?_⟩
      simp [Hp.at, hb]
    · refine ⟨?_, ?_, Nat.le_succ_of_le he1.c⟩
      · intro i k hi
        have h1 := he1.pre i k hi
        show ((H.new [.int .i64 n]).bs.set b _)[i]? = some k
        by_cases hib : b = i
        · subst hib
          rw [g1] at h1
          cases h1
          exact absurd (hw0 b _ hi) (Nat.not_lt.2 hv)
        · rw [List.getElem?_set_ne hib]; exact h1
      · intro i k hi
        by_cases hib : b = i
        · subst hib
          simp [hb] at hi
          subst hi
          exact Nat.lt_succ_self _
        · simp only [List.getElem?_set_ne hib] at hi
          exact Nat.lt_succ_of_lt (he1.wf i k hi)

/-- A list of numbers, as it is handed back. -/
def mkS (H : Hp) (l : List Int) : AV × Hp :=
  if l = [] then (.nilS, H) else (.sl H.bs.length H.c 0 l.length 1 false, H.new (l.map (.int .i64)))
theorem mkS_ext {H : Hp} (h : Wf H) (l : List Int) : Ext H (mkS H l).2 := by
  unfold mkS; split
  · exact Ext.refl h
  · exact (Ext.refl h).new _
theorem mkS_own (H : Hp) (l : List Int) : Own H (mkS H l).2 (mkS H l).1 l := by
  unfold mkS; split
  · rename_i h; exact .inl ⟨h, rfl⟩
  · rename_i h; exact .inr ⟨_, _, rfl, Nat.le_refl _, h, new_at _ _⟩
theorem all_flat (l : List Int) : (l.map (AV.int .i64)).all flat = true := by
  induction l with
  | nil => rfl
  | cons a l ih => simp [flat]

theorem goEndS {E : Env} {H0 H : Hp} {x : Ex} {s : Sl} {rs : List ResultVar} {q : Option (List AV)} {v : AV} {l : List Int} {r : AV} {Hr : Hp} (hw : Wf H0) (he : Ext H0 H) (ho : Own H0 H v l) (hx : x = .norm ∨ x = .ret) (e : xres T s H rs = q) (eq : q = some [v]) (hr : mkS H0 l = (r, Hr)) :
    K E T (.fin fun x s' H2 => (x = .norm ∨ x = .ret) ∧ ∃ vs js, xres T s' H2 rs = some vs ∧ Can H0 H2 Hr (xret vs) r js) x s H := by
  rcases ho with ⟨rfl, rfl⟩ | ⟨b, ver, rfl, hv, hne, hk⟩
  · simp only [mkS, if_true] at hr
    cases hr
    exact ⟨⟨hx, _, [], e.trans eq, Can.pure hw he.pre rfl⟩⟩
  · simp only [mkS, if_neg hne] at hr
    cases hr
    refine ⟨⟨hx, _, [(b, ver)], e.trans eq, ?_⟩⟩
    have := Can.one (r2 := .sl b ver 0 l.length 1 false) (r := .sl H0.bs.length H0.c 0 l.length 1 false) hw he.pre hk hv (all_flat l) (by simp [AV.rel, relR, pos, Nat.not_lt.2 hv])
    exact this

/-- A list that was made by make: as long as it is, it may be written. -/
def OwnF (H0 H : Hp) (v : AV) (l : List Int) : Prop :=
  ∃ b ver, v = .sl b ver 0 l.length 1 true ∧ H0.c ≤ ver ∧ H.at b ver = some ⟨ver, l.map (.int .i64), true, true⟩
theorem ints_of_ownF {H0 H : Hp} {v : AV} {l : List Int} (h : OwnF H0 H v l) (hl : l.length ≤ 1152921504606846976) : ints H v = some l := by
  obtain ⟨b, ver, rfl, _, hk⟩ := h
  simp only [ints, hl, and_self, if_true, hk, List.drop_zero]
  rw [if_pos (by simp), List.take_of_length_le (by simp), toInts_map]
theorem rep_ints (n : Nat) : rep n [.int .i64 0] = (List.replicate n (0 : Int)).map (.int .i64) := by
  induction n with
  | zero => rfl
  | succ n ih => simp [rep, ih, List.replicate_succ]
theorem make_own {H0 H : Hp} (he : Ext H0 H) (n : Nat) (hn : n < 1099511627776) :
    ∃ v' H', amake T 22 (.int .i64 n) (.int .i64 n) H = some (v', H') ∧ OwnF H0 H' v' (List.replicate n 0) ∧ Ext H0 H' := by
  refine ⟨_, H.new ((List.replicate n (0 : Int)).map (.int .i64)), ?_, ⟨H.bs.length, H.c, rfl, he.c, new_at _ _⟩, he.new _⟩
  simp only [amake, D22, T3, Option.bind_some]
  rw [if_pos (by refine ⟨trivial, by omega, by omega, by omega⟩)]
  simp [rep_ints]
theorem setAll_one : ∀ (l : List Int) (j : Nat) (x : Int), setAll (l.map (AV.int .i64)) j [.int .i64 x] = (l.set j x).map (.int .i64) := by
  intro l j x
  simp [setAll, List.map_set]
theorem store_own {H0 H : Hp} {v : AV} {l : List Int} (hw0 : Wf H0) (he : Ext H0 H) (h : OwnF H0 H v l) (j : Nat) (hj : j < l.length) (x : Int) :
    ∃ H', astore T 3 (pAt v j) (.int .i64 x) H = some H' ∧ OwnF H0 H' v (l.set j x) ∧ Ext H0 H' := by
  obtain ⟨b, ver, rfl, hv, hk⟩ := h
  obtain ⟨g1, g2⟩ := Hp.at_some hk
  have hb := (List.getElem?_eq_some_iff.1 g1).1
  refine ⟨H.put b ⟨ver, (l.set j x).map (.int .i64), true, true⟩, ?_, ⟨b, ver, by simp, hv, ?_⟩, ?_, ?_, he.c⟩
  · simp only [astore, T3, pAt, hk]
    rw [if_pos (by simp [AV.cells, AV.one]; omega)]
    have := setAll_one l j x
    simp only [Int.toNat_natCast, Nat.zero_add, Nat.mul_one, AV.cells, this]
  · simp [Hp.at, Hp.put, hb]
  · intro i k hi
    have h1 := he.pre i k hi
    show (H.bs.set b _)[i]? = some k
    by_cases hib : b = i
    · subst hib
      rw [g1] at h1
      cases h1
      exact absurd (hw0 b _ hi) (Nat.not_lt.2 hv)
    · rw [List.getElem?_set_ne hib]; exact h1
  · intro i k hi
    simp only [Hp.put] at hi ⊢
    by_cases hib : b = i
    · subst hib
      simp [hb] at hi
      subst hi
      exact (he.wf b _ g1 : ver < H.c)
    · rw [List.getElem?_set_ne hib] at hi
      exact he.wf i k hi
/-- A made list, as it is handed back. -/
def mkF (H : Hp) (l : List Int) : AV × Hp := (.sl H.bs.length H.c 0 l.length 1 true, H.new (l.map (.int .i64)))
theorem mkF_ext {H : Hp} (h : Wf H) (l : List Int) : Ext H (mkF H l).2 := (Ext.refl h).new _
theorem mkF_own (H : Hp) (l : List Int) : OwnF H (mkF H l).2 (mkF H l).1 l := ⟨_, _, rfl, Nat.le_refl _, new_at _ _⟩
theorem goEndF {E : Env} {H0 H : Hp} {x : Ex} {s : Sl} {rs : List ResultVar} {q : Option (List AV)} {v : AV} {l : List Int} {r : AV} {Hr : Hp} (hw : Wf H0) (he : Ext H0 H) (ho : OwnF H0 H v l) (hx : x = .norm ∨ x = .ret) (e : xres T s H rs = q) (eq : q = some [v]) (hr : mkF H0 l = (r, Hr)) :
    K E T (.fin fun x s' H2 => (x = .norm ∨ x = .ret) ∧ ∃ vs js, xres T s' H2 rs = some vs ∧ Can H0 H2 Hr (xret vs) r js) x s H := by
  obtain ⟨b, ver, rfl, hv, hk⟩ := ho
  cases hr
  refine ⟨⟨hx, _, [(b, ver)], e.trans eq, ?_⟩⟩
  exact Can.one (r2 := .sl b ver 0 l.length 1 true) (r := .sl H0.bs.length H0.c 0 l.length 1 true) hw he.pre hk hv (all_flat l) (by simp [AV.rel, relR, pos, Nat.not_lt.2 hv])

theorem Own.new {H0 H : Hp} {v : AV} {l : List Int} (h : Own H0 H v l) (xs : List AV) : Own H0 (H.new xs) v l := by
  rcases h with h | ⟨b, ver, h1, h2, h3, hk⟩
  · exact .inl h
  · exact .inr ⟨b, ver, h1, h2, h3, at_new hk xs⟩
theorem Own.old {A B H : Hp} {v : AV} {l : List Int} (h : Own B H v l) (hc : A.c ≤ B.c) : Own A H v l := by
  rcases h with h | ⟨b, ver, h1, h2, h3, hk⟩
  · exact .inl h
  · exact .inr ⟨b, ver, h1, Nat.le_trans hc h2, h3, hk⟩
/-- As Own, of any cells: n elements of es cells each. -/
def OwnG (es : Nat) (H0 H : Hp) (v : AV) (n : Nat) (cs : List AV) : Prop :=
  (n = 0 ∧ v = .nilS ∧ cs = []) ∨ ∃ b ver, v = .sl b ver 0 n es false ∧ H0.c ≤ ver ∧ n ≠ 0 ∧ cs.length = n * es ∧ H.at b ver = some ⟨ver, cs, true, true⟩
theorem app_gen {H0 H : Hp} {v : AV} {n t e : Nat} {ie : TI} {cs xs : List AV} (hw0 : Wf H0) (hD : T.d t = .slice e) (hT : T e = some ie) (hb : ie.bytes ≠ 0) (he : Ext H0 H) (h : OwnG ie.size H0 H v n cs) (hl : (n + 1) * ie.bytes ≤ maxBytes) (hx : xs.length = ie.size) :
    ∃ v' H', aapp T false t t v (.sl H.bs.length H.c 0 1 ie.size true) (H.new xs) = some (v', H') ∧ OwnG ie.size H0 H' v' (n + 1) (cs ++ xs) ∧ Ext H0 H' := by
  have hsx : slCells (H.new xs) (.sl H.bs.length H.c 0 1 ie.size true) = some (1, xs) := by
    simp only [slCells, new_at]
    rw [if_pos (by omega), List.drop_zero, List.take_of_length_le (by omega)]
  have he1 : Ext H0 (H.new xs) := he.new _
  rcases h with ⟨rfl, rfl, rfl⟩ | ⟨b, ver, rfl, hv, hne, hlen, hk⟩
  · refine ⟨.sl (H.new xs).bs.length (H.new xs).c 0 1 ie.size false, (H.new xs).new xs, ?_, ?_, he1.new _⟩
    · simp only [aapp, hD, hT, Option.bind_some, aappend, hsx]
      rw [if_neg (by simp [hx]), if_neg (by simp), if_pos (by refine ⟨by simpa using hl, hb⟩)]
    · exact .inr ⟨_, _, rfl, he1.c, by simp, by simp [hx], by simpa using new_at _ _⟩
  · have hk' := at_new hk xs
    obtain ⟨g1, g2⟩ := Hp.at_some hk'
    have hb' := (List.getElem?_eq_some_iff.1 g1).1
    refine ⟨.sl b (H.new xs).c 0 (n + 1) ie.size false, ⟨(H.new xs).bs.set b ⟨(H.new xs).c, cs ++ xs, true, true⟩, (H.new xs).c + 1⟩, ?_, ?_, ?_⟩
    · simp only [aapp, hD, hT, Option.bind_some, aappend, hsx, hk']
      rw [if_neg (by simp [hx]), if_neg (by simp), if_neg (by simp only [ne_eq, not_true_eq_false, false_or]; omega), if_neg (by simp), if_pos (by simp [hlen])]
      simp
    · refine .inr ⟨b, _, rfl, he1.c, by simp, by simp [hlen, hx, Nat.add_mul], ?_⟩
      simp [Hp.at, hb']
    · refine ⟨?_, ?_, Nat.le_succ_of_le he1.c⟩
      · intro i k hi
        have h1 := he1.pre i k hi
        show ((H.new xs).bs.set b _)[i]? = some k
        by_cases hib : b = i
        · subst hib
          rw [g1] at h1
          cases h1
          exact absurd (hw0 b _ hi) (Nat.not_lt.2 hv)
        · rw [List.getElem?_set_ne hib]; exact h1
      · intro i k hi
        by_cases hib : b = i
        · subst hib
          simp [hb'] at hi
          subst hi
          exact Nat.lt_succ_self _
        · simp only [List.getElem?_set_ne hib] at hi
          exact Nat.lt_succ_of_lt (he1.wf i k hi)
def mkG (H : Hp) (es n : Nat) (cs : List AV) : AV × Hp :=
  if n = 0 then (.nilS, H) else (.sl H.bs.length H.c 0 n es false, H.new cs)
theorem mkG_ext {H : Hp} (h : Wf H) (es n : Nat) (cs : List AV) : Ext H (mkG H es n cs).2 := by
  unfold mkG; split
  · exact Ext.refl h
  · exact (Ext.refl h).new _
theorem mkG_own (H : Hp) (es n : Nat) (cs : List AV) (hl : cs.length = n * es) : OwnG es H (mkG H es n cs).2 (mkG H es n cs).1 n cs := by
  unfold mkG; split
  · rename_i h; subst h; exact .inl ⟨rfl, rfl, List.eq_nil_of_length_eq_zero (by simpa using hl)⟩
  · rename_i h; exact .inr ⟨_, _, rfl, Nat.le_refl _, h, hl, new_at _ _⟩
theorem own_len {es : Nat} {H0 H : Hp} {v : AV} {n : Nat} {cs : List AV} (h : OwnG es H0 H v n cs) : alenS v = some (.int .i64 n) := by
  rcases h with ⟨rfl, rfl, rfl⟩ | ⟨b, ver, rfl, _⟩ <;> rfl
theorem own_idx {es : Nat} {H0 H : Hp} {v : AV} {n : Nat} {cs : List AV} (h : OwnG es H0 H v n cs) (k : IntKind) (j : Int) : aidxS es v (.int k j) = if 0 ≤ j ∧ j < n then some (pAt v j) else none := by
  rcases h with ⟨rfl, rfl, rfl⟩ | ⟨b, ver, rfl, _⟩
  · simp only [aidxS]; rw [if_neg (by simp)]
  · simp [aidxS, pAt]
theorem Can.g {H H2 Hr : Hp} {es n : Nat} {cs : List AV} {v r : AV} (hw : Wf H) (he : Ext H H2) (ho : OwnG es H H2 v n cs) (hf : cs.all flat = true) (hr : mkG H es n cs = (r, Hr)) :
    ∃ js, (∀ b, Can H H2 Hr (.tup [v, .bool b]) (.tup [r, .bool b]) js) := by
  rcases ho with ⟨rfl, rfl, rfl⟩ | ⟨b, ver, rfl, hv, hne, _, hk⟩
  · cases hr
    exact ⟨[], fun b => Can.pure hw he.pre rfl⟩
  · simp only [mkG, if_neg hne] at hr
    cases hr
    exact ⟨[(b, ver)], fun _ => Can.one (r2 := .tup [.sl b ver 0 n es false, .bool _]) (r := .tup [.sl H.bs.length H.c 0 n es false, .bool _]) hw he.pre hk hv hf (by simp [AV.rel, rels, relR, pos, Nat.not_lt.2 hv])⟩
theorem goEndT {E : Env} {H0 H : Hp} {x : Ex} {s : Sl} {rs : List ResultVar} {q : Option (List AV)} {v r : AV} {Hr : Hp} {es n : Nat} {cs : List AV} {b : Bool} (hw : Wf H0) (he : Ext H0 H) (ho : OwnG es H0 H v n cs) (hf : cs.all flat = true) (hx : x = .norm ∨ x = .ret) (e : xres T s H rs = q) (eq : q = some [v, .bool b]) (hr : mkG H0 es n cs = (r, Hr)) :
    K E T (.fin fun x s' H2 => (x = .norm ∨ x = .ret) ∧ ∃ vs js, xres T s' H2 rs = some vs ∧ Can H0 H2 Hr (xret vs) (.tup [r, .bool b]) js) x s H := by
  obtain ⟨js, h⟩ := Can.g hw he ho hf hr
  exact ⟨⟨hx, _, js, e.trans eq, h b⟩⟩
end Go.Proofs.Ytokadkakmhfdeaa.Pq
