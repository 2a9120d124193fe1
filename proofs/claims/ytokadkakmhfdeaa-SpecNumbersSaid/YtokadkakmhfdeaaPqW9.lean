/- Walks: the tape. -/
import Derived.Test.YtokadkakmhfdeaaPqW7
set_option linter.unusedVariables false
set_option linter.unusedSimpArgs false
namespace Go.Proofs.Ytokadkakmhfdeaa.Pq
open Go.RowKit

theorem Can.put {H H2 : Hp} {b : Nat} {k k' : Blk} {r2 r : AV} (hw : Wf H) (hk : H.bs[b]? = some k) (hv : k'.ver = k.ver) (hrel : rels H.bs.length H.c [] k'.cells = k'.cells)
    (hp : ∀ (b0 : Nat) (k0 : Blk), (H.put b k').bs[b0]? = some k0 → H2.bs[b0]? = some k0) (hr : r2.rel H.bs.length H.c [] = r) : Can H H2 (H.put b k') r2 r [] := by
  have hb := (List.getElem?_eq_some_iff.1 hk).1
  refine ⟨rfl, by simp [Hp.put], fun b0 hb0 => ?_, fun i j ver h => by simp at h, List.nodup_nil, fun i k0 hk0 => ?_, hr⟩
  · by_cases e : b = b0
    · subst e
      have : (H.put b k').bs[b]? = some k' := by simp [Hp.put, hb]
      exact ⟨k', hp b k' this, by rw [hv]; exact hw b k hk, this, .inr hrel⟩
    · have h1 : H.bs[b0]? = some H.bs[b0] := List.getElem?_eq_getElem hb0
      have : (H.put b k').bs[b0]? = some H.bs[b0] := by simp only [Hp.put]; rw [List.getElem?_set_ne e, h1]
      exact ⟨H.bs[b0], hp b0 _ this, hw b0 _ h1, this, .inl h1⟩
  · have := (List.getElem?_eq_some_iff.1 hk0).1
    simp [Hp.put] at this
    omega

/-- The value does not lie in block b. -/
def off (v : AV) (b : Nat) : Bool := match v with | .sl b' _ _ _ _ _ => !(b' == b) | .nilS => true | .mtS => true | _ => false
theorem at_put {H : Hp} {b b' ver : Nat} {k : Blk} (h : b' ≠ b) : (H.put b k).at b' ver = H.at b' ver := by
  simp only [Hp.at, Hp.put]; rw [List.getElem?_set_ne (fun e => h e.symm)]
theorem ints_put {H : Hp} {b : Nat} {k : Blk} {v : AV} (h : off v b = true) : ints (H.put b k) v = ints H v := by
  unfold ints
  cases v <;> simp only
  rename_i b' ver o n es f
  have : b' ≠ b := by simpa [off] using h
  rw [at_put this]
theorem at_put_same {H : Hp} {b ver : Nat} {k k' : Blk} (h : H.at b ver = some k) (hv : k'.ver = ver) : (H.put b k').at b ver = some k' := by
  have hb := (List.getElem?_eq_some_iff.1 (Hp.at_some h).1).1
  simp [Hp.at, Hp.put, hb, hv]
theorem put_put (H : Hp) (b : Nat) (k k' : Blk) : (H.put b k).put b k' = H.put b k' := by simp [Hp.put]
theorem rel_ints {H : Hp} (hw : Wf H) {v : AV} {l : List Int} (h : ints H v = some l) {js : List (Nat × Nat)} : v.rel H.bs.length H.c js = v := by
  unfold ints at h
  split at h
  · rfl
  · rfl
  · split at h
    · split at h
      · rename_i k hk
        have := at_lt hw hk
        simp [AV.rel, relR, this]
      · cases h
    · cases h
  · cases h

@[simp] theorem anil_ptr (b v o : Nat) : anil (.ptr b v o) = some (.ptr b v o) := rfl
@[simp] theorem fa25_0 (b v o : Nat) : afaddr' T 25 (.ptr b v o) 0 = some (.ptr b v o) := by simp [afaddr', D25, afaddr, T22]
@[simp] theorem fa25_1 (b v o : Nat) : afaddr' T 25 (.ptr b v o) 1 = some (.ptr b v (o + 1)) := by simp [afaddr', D25, afaddr, T3]

/-- A tape: where it is, its numbers' slice, its numbers, how far it is read. -/
structure Tape (H : Hp) (b ver : Nat) (v : AV) (l : List Int) (a : Nat) : Prop where
  at' : H.at b ver = some ⟨ver, [v, .int .i64 a], true, true⟩
  ints : ints H v = some l
  off : off v b = true
  le : a ≤ l.length
  rng : ∀ j : Nat, j < l.length → -9223372036854775808 ≤ nth l j ∧ nth l j < 9223372036854775808
def nextOf (l : List Int) (a : Nat) (n : Int) : Int := if a < l.length ∧ 1 ≤ n then (within (nth l a) 0 1073741824).tmod n else 0
def nextAt (l : List Int) (a : Nat) (n : Int) : Nat := if a < l.length ∧ 1 ≤ n then a + 1 else a
def tapePut (H : Hp) (b ver : Nat) (v : AV) (a : Nat) : Hp := H.put b ⟨ver, [v, .int .i64 a], true, true⟩
open Classical in
noncomputable def F16 (args : List AV) (H : Hp) : Option (AV × Hp) := match args with
  | [.ptr b ver 0, .int .i64 n] => if h : ∃ p : AV × List Int × Nat, Tape H b ver p.1 p.2.1 p.2.2 then
      let p := h.choose
      some (.int .i64 (nextOf p.2.1 p.2.2 n), tapePut H b ver p.1 (nextAt p.2.1 p.2.2 n)) else none
  | _ => none
theorem Tape.uniq {H : Hp} {b ver : Nat} {v v' : AV} {l l' : List Int} {a a' : Nat} (h : Tape H b ver v l a) (h' : Tape H b ver v' l' a') : v = v' ∧ l = l' ∧ a = a' := by
  have e := h.at'
  rw [h'.at'] at e
  simp only [Option.some.injEq, Blk.mk.injEq, List.cons.injEq, AV.int.injEq, true_and, and_true] at e
  obtain ⟨rfl, e2⟩ := e
  have e3 := h.ints
  rw [h'.ints] at e3
  exact ⟨rfl, (Option.some.inj e3).symm, by omega⟩
theorem F16_at {H : Hp} {b ver : Nat} {v : AV} {l : List Int} {a : Nat} (h : Tape H b ver v l a) (n : Int) : F16 [.ptr b ver 0, .int .i64 n] H = some (.int .i64 (nextOf l a n), tapePut H b ver v (nextAt l a n)) := by
  have hex : ∃ p : AV × List Int × Nat, Tape H b ver p.1 p.2.1 p.2.2 := ⟨(v, l, a), h⟩
  have := Tape.uniq hex.choose_spec h
  simp only [F16]
  rw [dif_pos hex]
  rw [this.1, this.2.1, this.2.2]
theorem put_self {H : Hp} {b ver : Nat} {k : Blk} (h : H.at b ver = some k) : H.put b k = H := by
  obtain ⟨h1, _⟩ := Hp.at_some h
  have hb := (List.getElem?_eq_some_iff.1 h1).1
  have : H.bs.set b k = H.bs := by
    apply List.ext_getElem?
    intro i
    by_cases e : b = i
    · subst e; rw [h1]; simp [hb]
    · rw [List.getElem?_set_ne e]
  show (⟨H.bs.set b k, H.c⟩ : Hp) = H
  rw [this]
set_option maxHeartbeats 1000000 in
theorem snd16 : Sound Try.prog 16 (FSem.eff F16).run := by
  refine sound_of hT (EOK_cons snd45 (EOK_nil _)) mixed A16 Try.func16 hb16 (by kernel_rfl) (by kernel_rfl) (by kernel_rfl) (by kernel_rfl) sh16 2 (by kernel_rfl) rs16 hr16 ?_
  intro args H r H' hw h
  have hv : F16 args H = some (r, H') := h
  clear h
  have hargs : ∃ b ver n v l a, args = [.ptr b ver 0, .int .i64 n] ∧ Tape H b ver v l a := by
    unfold F16 at hv
    split at hv
    · rename_i b ver n
      split at hv
      · rename_i hex
        exact ⟨b, ver, n, _, _, _, rfl, hex.choose_spec⟩
      · cases hv
    · cases hv
  obtain ⟨b, ver, n, v, l, a, rfl, ht⟩ := hargs
  rw [F16_at ht] at hv
  have hlen := alenS_ints ht.ints
  have hb := ints_len ht.ints
  have hix := aidxS_ints ht.ints .i64
  have hle := ht.le
  have hk := ht.at'
  have l1 : aload T 3 (.ptr b ver 1) H = some (.int .i64 a) := by simp [aload, T3, hk]
  have l0 : aload T 22 (.ptr b ver 0) H = some v := by simp [aload, T22, hk]
  have ha0 : (0 : Int) ≤ a := Int.natCast_nonneg a
  have hw1 : w ((a : Int) + 1) = ((a + 1 : Nat) : Int) := w_id (by omega)
  have hw2 : w (a : Int) = (a : Int) := w_id (by omega)
  have st : astore T 3 (.ptr b ver 1) (.int .i64 ((a : Int) + 1)) H = some (tapePut H b ver v (a + 1)) := by
    simp only [astore, T3, hk]
    rw [if_pos (by simp [AV.cells, AV.one])]
    rfl
  have hk2 : (tapePut H b ver v (a + 1)).at b ver = some ⟨ver, [v, .int .i64 ((a + 1 : Nat) : Int)], true, true⟩ := at_put_same hk rfl
  have m1 : aload T 3 (.ptr b ver 1) (tapePut H b ver v (a + 1)) = some (.int .i64 ((a : Int) + 1)) := by simp [aload, T3, hk2]
  have m0 : aload T 22 (.ptr b ver 0) (tapePut H b ver v (a + 1)) = some v := by simp [aload, T22, hk2]
  have hi2 : ints (tapePut H b ver v (a + 1)) v = some l := by unfold tapePut; rw [ints_put ht.off]; exact ht.ints
  have hld := aload_nth T3 rfl hi2
  have e45 : ∀ x (G : Hp), F45 [.int .i64 x, .int .i64 0, .int .i64 1073741824] G = some (.int .i64 (within x 0 1073741824)) := by
    intro x G
    simp only [F45]
    rw [if_neg (by decide)]
  refine ⟨rfl, go ?_⟩
  unfold c16
  simp only [argSl]
  simp only [← aidx22, ← alen22] at hix hlen
  have ht' := Hide.mk ht
  have hi3 := Hide.mk hi2
  have hk3 := Hide.mk hk
  have hn : ¬ n < 1 → ¬ n = 0 := by omega
  have hlt2 : ¬ l.length ≤ a → a < l.length := by omega
  clear ht hi2 hk hk2
  replace hv := Hide.mk hv
  repeat' (first | apply goSeq | apply goReg | apply goSeqN | apply goSeqR | apply goSkip | apply goRet | apply goNil | apply goBlock | apply goExit | apply goBlkN | apply goBlkR | apply goBlkE | apply goSeqE | apply goLoopR | apply goLoopE | (apply goOp; (· (simp [*]; try exact rfl)); (· exact rfl)) | (apply goOp0; (· (simp [*]; try exact rfl)); (· exact rfl)) | (apply goYes; (· (simp [*]; done)); (· (simp [*]; try exact rfl)); (· exact rfl)) | (apply goNo; (· (simp [*]; done))) | (apply goNoU; (· (simp; exact rfl))) | (apply goIfT; (· (simp [*]; done))) | (apply goIfF; (· (simp [*]; done))) | (apply goIf; (· (simp; exact rfl)); (· with_reducible exact rfl)) | (apply goSplit; (· (simp; exact rfl)); (· with_reducible exact rfl)) | (apply goIfQ; (· (simp; exact rfl)); (· exact rfl)) | (apply goSplitQ; (· (simp; exact rfl)); (· exact rfl)) | (apply goBlkX; (· rfl)) | intro _)
  · rename_i h1
    have h0 : ¬ a < l.length := by omega
    have hv := hv.out
    simp only [nextOf, nextAt, h0, false_and, if_false] at hv
    rw [show tapePut H b ver v a = H from put_self hk3.out] at hv
    cases hv
    exact goEnd hw (Pre.refl _) (by simp) (by simp [rs16]; exact rfl) rfl rfl
  · rename_i h1 h2
    have h0 : ¬ 1 ≤ n := by omega
    have hv := hv.out
    simp only [nextOf, nextAt, h0, and_false, if_false] at hv
    rw [show tapePut H b ver v a = H from put_self hk3.out] at hv
    cases hv
    exact goEnd hw (Pre.refl _) (by simp) (by simp [rs16]; exact rfl) rfl rfl
  · rename_i h1 h2
    have h0 : a < l.length ∧ 1 ≤ n := by omega
    have hv := hv.out
    simp only [nextOf, nextAt, h0, and_self, if_true] at hv
    cases hv
    obtain ⟨g1, g2⟩ := Hp.at_some hk3.out
    refine ⟨⟨.inr rfl, [.int .i64 ((within (nth l a) 0 1073741824).tmod n)], [], by simp [rs16], ?_⟩⟩
    refine Can.put hw g1 rfl ?_ (fun _ _ h => h) rfl
    simp only [rels_cons, rels_nil, rel_int, rel_ints hw ht'.out.ints]
end Go.Proofs.Ytokadkakmhfdeaa.Pq
